/- Parts of a proof, one behind another: Lt4, Lt2, Wl1, Wl2, Wl3, Wl4, Wl5, Wt1, Wt2, Wp2, Lt5, Wp3, Lt6, Wp1, Wp4. -/
import Derived.Test.YtfbcnpbhhooapaaGreatDoorZParseTrees4
set_option maxHeartbeats 4000000
namespace Go.Proofs.YtfbcnpbhhooapaaGreatDoor.M
set_option linter.unusedSimpArgs false
set_option linter.unusedVariables false
open Go Classical
theorem sp_Q38 : SP 38 = some (.code sc_Q38) := SPof_code rfl Tryz.func38 comp_Q38
theorem Q38_tree (t : PTokens) (r : Token) (t' : PTokens) (T :
  (0 ≤ t.pos) ∧
 ∃ (v1 : Token), (t.l[t.pos.toNat]? = some v1) ∧
 v1 = r ∧ t = t') : R_Q38 t r t' := by
 intro S n0 t0 H0
 have hb0 := H0
 obtain ⟨w0, hB0⟩ := take_some hb0
 have hn0 := o_getBox_lt hB0
 rw [call_code sp_Q38 _ _ rfl]
 have F := U_Q38
 obtain ⟨p1, v1, q2, rfl, rfl⟩ := T
 exact fi (aa hB0 <| aa hn0 <| aa p1 <| aa q2 <| F)
theorem sp_Q42 : SP 42 = some (.code sc_Q42) := SPof_code rfl Tryz.func42 comp_Q42
theorem Q42_tree (t : PTokens) (e_ : Int) (o : Option Int) (t' : PTokens) (T :
  some e_ = o ∧ t = t') : R_Q42 t e_ o t' := by
 intro S n0 t0 H0
 have hb0 := H0
 obtain ⟨w0, hB0⟩ := take_some hb0
 have hn0 := o_getBox_lt hB0
 rw [call_code sp_Q42 _ _ rfl]
 have F := U_Q42
 obtain ⟨rfl, rfl⟩ := T
 exact fi (aa hB0 <| aa hn0 <| F)
theorem sp_Q102 : SP 102 = some (.code sc_Q102) := SPof_code rfl Tryz.func102 comp_Q102
theorem Q102_tree (t : PTokens) (s : List UInt8) (r : Bool) (t' : PTokens) (T :
  ∃ (r1 : Token) (y2 : PTokens), (R_Q38 t r1 y2) ∧
 ((r1.Kind = 4) →
  ∃ (r3 : Token) (y4 : PTokens), (R_Q38 y2 r3 y4) ∧
  (decide (r3.Text = s)) = r ∧ y4 = t') ∧
 (¬ (r1.Kind = 4) →
  false = r ∧ y2 = t')) : R_Q102 t s r t' := by
 intro S n0 t0 H0
 have hb0 := H0
 obtain ⟨w0, hB0⟩ := take_some hb0
 have hn0 := o_getBox_lt hB0
 rw [call_code sp_Q102 _ _ rfl]
 have F := U_Q102
 obtain ⟨r1, y2, q1, T⟩ := T
 simp only [R_Q38, le, List.cons_append, List.nil_append] at q1
 replace F := aa hB0 <| aa hn0 <| aa q1 <| F
 by_cases c2 : r1.Kind = 4
 · replace T := T.1 c2
   obtain ⟨r3, y4, q3, rfl, rfl⟩ := T
   simp only [R_Q38, le, List.cons_append, List.nil_append] at q3
   exact fi (aa (eq_true c2) <| aa q3 <| F)
 · replace T := T.2 c2
   obtain ⟨rfl, rfl⟩ := T
   exact fi (aa (eq_false c2) <| F)
theorem sp_Q67 : SP 67 = some (.code sc_Q67) := SPof_code rfl Tryz.func67 comp_Q67
theorem Q67_tree (t : PTokens) (s : List UInt8) (r : Bool) (t' : PTokens) (T :
  ∃ (r1 : Bool) (y2 : PTokens), (R_Q102 t s r1 y2) ∧
 ((r1 = true) →
  (I64 (y2.pos + 1)) ∧
  true = r ∧ (PTokens.mk y2.l (y2.pos + 1)) = t') ∧
 (¬ (r1 = true) →
  false = r ∧ y2 = t')) : R_Q67 t s r t' := by
 intro S n0 t0 H0
 have hb0 := H0
 obtain ⟨w0, hB0⟩ := take_some hb0
 have hn0 := o_getBox_lt hB0
 rw [call_code sp_Q67 _ _ rfl]
 have F := U_Q67
 obtain ⟨r1, y2, q1, T⟩ := T
 simp only [R_Q102, le, List.cons_append, List.nil_append] at q1
 replace F := aa hB0 <| aa hn0 <| aa q1 <| F
 by_cases c2 : r1 = true
 · replace T := T.1 c2
   obtain ⟨p3, rfl, rfl⟩ := T
   exact fi (aa c2 <| aa p3.wrap <| F)
 · replace T := T.2 c2
   replace c2 := Bool.eq_false_iff.2 c2
   obtain ⟨rfl, rfl⟩ := T
   exact fi (aa c2 <| F)
theorem sp_Q66 : SP 66 = some (.code sc_Q66) := SPof_code rfl Tryz.func66 comp_Q66
theorem Q66_tree (t : PTokens) (s : List UInt8) (o : Option Int) (t' : PTokens) (T :
  ∃ (r1 : Bool) (y2 : PTokens), (R_Q67 t s r1 y2) ∧
 ((r1 = true) →
  none = o ∧ y2 = t') ∧
 (¬ (r1 = true) →
  ∃ (o3 : Option Int) (y4 : PTokens), (R_Q42 y2 5 o3 y4) ∧
  (match o3 with
  | none => (False )
  | some e5 => (some e5 = o ∧ y4 = t')))) : R_Q66 t s o t' := by
 intro S n0 t0 H0
 have hb0 := H0
 obtain ⟨w0, hB0⟩ := take_some hb0
 have hn0 := o_getBox_lt hB0
 rw [call_code sp_Q66 _ _ rfl]
 have F := U_Q66
 obtain ⟨r1, y2, q1, T⟩ := T
 simp only [R_Q67, le, List.cons_append, List.nil_append] at q1
 replace F := aa hB0 <| aa hn0 <| aa q1 <| F
 by_cases c2 : r1 = true
 · replace T := T.1 c2
   obtain ⟨rfl, rfl⟩ := T
   exact fi (aa c2 <| F)
 · replace T := T.2 c2
   replace c2 := Bool.eq_false_iff.2 c2
   obtain ⟨o3, y4, q3, T⟩ := T
   simp only [R_Q42, le, List.cons_append, List.nil_append] at q3
   replace F := aa c2 <| aa q3 <| F
   cases o3 with
   | none => exact False.elim T
   | some e5 =>
     dsimp only at T
     obtain ⟨rfl, rfl⟩ := T
     exact fi F
theorem sp_Q101 : SP 101 = some (.code sc_Q101) := SPof_code rfl Tryz.func101 comp_Q101
theorem Q101_tree (t : PTokens) (o : Option Int) (r : List UInt8) (t' : PTokens) (T :
  ∃ (r1 : Token) (y2 : PTokens), (R_Q38 t r1 y2) ∧
 ((r1.Kind = 3) →
  (I64 (y2.pos + 1)) ∧
  none = o ∧ r1.Text = r ∧ (PTokens.mk y2.l (y2.pos + 1)) = t') ∧
 (¬ (r1.Kind = 3) →
  ∃ (o3 : Option Int) (y4 : PTokens), (R_Q42 y2 5 o3 y4) ∧
  (match o3 with
  | none => (False )
  | some e5 => (some e5 = o ∧ y4 = t')))) : R_Q101 t o r t' := by
 intro S n0 t0 H0
 have hb0 := H0
 obtain ⟨w0, hB0⟩ := take_some hb0
 have hn0 := o_getBox_lt hB0
 rw [call_code sp_Q101 _ _ rfl]
 have F := U_Q101
 obtain ⟨r1, y2, q1, T⟩ := T
 simp only [R_Q38, le, List.cons_append, List.nil_append] at q1
 replace F := aa hB0 <| aa hn0 <| aa q1 <| F
 by_cases c2 : r1.Kind = 3
 · replace T := T.1 c2
   obtain ⟨p3, rfl, rfl, rfl⟩ := T
   exact fi (aa (eq_true c2) <| aa p3.wrap <| F)
 · replace T := T.2 c2
   obtain ⟨o3, y4, q4, T⟩ := T
   simp only [R_Q42, le, List.cons_append, List.nil_append] at q4
   replace F := aa (eq_false c2) <| aa q4 <| F
   cases o3 with
   | none => exact False.elim T
   | some e5 =>
     dsimp only at T
     obtain ⟨rfl, rfl⟩ := T
     exact fi F
theorem sp_Q104 : SP 104 = some (.code sc_Q104) := SPof_code rfl Tryz.func104 comp_Q104
theorem Q104_tree (x : PExprs) (x_g2 : Nat) (x_z2 : Bool) (s : List UInt8) (o : Option Int) (x' : PExprs) (x'_g2 : Nat) (x'_z2 : Bool) (T :
  ∃ (r1 : Bool) (y2 : PTokens), (R_Q102 x.tokens s r1 y2) ∧
 ((r1 = true) →
  ((64 ≤ x.deep) →
   ∃ (o3 : Option Int) (y4 : PTokens), (R_Q42 y2 6 o3 y4) ∧
   (match o3 with
   | none => (False )
   | some e5 => (some e5 = o ∧ (PExprs.mk y4 x.out x.deep) = x' ∧ x_g2 = x'_g2 ∧ x_z2 = x'_z2))) ∧
  (¬ (64 ≤ x.deep) →
   ∃ (o6 : Option Int) (y7 : PTokens), (R_Q66 y2 s o6 y7) ∧
   (match o6 with
   | none => ((I64 (x.deep + 1)) ∧
    none = o ∧ (PExprs.mk y7 x.out (x.deep + 1)) = x' ∧ x_g2 = x'_g2 ∧ x_z2 = x'_z2)
   | some e8 => (some e8 = o ∧ (PExprs.mk y7 x.out x.deep) = x' ∧ x_g2 = x'_g2 ∧ x_z2 = x'_z2)))) ∧
 (¬ (r1 = true) →
  ∃ (o9 : Option Int) (y10 : PTokens), (R_Q66 y2 s o9 y10) ∧
  (match o9 with
  | none => ((I64 (x.deep + 1)) ∧
   none = o ∧ (PExprs.mk y10 x.out (x.deep + 1)) = x' ∧ x_g2 = x'_g2 ∧ x_z2 = x'_z2)
  | some e11 => (some e11 = o ∧ (PExprs.mk y10 x.out x.deep) = x' ∧ x_g2 = x'_g2 ∧ x_z2 = x'_z2)))) : R_Q104 x x_g2 x_z2 s o x' x'_g2 x'_z2 := by
 intro S n0 t0 H0
 obtain ⟨hb0, ha0⟩ := H0
 obtain ⟨w0, hB0⟩ := take_some hb0
 have hn0 := o_getBox_lt hB0
 rw [call_code sp_Q104 _ _ rfl]
 have F := U_Q104
 obtain ⟨r1, y2, q1, T⟩ := T
 simp only [R_Q102, le, List.cons_append, List.nil_append] at q1
 replace F := aa ha0 <| aa hB0 <| aa hn0 <| aa q1 <| F
 by_cases c2 : r1 = true
 · replace T := T.1 c2
   replace F := aa c2 <| F
   by_cases c3 : 64 ≤ x.deep
   · replace T := T.1 c3
     obtain ⟨o3, y4, q4, T⟩ := T
     simp only [R_Q42, le, List.cons_append, List.nil_append] at q4
     replace F := aa (eq_true c3) <| aa q4 <| F
     cases o3 with
     | none => exact False.elim T
     | some e5 =>
       dsimp only at T
       obtain ⟨rfl, rfl, rfl, rfl⟩ := T
       exact fi F
   · replace T := T.2 c3
     obtain ⟨o6, y7, q5, T⟩ := T
     simp only [R_Q66, le, List.cons_append, List.nil_append] at q5
     replace F := aa (eq_false c3) <| aa q5 <| F
     cases o6 with
     | none =>
       dsimp only at T
       obtain ⟨p6, rfl, rfl, rfl, rfl⟩ := T
       exact fi (aa p6.wrap <| F)
     | some e8 =>
       dsimp only at T
       obtain ⟨rfl, rfl, rfl, rfl⟩ := T
       exact fi F
 · replace T := T.2 c2
   replace c2 := Bool.eq_false_iff.2 c2
   obtain ⟨o9, y10, q7, T⟩ := T
   simp only [R_Q66, le, List.cons_append, List.nil_append] at q7
   replace F := aa c2 <| aa q7 <| F
   cases o9 with
   | none =>
     dsimp only at T
     obtain ⟨p8, rfl, rfl, rfl, rfl⟩ := T
     exact fi (aa p8.wrap <| F)
   | some e11 =>
     dsimp only at T
     obtain ⟨rfl, rfl, rfl, rfl⟩ := T
     exact fi F
theorem sp_Q181 : SP 181 = some (.code sc_Q181) := SPof_code rfl Tryz.func181 comp_Q181
theorem Q181_tree (x : PExprs) (x_g2 : Nat) (x_z2 : Bool) (s : List UInt8) (o : Option Int) (x' : PExprs) (x'_g2 : Nat) (x'_z2 : Bool) (T :
  ∃ (o1 : Option Int) (y2 : PTokens), (R_Q66 x.tokens s o1 y2) ∧
 (match o1 with
 | none => ((I64 (x.deep - 1)) ∧
  none = o ∧ (PExprs.mk y2 x.out (x.deep - 1)) = x' ∧ x_g2 = x'_g2 ∧ x_z2 = x'_z2)
 | some e3 => (some e3 = o ∧ (PExprs.mk y2 x.out x.deep) = x' ∧ x_g2 = x'_g2 ∧ x_z2 = x'_z2))) : R_Q181 x x_g2 x_z2 s o x' x'_g2 x'_z2 := by
 intro S n0 t0 H0
 obtain ⟨hb0, ha0⟩ := H0
 obtain ⟨w0, hB0⟩ := take_some hb0
 have hn0 := o_getBox_lt hB0
 rw [call_code sp_Q181 _ _ rfl]
 have F := U_Q181
 obtain ⟨o1, y2, q1, T⟩ := T
 simp only [R_Q66, le, List.cons_append, List.nil_append] at q1
 replace F := aa ha0 <| aa hB0 <| aa hn0 <| aa q1 <| F
 cases o1 with
 | none =>
   dsimp only at T
   obtain ⟨p2, rfl, rfl, rfl, rfl⟩ := T
   exact fi (aa p2.wrap <| F)
 | some e3 =>
   dsimp only at T
   obtain ⟨rfl, rfl, rfl, rfl⟩ := T
   exact fi F
theorem sp_Q105 : SP 105 = some (.code sc_Q105) := SPof_code rfl Tryz.func105 comp_Q105
theorem Q105_tree (x : PExprs) (x_g2 : Nat) (x_z2 : Bool) (kind : Int) (text : List UInt8) (kids : List Int) (r : Int) (x' : PExprs) (x'_g2 : Nat) (x'_z2 : Bool) (T :
  ∃ (r1 : List Int), (R_slices_Clone_int_int kids r1) ∧
 (bigRow (x.out.length + 1) 80) ∧
 (I64 (((x.out.length + 1 : Nat) : Int) - 1)) ∧
 (((x.out.length + 1 : Nat) : Int) - 1) = r ∧ (PExprs.mk x.tokens (x.out ++ [(Node.mk kind 0 text [] r1)]) x.deep) = x' ∧ x_g2 = x'_g2 ∧ x_z2 = x'_z2) : R_Q105 x x_g2 x_z2 kind text kids r x' x'_g2 x'_z2 := by
 intro S n0 t0 H0
 obtain ⟨hb0, ha0⟩ := H0
 obtain ⟨w0, hB0⟩ := take_some hb0
 have hn0 := o_getBox_lt hB0
 rw [call_code sp_Q105 _ _ rfl]
 have F := U_Q105
 obtain ⟨r1, q1, p2, p3, rfl, rfl, rfl, rfl⟩ := T
 simp only [R_slices_Clone_int_int, le, List.cons_append, List.nil_append] at q1
 simp only [bigRow] at p2
 exact fi (aa ha0 <| aa hB0 <| aa hn0 <| aa q1 <| aa p2 <| aa p3.wrap <| F)
theorem sp_Q143 : SP 143 = some (.code sc_Q143) := SPof_code rfl Tryz.func143 comp_Q143
theorem Q143_tree (rank : Int) (s : List UInt8) (ra : Int) (rb : Bool) (T :
  (0 ≤ rank) ∧
 ∃ (v1 : List (List UInt8)), (([[[124, 124]], [[38, 38]], [[61, 61], [33, 61], [60], [60, 61], [62], [62, 61]], [[43], [45]], [[42], [47], [37]]] : List (List (List UInt8)))[rank.toNat]? = some v1) ∧
 ∃ (r2 : Int), (R_slices_Index_string_string v1 s r2) ∧
 (0 ≤ rank) ∧
 ∃ (v3 : Int), (([11, 12, 13, 19, 21] : List Int)[rank.toNat]? = some v3) ∧
 (I64 (v3 + r2)) ∧
 (v3 + r2) = ra ∧ (decide (0 ≤ r2)) = rb) : R_Q143 rank s ra rb := by
 intro S
 rw [call_code sp_Q143 _ _ rfl]
 have F := U_Q143
 obtain ⟨p1, v1, q2, r2, q3, p4, v3, q5, p6, rfl, rfl⟩ := T
 replace q2 := congrArg (Option.map eLS) q2
 rw [← List.getElem?_map] at q2
 simp only [le, List.map_append, Option.map_some] at q2
 simp only [R_slices_Index_string_string, le, List.cons_append, List.nil_append] at q3
 replace q5 := congrArg (Option.map eI) q5
 rw [← List.getElem?_map] at q5
 simp only [le, List.map_append, Option.map_some] at q5
 exact fi (aa p1 <| aa q2 <| aa q3 <| aa p4 <| aa q5 <| aa p6.wrap <| F)
theorem sp_slices_Index_string_string : SP 62 = some (.code sc_slices_Index_string_string) := SPof_code rfl Tryz.func62 comp_slices_Index_string_string
def At_slices_Index_string_string_1 (s : List (List UInt8)) (v : List UInt8) (i1 : Int) (r : Int) : Prop := ∀ (S : Sto) (e : Nat → PV) (f : Fr), e 0 = .list 1 (s.map eS) false ∧ e 1 = .str v ∧ e 7 = .int .i64 (s.length : Int) ∧ e 8 = .int .i64 i1 → k_slices_Index_string_string_1 SP (E SP (.loop b_slices_Index_string_string_1) ⟨e, f :: S⟩) = .ok (.v (.int .i64 r)) S
theorem At_slices_Index_string_string_1_step (s : List (List UInt8)) (v : List UInt8) (i1 : Int) (r : Int) (T :
  ((i1 < (s.length : Int)) →
  (0 ≤ i1) ∧
  ∃ (v2 : List UInt8), (s[i1.toNat]? = some v2) ∧
  ((v = v2) →
   i1 = r) ∧
  (¬ (v = v2) →
   (I64 (i1 + 1)) ∧
   At_slices_Index_string_string_1 s v (i1 + 1) r)) ∧
 (¬ (i1 < (s.length : Int)) →
  (-1) = r)) : At_slices_Index_string_string_1 s v i1 r := by
 intro S e f h
 unfold k_slices_Index_string_string_1
 rw [E_loop]
 have F := U_slices_Index_string_string
 replace F := aa h <| F
 by_cases c1 : i1 < (s.length : Int)
 · replace T := T.1 c1
   obtain ⟨p2, v2, q3, T⟩ := T
   replace F := aa (eq_true c1) <| aa p2 <| aa q3 <| F
   by_cases c4 : v = v2
   · replace T := T.1 c4
     obtain rfl := T
     exact fi (aa (eq_true c4) <| F)
   · replace T := T.2 c4
     obtain ⟨p5, T⟩ := T
     replace F := aa (eq_false c4) <| aa p5.wrap <| F
     exact lo F T
 · replace T := T.2 c1
   obtain rfl := T
   exact fi (aa (eq_false c1) <| F)
theorem slices_Index_string_string_tree (s : List (List UInt8)) (v : List UInt8) (r : Int) (T :
  At_slices_Index_string_string_1 s v 0 r) : R_slices_Index_string_string s v r := by
 intro S
 rw [call_code sp_slices_Index_string_string _ _ rfl]
 have F := U_slices_Index_string_string
 exact lo F T
theorem sp_Q202 : SP 202 = some (.code sc_Q202) := SPof_code rfl Tryz.func202 comp_Q202
theorem Q202_tree (x : PExprs) (x_g2 : Nat) (x_z2 : Bool) (kind : Int) (n : Int) (r : Int) (x' : PExprs) (x'_g2 : Nat) (x'_z2 : Bool) (T :
  ∃ (r1 : Int) (y2 : PExprs) (g3 : Nat) (z4 : Bool), (R_Q105 x x_g2 x_z2 kind [] [] r1 y2 g3 z4) ∧
 (0 ≤ r1) ∧ (r1.toNat < y2.out.length) ∧
 (z4 = false) ∧
 ∃ (v5 : Node), (y2.out[r1.toNat]? = some v5) ∧
 r1 = r ∧ (PExprs.mk y2.tokens (y2.out.set r1.toNat (Node.mk v5.Kind n v5.Text v5.Parts v5.Kids)) y2.deep) = x' ∧ g3 = x'_g2 ∧ z4 = x'_z2) : R_Q202 x x_g2 x_z2 kind n r x' x'_g2 x'_z2 := by
 intro S n0 t0 H0
 obtain ⟨hb0, ha0⟩ := H0
 obtain ⟨w0, hB0⟩ := take_some hb0
 have hn0 := o_getBox_lt hB0
 rw [call_code sp_Q202 _ _ rfl]
 have F := U_Q202
 obtain ⟨r1, y2, g3, z4, q1, p2, p3, p4, v5, q5, rfl, rfl, rfl, rfl⟩ := T
 simp only [R_Q105, le, List.cons_append, List.nil_append] at q1
 exact fi (aa ha0 <| aa hB0 <| aa hn0 <| aa q1 <| aa p2 <| aa p3 <| aa p4 <| aa q5 <| F)
theorem sp_Q201 : SP 201 = some (.code sc_Q201) := SPof_code rfl Tryz.func201 comp_Q201
theorem Q201_tree (x : PExprs) (x_g2 : Nat) (x_z2 : Bool) (o : Option Int) (r : Int) (x' : PExprs) (x'_g2 : Nat) (x'_z2 : Bool) (T :
  ∃ (o2 : Option Int) (r1 : List UInt8) (y3 : PTokens), (R_Q101 x.tokens o2 r1 y3) ∧
 (match o2 with
 | none => (((r1 = [116, 114, 117, 101]) →
   ∃ (r5 : Int) (y6 : PExprs) (g7 : Nat) (z8 : Bool), (R_Q202 (PExprs.mk y3 x.out x.deep) x_g2 x_z2 3 1 r5 y6 g7 z8) ∧
   none = o ∧ r5 = r ∧ y6 = x' ∧ g7 = x'_g2 ∧ z8 = x'_z2) ∧
  (¬ (r1 = [116, 114, 117, 101]) →
   ((r1 = [102, 97, 108, 115, 101]) →
    ∃ (r9 : Int) (y10 : PExprs) (g11 : Nat) (z12 : Bool), (R_Q202 (PExprs.mk y3 x.out x.deep) x_g2 x_z2 3 0 r9 y10 g11 z12) ∧
    none = o ∧ r9 = r ∧ y10 = x' ∧ g11 = x'_g2 ∧ z12 = x'_z2) ∧
   (¬ (r1 = [102, 97, 108, 115, 101]) →
    ∃ (r13 : Bool) (y14 : PTokens), (R_Q67 y3 [46] r13 y14) ∧
    ((r13 = true) →
     (r1.length + 1 ≤ maxInt) ∧
     ∃ (o16 : Option Int) (r15 : List UInt8) (y17 : PTokens), (R_Q101 y14 o16 r15 y17) ∧
     (match o16 with
     | none => ((r1.length + 1 + r15.length ≤ maxInt) ∧
      ∃ (r19 : Int) (y20 : PExprs) (g21 : Nat) (z22 : Bool), (R_Q105 (PExprs.mk y17 x.out x.deep) x_g2 x_z2 4 ((r1 ++ [46]) ++ r15) [] r19 y20 g21 z22) ∧
      none = o ∧ r19 = r ∧ y20 = x' ∧ g21 = x'_g2 ∧ z22 = x'_z2)
     | some e18 => (some e18 = o ∧ (PExprs.mk y17 x.out x.deep) = x' ∧ x_g2 = x'_g2 ∧ x_z2 = x'_z2))) ∧
    (¬ (r13 = true) →
     ∃ (o23 : Option Int) (y24 : PExprs) (g25 : Nat) (z26 : Bool), (R_Q104 (PExprs.mk y14 x.out x.deep) x_g2 x_z2 [40] o23 y24 g25 z26) ∧
     (match o23 with
     | none => (∃ (o29 : Option Int) (r28 : List Int) (y30 : PExprs) (g31 : Nat) (z32 : Bool), (R_Q203 y24 g25 z26 [41] o29 r28 y30 g31 z32) ∧
      (match o29 with
      | none => (∃ (r34 : Int) (y35 : PExprs) (g36 : Nat) (z37 : Bool), (R_Q105 y30 g31 z32 5 r1 r28 r34 y35 g36 z37) ∧
       none = o ∧ r34 = r ∧ y35 = x' ∧ g36 = x'_g2 ∧ z37 = x'_z2)
      | some e33 => (some e33 = o ∧ y30 = x' ∧ g31 = x'_g2 ∧ z32 = x'_z2)))
     | some e27 => (some e27 = o ∧ y24 = x' ∧ g25 = x'_g2 ∧ z26 = x'_z2))))))
 | some e4 => (some e4 = o ∧ (PExprs.mk y3 x.out x.deep) = x' ∧ x_g2 = x'_g2 ∧ x_z2 = x'_z2))) : R_Q201 x x_g2 x_z2 o r x' x'_g2 x'_z2 := by
 intro S n0 t0 H0
 obtain ⟨hb0, ha0⟩ := H0
 obtain ⟨w0, hB0⟩ := take_some hb0
 have hn0 := o_getBox_lt hB0
 rw [call_code sp_Q201 _ _ rfl]
 have F := U_Q201
 obtain ⟨o2, r1, y3, q1, T⟩ := T
 simp only [R_Q101, le, List.cons_append, List.nil_append] at q1
 replace F := aa ha0 <| aa hB0 <| aa hn0 <| aa q1 <| F
 cases o2 with
 | none =>
   dsimp only at T
   by_cases c2 : r1 = [116, 114, 117, 101]
   · replace T := T.1 c2
     obtain ⟨r5, y6, g7, z8, q3, rfl, rfl, rfl, rfl, rfl⟩ := T
     simp only [R_Q202, le, List.cons_append, List.nil_append] at q3
     exact fi (aa (eq_true c2) <| aa q3 <| F)
   · replace T := T.2 c2
     replace F := aa (eq_false c2) <| F
     by_cases c4 : r1 = [102, 97, 108, 115, 101]
     · replace T := T.1 c4
       obtain ⟨r9, y10, g11, z12, q5, rfl, rfl, rfl, rfl, rfl⟩ := T
       simp only [R_Q202, le, List.cons_append, List.nil_append] at q5
       exact fi (aa (eq_true c4) <| aa q5 <| F)
     · replace T := T.2 c4
       obtain ⟨r13, y14, q6, T⟩ := T
       simp only [R_Q67, le, List.cons_append, List.nil_append] at q6
       replace F := aa (eq_false c4) <| aa q6 <| F
       by_cases c7 : r13 = true
       · replace T := T.1 c7
         obtain ⟨p8, o16, r15, y17, q9, T⟩ := T
         simp only [R_Q101, le, List.cons_append, List.nil_append] at q9
         replace F := aa c7 <| aa p8 <| aa q9 <| F
         cases o16 with
         | none =>
           dsimp only at T
           obtain ⟨p10, r19, y20, g21, z22, q11, rfl, rfl, rfl, rfl, rfl⟩ := T
           simp only [R_Q105, le, List.cons_append, List.nil_append] at q11
           exact fi (aa p10 <| aa q11 <| F)
         | some e18 =>
           dsimp only at T
           obtain ⟨rfl, rfl, rfl, rfl⟩ := T
           exact fi F
       · replace T := T.2 c7
         replace c7 := Bool.eq_false_iff.2 c7
         obtain ⟨o23, y24, g25, z26, q12, T⟩ := T
         simp only [R_Q104, le, List.cons_append, List.nil_append] at q12
         replace F := aa c7 <| aa q12 <| F
         cases o23 with
         | none =>
           dsimp only at T
           obtain ⟨o29, r28, y30, g31, z32, q13, T⟩ := T
           simp only [R_Q203, le, List.cons_append, List.nil_append] at q13
           replace F := aa q13 <| F
           cases o29 with
           | none =>
             dsimp only at T
             obtain ⟨r34, y35, g36, z37, q14, rfl, rfl, rfl, rfl, rfl⟩ := T
             simp only [R_Q105, le, List.cons_append, List.nil_append] at q14
             exact fi (aa q14 <| F)
           | some e33 =>
             dsimp only at T
             obtain ⟨rfl, rfl, rfl, rfl⟩ := T
             exact fi F
         | some e27 =>
           dsimp only at T
           obtain ⟨rfl, rfl, rfl, rfl⟩ := T
           exact fi F
 | some e4 =>
   dsimp only at T
   obtain ⟨rfl, rfl, rfl, rfl⟩ := T
   exact fi F
theorem sp_Q180 : SP 180 = some (.code sc_Q180) := SPof_code rfl Tryz.func180 comp_Q180
theorem Q180_tree (x : PExprs) (x_g2 : Nat) (x_z2 : Bool) (o : Option Int) (r : Int) (x' : PExprs) (x'_g2 : Nat) (x'_z2 : Bool) (T :
  ∃ (r1 : Token) (y2 : PTokens), (R_Q38 x.tokens r1 y2) ∧
 ((r1.Kind = 3) →
  ∃ (o4 : Option Int) (r3 : Int) (y5 : PExprs) (g6 : Nat) (z7 : Bool), (R_Q201 (PExprs.mk y2 x.out x.deep) x_g2 x_z2 o4 r3 y5 g6 z7) ∧
  (match o4 with
  | none => (none = o ∧ r3 = r ∧ y5 = x' ∧ g6 = x'_g2 ∧ z7 = x'_z2)
  | some e8 => (some e8 = o ∧ y5 = x' ∧ g6 = x'_g2 ∧ z7 = x'_z2))) ∧
 (¬ (r1.Kind = 3) →
  ((r1.Kind = 1) →
   (I64 (y2.pos + 1)) ∧
   ∃ (r9 : Int) (y10 : PExprs) (g11 : Nat) (z12 : Bool), (R_Q202 (PExprs.mk (PTokens.mk y2.l (y2.pos + 1)) x.out x.deep) x_g2 x_z2 1 r1.Num r9 y10 g11 z12) ∧
   none = o ∧ r9 = r ∧ y10 = x' ∧ g11 = x'_g2 ∧ z12 = x'_z2) ∧
  (¬ (r1.Kind = 1) →
   ((r1.Kind = 2) →
    (I64 (y2.pos + 1)) ∧
    ∃ (r13 : Int) (y14 : PExprs) (g15 : Nat) (z16 : Bool), (R_Q105 (PExprs.mk (PTokens.mk y2.l (y2.pos + 1)) x.out x.deep) x_g2 x_z2 2 [] [] r13 y14 g15 z16) ∧
    (0 ≤ r13) ∧ (r13.toNat < y14.out.length) ∧
    (z16 = false) ∧
    ∃ (v17 : Node), (y14.out[r13.toNat]? = some v17) ∧
    none = o ∧ r13 = r ∧ (PExprs.mk y14.tokens (y14.out.set r13.toNat (Node.mk v17.Kind v17.Num v17.Text r1.Parts v17.Kids)) y14.deep) = x' ∧ g15 = x'_g2 ∧ z16 = x'_z2) ∧
   (¬ (r1.Kind = 2) →
    ∃ (r18 : Bool) (y19 : PTokens), (R_Q102 y2 [91] r18 y19) ∧
    ((r18 = true) →
     ∃ (o20 : Option Int) (y21 : PExprs) (g22 : Nat) (z23 : Bool), (R_Q104 (PExprs.mk y19 x.out x.deep) x_g2 x_z2 [91] o20 y21 g22 z23) ∧
     (match o20 with
     | none => (∃ (o26 : Option Int) (r25 : List Int) (y27 : PExprs) (g28 : Nat) (z29 : Bool), (R_Q203 y21 g22 z23 [93] o26 r25 y27 g28 z29) ∧
      (match o26 with
      | none => (∃ (r31 : Int) (y32 : PExprs) (g33 : Nat) (z34 : Bool), (R_Q105 y27 g28 z29 6 [] r25 r31 y32 g33 z34) ∧
       none = o ∧ r31 = r ∧ y32 = x' ∧ g33 = x'_g2 ∧ z34 = x'_z2)
      | some e30 => (some e30 = o ∧ y27 = x' ∧ g28 = x'_g2 ∧ z29 = x'_z2)))
     | some e24 => (some e24 = o ∧ y21 = x' ∧ g22 = x'_g2 ∧ z23 = x'_z2))) ∧
    (¬ (r18 = true) →
     ∃ (o35 : Option Int) (y36 : PExprs) (g37 : Nat) (z38 : Bool), (R_Q104 (PExprs.mk y19 x.out x.deep) x_g2 x_z2 [40] o35 y36 g37 z38) ∧
     (match o35 with
     | none => (∃ (o41 : Option Int) (r40 : Int) (y42 : PExprs) (g43 : Nat) (z44 : Bool), (R_Q68 y36 g37 z38 o41 r40 y42 g43 z44) ∧
      (match o41 with
      | none => (∃ (o46 : Option Int) (y47 : PExprs) (g48 : Nat) (z49 : Bool), (R_Q181 y42 g43 z44 [41] o46 y47 g48 z49) ∧
       (match o46 with
       | none => (none = o ∧ r40 = r ∧ y47 = x' ∧ g48 = x'_g2 ∧ z49 = x'_z2)
       | some e50 => (some e50 = o ∧ y47 = x' ∧ g48 = x'_g2 ∧ z49 = x'_z2)))
      | some e45 => (some e45 = o ∧ y42 = x' ∧ g43 = x'_g2 ∧ z44 = x'_z2)))
     | some e39 => (some e39 = o ∧ y36 = x' ∧ g37 = x'_g2 ∧ z38 = x'_z2))))))) : R_Q180 x x_g2 x_z2 o r x' x'_g2 x'_z2 := by
 intro S n0 t0 H0
 obtain ⟨hb0, ha0⟩ := H0
 obtain ⟨w0, hB0⟩ := take_some hb0
 have hn0 := o_getBox_lt hB0
 rw [call_code sp_Q180 _ _ rfl]
 have F := U_Q180
 obtain ⟨r1, y2, q1, T⟩ := T
 simp only [R_Q38, le, List.cons_append, List.nil_append] at q1
 replace F := aa ha0 <| aa hB0 <| aa hn0 <| aa q1 <| F
 by_cases c2 : r1.Kind = 3
 · replace T := T.1 c2
   obtain ⟨o4, r3, y5, g6, z7, q3, T⟩ := T
   simp only [R_Q201, le, List.cons_append, List.nil_append] at q3
   replace F := aa (eq_true c2) <| aa q3 <| F
   cases o4 with
   | none =>
     dsimp only at T
     obtain ⟨rfl, rfl, rfl, rfl, rfl⟩ := T
     exact fi F
   | some e8 =>
     dsimp only at T
     obtain ⟨rfl, rfl, rfl, rfl⟩ := T
     exact fi F
 · replace T := T.2 c2
   replace F := aa (eq_false c2) <| F
   by_cases c4 : r1.Kind = 1
   · replace T := T.1 c4
     obtain ⟨p5, r9, y10, g11, z12, q6, rfl, rfl, rfl, rfl, rfl⟩ := T
     simp only [R_Q202, le, List.cons_append, List.nil_append] at q6
     exact fi (aa (eq_true c4) <| aa p5.wrap <| aa q6 <| F)
   · replace T := T.2 c4
     replace F := aa (eq_false c4) <| F
     by_cases c7 : r1.Kind = 2
     · replace T := T.1 c7
       obtain ⟨p8, r13, y14, g15, z16, q9, p10, p11, p12, v17, q13, rfl, rfl, rfl, rfl, rfl⟩ := T
       simp only [R_Q105, le, List.cons_append, List.nil_append] at q9
       exact fi (aa (eq_true c7) <| aa p8.wrap <| aa q9 <| aa p10 <| aa p11 <| aa p12 <| aa q13 <| F)
     · replace T := T.2 c7
       obtain ⟨r18, y19, q14, T⟩ := T
       simp only [R_Q102, le, List.cons_append, List.nil_append] at q14
       replace F := aa (eq_false c7) <| aa q14 <| F
       by_cases c15 : r18 = true
       · replace T := T.1 c15
         obtain ⟨o20, y21, g22, z23, q16, T⟩ := T
         simp only [R_Q104, le, List.cons_append, List.nil_append] at q16
         replace F := aa c15 <| aa q16 <| F
         cases o20 with
         | none =>
           dsimp only at T
           obtain ⟨o26, r25, y27, g28, z29, q17, T⟩ := T
           simp only [R_Q203, le, List.cons_append, List.nil_append] at q17
           replace F := aa q17 <| F
           cases o26 with
           | none =>
             dsimp only at T
             obtain ⟨r31, y32, g33, z34, q18, rfl, rfl, rfl, rfl, rfl⟩ := T
             simp only [R_Q105, le, List.cons_append, List.nil_append] at q18
             exact fi (aa q18 <| F)
           | some e30 =>
             dsimp only at T
             obtain ⟨rfl, rfl, rfl, rfl⟩ := T
             exact fi F
         | some e24 =>
           dsimp only at T
           obtain ⟨rfl, rfl, rfl, rfl⟩ := T
           exact fi F
       · replace T := T.2 c15
         replace c15 := Bool.eq_false_iff.2 c15
         obtain ⟨o35, y36, g37, z38, q19, T⟩ := T
         simp only [R_Q104, le, List.cons_append, List.nil_append] at q19
         replace F := aa c15 <| aa q19 <| F
         cases o35 with
         | none =>
           dsimp only at T
           obtain ⟨o41, r40, y42, g43, z44, q20, T⟩ := T
           simp only [R_Q68, le, List.cons_append, List.nil_append] at q20
           replace F := aa q20 <| F
           cases o41 with
           | none =>
             dsimp only at T
             obtain ⟨o46, y47, g48, z49, q21, T⟩ := T
             simp only [R_Q181, le, List.cons_append, List.nil_append] at q21
             replace F := aa q21 <| F
             cases o46 with
             | none =>
               dsimp only at T
               obtain ⟨rfl, rfl, rfl, rfl, rfl⟩ := T
               exact fi F
             | some e50 =>
               dsimp only at T
               obtain ⟨rfl, rfl, rfl, rfl⟩ := T
               exact fi F
           | some e45 =>
             dsimp only at T
             obtain ⟨rfl, rfl, rfl, rfl⟩ := T
             exact fi F
         | some e39 =>
           dsimp only at T
           obtain ⟨rfl, rfl, rfl, rfl⟩ := T
           exact fi F
theorem sp_Q41 : SP 41 = some (.code sc_Q41) := SPof_code rfl Tryz.func41 comp_Q41
theorem Q41_tree (x : PExprs) (x_g2 : Nat) (x_z2 : Bool) (o : Option Int) (r : List Node) (x' : PExprs) (x'_g2 : Nat) (x'_z2 : Bool) (T :
  ∃ (o2 : Option Int) (r1 : Int) (y3 : PExprs) (g4 : Nat) (z5 : Bool), (R_Q68 (PExprs.mk x.tokens [] x.deep) (x_g2 + 1) false o2 r1 y3 g4 z5) ∧
 (match o2 with
 | none => (none = o ∧ y3.out = r ∧ y3 = x' ∧ g4 = x'_g2 ∧ true = x'_z2)
 | some e6 => (some e6 = o ∧ y3 = x' ∧ g4 = x'_g2 ∧ z5 = x'_z2))) : R_Q41 x x_g2 x_z2 o r x' x'_g2 x'_z2 := by
 intro S n0 t0 H0
 obtain ⟨hb0, ha0⟩ := H0
 obtain ⟨w0, hB0⟩ := take_some hb0
 have hn0 := o_getBox_lt hB0
 rw [call_code sp_Q41 _ _ rfl]
 have F := U_Q41
 obtain ⟨o2, r1, y3, g4, z5, q1, T⟩ := T
 simp only [R_Q68, le, List.cons_append, List.nil_append] at q1
 replace F := aa ha0 <| aa hB0 <| aa hn0 <| aa q1 <| F
 cases o2 with
 | none =>
   dsimp only at T
   obtain ⟨rfl, rfl, rfl, rfl, rfl⟩ := T
   exact fi F
 | some e6 =>
   dsimp only at T
   obtain ⟨rfl, rfl, rfl, rfl⟩ := T
   exact fi F
theorem sp_Q97 : SP 97 = some (.code sc_Q97) := SPof_code rfl Tryz.func97 comp_Q97
def At_Q97_1 (t3 : LTokens) (g4 : Nat) (z5 : Bool) (t' : LTokens) (t'_g2 : Nat) (t'_z2 : Bool) : Prop := ∀ (S : Sto) (e : Nat → PV) (f : Fr) (n0 t0 : Nat), ((getBox S n0 t0).map (List.take 3) = some [.str t3.text.left, .int .i64 t3.text.pos, .sl 0 (.cell t0 2) 0 t3.out.length t3.out.length g4 false] ∧ getArr S n0 (.cell t0 2) = some ⟨5, t3.out.map eToken, z5, g4⟩) → e 0 = .ptr (n0 + 1) t0 0 → k_Q97_1 SP (E SP (.loop b_Q97_1) ⟨e, f :: S⟩) = .ok (.v (.tup [])) (setArr (setBox S n0 t0 ([.str t'.text.left, .int .i64 t'.text.pos, .sl 0 (.cell t0 2) 0 t'.out.length t'.out.length t'_g2 false] ++ ((getBox S n0 t0).getD []).drop 3)) n0 (.cell t0 2) ⟨5, t'.out.map eToken, t'_z2, t'_g2⟩)
theorem At_Q97_1_step (t3 : LTokens) (g4 : Nat) (z5 : Bool) (t' : LTokens) (t'_g2 : Nat) (t'_z2 : Bool) (T :
  ∃ (r6 : Bool), (R_strings_HasPrefix t3.text.left [35] r6) ∧
 ((r6 = true) →
  ∃ (r7 : List UInt8) (r8 : List UInt8) (r9 : Bool), (R_strings_Cut t3.text.left [10] r7 r8 r9) ∧
  ∃ (r10 : List UInt8) (y11 : LText), (R_Q135 t3.text (r7.length : Int) r10 y11) ∧
  ∃ (r12 : List UInt8) (y13 : LText), (R_Q134 y11 [1] r12 y13) ∧
  At_Q97_1 (LTokens.mk y13 t3.out) g4 z5 t' t'_g2 t'_z2) ∧
 (¬ (r6 = true) →
  t3 = t' ∧ g4 = t'_g2 ∧ z5 = t'_z2)) : At_Q97_1 t3 g4 z5 t' t'_g2 t'_z2 := by
 intro S e f n0 t0 H0 h
 obtain ⟨hb0, ha0⟩ := H0
 obtain ⟨w0, hB0⟩ := take_some hb0
 have hn0 := o_getBox_lt hB0
 unfold k_Q97_1
 rw [E_loop]
 have F := U_Q97
 obtain ⟨r6, q1, T⟩ := T
 simp only [R_strings_HasPrefix, le, List.cons_append, List.nil_append] at q1
 replace F := aa ha0 <| aa hB0 <| aa hn0 <| aa h <| aa q1 <| F
 by_cases c2 : r6 = true
 · replace T := T.1 c2
   obtain ⟨r7, r8, r9, q3, r10, y11, q4, r12, y13, q5, T⟩ := T
   simp only [R_strings_Cut, le, List.cons_append, List.nil_append] at q3
   simp only [R_Q135, le, List.cons_append, List.nil_append] at q4
   simp only [R_Q134, le, List.cons_append, List.nil_append] at q5
   replace F := aa c2 <| aa q3 <| aa q4 <| aa q5 <| F
   try simp only [F, lw, lx, le, Nat.reduceMul, UInt8.reduceToNat, reduceIte, reduceCtorEq, Nat.reduceEqDiff, Nat.reduceAdd, Nat.reduceLeDiff, Nat.reduceSub, Nat.reduceLT, Int.reduceEq, Int.reduceLT, Int.reduceLE, Int.reduceToNat, Int.reduceAdd, Int.reduceSub, Int.reduceMul, Int.reduceNeg]
   refine (T _ _ _ n0 t0 ?_ ?_).trans ?_
   all_goals exact fi F
 · replace T := T.2 c2
   replace c2 := Bool.eq_false_iff.2 c2
   obtain ⟨rfl, rfl, rfl⟩ := T
   exact fi (aa c2 <| F)
theorem Q97_tree (t : LTokens) (t_g2 : Nat) (t_z2 : Bool) (t' : LTokens) (t'_g2 : Nat) (t'_z2 : Bool) (T :
  ∃ (r1 : List UInt8) (y2 : LText), (R_Q134 t.text [1] r1 y2) ∧
 At_Q97_1 (LTokens.mk y2 t.out) t_g2 t_z2 t' t'_g2 t'_z2) : R_Q97 t t_g2 t_z2 t' t'_g2 t'_z2 := by
 intro S n0 t0 H0
 obtain ⟨hb0, ha0⟩ := H0
 obtain ⟨w0, hB0⟩ := take_some hb0
 have hn0 := o_getBox_lt hB0
 rw [call_code sp_Q97 _ _ rfl]
 have F := U_Q97
 obtain ⟨r1, y2, q1, T⟩ := T
 simp only [R_Q134, le, List.cons_append, List.nil_append] at q1
 replace F := aa ha0 <| aa hB0 <| aa hn0 <| aa q1 <| F
 try simp only [F, lw, lx, le, Nat.reduceMul, UInt8.reduceToNat, reduceIte, reduceCtorEq, Nat.reduceEqDiff, Nat.reduceAdd, Nat.reduceLeDiff, Nat.reduceSub, Nat.reduceLT, Int.reduceEq, Int.reduceLT, Int.reduceLE, Int.reduceToNat, Int.reduceAdd, Int.reduceSub, Int.reduceMul, Int.reduceNeg]
 refine (T _ _ _ n0 t0 ?_ ?_).trans ?_
 all_goals exact fi F
theorem sp_Q138 : SP 138 = some (.code sc_Q138) := SPof_code rfl Tryz.func138 comp_Q138
theorem Q138_tree (t : LTokens) (t_g2 : Nat) (t_z2 : Bool) (ra : Token) (rb : Bool) (t' : LTokens) (t'_g2 : Nat) (t'_z2 : Bool) (T :
  ∃ (r1 : List UInt8) (y2 : LText), (R_Q134 t.text [2, 3] r1 y2) ∧
 ∃ (r3 : Bool), (R_Q115 r1 r3) ∧
 (Token.mk 3 r1 0 [] 0) = ra ∧ r3 = rb ∧ (LTokens.mk y2 t.out) = t' ∧ t_g2 = t'_g2 ∧ t_z2 = t'_z2) : R_Q138 t t_g2 t_z2 ra rb t' t'_g2 t'_z2 := by
 intro S n0 t0 H0
 obtain ⟨hb0, ha0⟩ := H0
 obtain ⟨w0, hB0⟩ := take_some hb0
 have hn0 := o_getBox_lt hB0
 rw [call_code sp_Q138 _ _ rfl]
 have F := U_Q138
 obtain ⟨r1, y2, q1, r3, q2, rfl, rfl, rfl, rfl, rfl⟩ := T
 simp only [R_Q134, le, List.cons_append, List.nil_append] at q1
 simp only [R_Q115, le, List.cons_append, List.nil_append] at q2
 exact fi (aa ha0 <| aa hB0 <| aa hn0 <| aa q1 <| aa q2 <| F)
theorem sp_Q139 : SP 139 = some (.code sc_Q139) := SPof_code rfl Tryz.func139 comp_Q139
theorem Q139_tree (t : LTokens) (t_g2 : Nat) (t_z2 : Bool) (ra : Token) (rb : Bool) (t' : LTokens) (t'_g2 : Nat) (t'_z2 : Bool) (T :
  ∃ (r1 : List UInt8) (y2 : LText), (R_Q134 t.text [3] r1 y2) ∧
 ∃ (r3 : Int) (r4 : Bool), (R_strconv_Atoi r1 r3 r4) ∧
 ((r4 = true) →
  (Token.mk 1 [] r3 [] 0) = ra ∧ false = rb ∧ (LTokens.mk y2 t.out) = t' ∧ t_g2 = t'_g2 ∧ t_z2 = t'_z2) ∧
 (¬ (r4 = true) →
  ∃ (r5 : List UInt8), (R_strconv_Itoa r3 r5) ∧
  (Token.mk 1 [] r3 [] 0) = ra ∧ (decide (r5 = r1)) = rb ∧ (LTokens.mk y2 t.out) = t' ∧ t_g2 = t'_g2 ∧ t_z2 = t'_z2)) : R_Q139 t t_g2 t_z2 ra rb t' t'_g2 t'_z2 := by
 intro S n0 t0 H0
 obtain ⟨hb0, ha0⟩ := H0
 obtain ⟨w0, hB0⟩ := take_some hb0
 have hn0 := o_getBox_lt hB0
 rw [call_code sp_Q139 _ _ rfl]
 have F := U_Q139
 obtain ⟨r1, y2, q1, r3, r4, q2, T⟩ := T
 simp only [R_Q134, le, List.cons_append, List.nil_append] at q1
 simp only [R_strconv_Atoi, le, List.cons_append, List.nil_append] at q2
 replace F := aa ha0 <| aa hB0 <| aa hn0 <| aa q1 <| aa q2 <| F
 by_cases c3 : r4 = true
 · replace T := T.1 c3
   obtain ⟨rfl, rfl, rfl, rfl, rfl⟩ := T
   exact fi (aa c3 <| F)
 · replace T := T.2 c3
   replace c3 := Bool.eq_false_iff.2 c3
   obtain ⟨r5, q4, rfl, rfl, rfl, rfl, rfl⟩ := T
   simp only [R_strconv_Itoa, le, List.cons_append, List.nil_append] at q4
   exact fi (aa c3 <| aa q4 <| F)
theorem sp_Q140 : SP 140 = some (.code sc_Q140) := SPof_code rfl Tryz.func140 comp_Q140
def At_Q140_1 (i3 : Int) (s4 : List UInt8) (i5 : Int) (i6 : Int) (l7 : List Attr) (g8 : Nat) (l9 : List Part) (g10 : Nat) (z11 : Bool) (t12 : LTokens) (g13 : Nat) (z14 : Bool) (ra : Token) (rb : Bool) (t' : LTokens) (t'_g2 : Nat) (t'_z2 : Bool) : Prop := ∀ (S : Sto) (e : Nat → PV) (f : Fr) (n0 t0 : Nat), ((getBox S n0 t0).map (List.take 3) = some [.str t12.text.left, .int .i64 t12.text.pos, .sl 0 (.cell t0 2) 0 t12.out.length t12.out.length g13 false] ∧ getArr S n0 (.cell t0 2) = some ⟨5, t12.out.map eToken, z14, g13⟩) → e 0 = .ptr (n0 + 1) t0 0 ∧ e 2 = .ptr 0 2 0 ∧ e 4 = .ptr 0 4 0 ∧ f.box 2 = some [.int .i64 i3, .str s4, .int .i64 i5, .sl 0 (.cell 2 3) 0 l7.length l7.length g8 false, .int .i64 i6] ∧ f.box 4 = some [.sl 0 (.cell 4 0) 0 l9.length l9.length g10 false] ∧ f.arr (.cell 2 3) = some ⟨2, l7.map eAttr, false, g8⟩ ∧ f.arr (.cell 4 0) = some ⟨2, l9.map ePart, z11, g10⟩ → k_Q140_1 SP (E SP (.loop b_Q140_1) ⟨e, f :: S⟩) = .ok (.v (.tup [.agg [.int .i64 ra.Kind, .str ra.Text, .int .i64 ra.Num, .list 2 (ra.Parts.map ePart) false, .int .i64 ra.At], .bool rb])) (setArr (setBox S n0 t0 ([.str t'.text.left, .int .i64 t'.text.pos, .sl 0 (.cell t0 2) 0 t'.out.length t'.out.length t'_g2 false] ++ ((getBox S n0 t0).getD []).drop 3)) n0 (.cell t0 2) ⟨5, t'.out.map eToken, t'_z2, t'_g2⟩)
theorem At_Q140_1_step (i3 : Int) (s4 : List UInt8) (i5 : Int) (i6 : Int) (l7 : List Attr) (g8 : Nat) (l9 : List Part) (g10 : Nat) (z11 : Bool) (t12 : LTokens) (g13 : Nat) (z14 : Bool) (ra : Token) (rb : Bool) (t' : LTokens) (t'_g2 : Nat) (t'_z2 : Bool) (T :
  ((t12.text.left = []) →
  (Token.mk 0 [] 0 [] 0) = ra ∧ false = rb ∧ t12 = t' ∧ g13 = t'_g2 ∧ z14 = t'_z2) ∧
 (¬ (t12.text.left = []) →
  ∃ (b15 : UInt8), (t12.text.left[0]? = some b15) ∧
  ∃ (r16 : Int), (R_Q137 b15 r16) ∧
  ((r16 = 4) →
   ∃ (r17 : List UInt8) (y18 : LText), (R_Q135 t12.text 1 r17 y18) ∧
   (Token.mk 2 [] 0 l9 0) = ra ∧ true = rb ∧ (LTokens.mk y18 t12.out) = t' ∧ g13 = t'_g2 ∧ z14 = t'_z2) ∧
  (¬ (r16 = 4) →
   (((b15.toNat : Int) < 32) →
    (Token.mk 0 [] 0 [] 0) = ra ∧ false = rb ∧ t12 = t' ∧ g13 = t'_g2 ∧ z14 = t'_z2) ∧
   (¬ ((b15.toNat : Int) < 32) →
    (((b15.toNat : Int) = 92) →
     ∃ (r19 : UInt8) (r20 : Bool), (R_Q164 t12.text.left r19 r20) ∧
     ((r20 = true) →
      ∃ (y21 : List Part) (g22 : Nat) (z23 : Bool), (R_Q165 l9 g10 z11 r19 y21 g22 z23) ∧
      ∃ (r24 : List UInt8) (y25 : LText), (R_Q135 t12.text 2 r24 y25) ∧
      At_Q140_1 i3 s4 i5 i6 l7 g8 y21 g22 z23 (LTokens.mk y25 t12.out) g13 z14 ra rb t' t'_g2 t'_z2) ∧
     (¬ (r20 = true) →
      (Token.mk 0 [] 0 [] 0) = ra ∧ false = rb ∧ t12 = t' ∧ g13 = t'_g2 ∧ z14 = t'_z2)) ∧
    (¬ ((b15.toNat : Int) = 92) →
     ∃ (r26 : Bool), (R_strings_HasPrefix t12.text.left [36, 123] r26) ∧
     ((r26 = true) →
      ∃ (r27 : List UInt8) (r28 : Bool), (R_Q166 t12.text.left r27 r28) ∧
      ((r28 = true) →
       (bigRow (l9.length + 1) 24) ∧
       (I64 (3 + (r27.length : Int))) ∧
       ∃ (r29 : List UInt8) (y30 : LText), (R_Q135 t12.text (3 + (r27.length : Int)) r29 y30) ∧
       At_Q140_1 i3 s4 i5 i6 l7 g8 (l9 ++ [(Part.mk true r27)]) g10 z11 (LTokens.mk y30 t12.out) g13 z14 ra rb t' t'_g2 t'_z2) ∧
      (¬ (r28 = true) →
       (Token.mk 0 [] 0 [] 0) = ra ∧ false = rb ∧ t12 = t' ∧ g13 = t'_g2 ∧ z14 = t'_z2)) ∧
     (¬ (r26 = true) →
      ∃ (y31 : List Part) (g32 : Nat) (z33 : Bool), (R_Q165 l9 g10 z11 b15 y31 g32 z33) ∧
      ∃ (r34 : List UInt8) (y35 : LText), (R_Q135 t12.text 1 r34 y35) ∧
      At_Q140_1 i3 s4 i5 i6 l7 g8 y31 g32 z33 (LTokens.mk y35 t12.out) g13 z14 ra rb t' t'_g2 t'_z2)))))) : At_Q140_1 i3 s4 i5 i6 l7 g8 l9 g10 z11 t12 g13 z14 ra rb t' t'_g2 t'_z2 := by
 intro S e f n0 t0 H0 h
 obtain ⟨hb0, ha0⟩ := H0
 obtain ⟨w0, hB0⟩ := take_some hb0
 have hn0 := o_getBox_lt hB0
 unfold k_Q140_1
 rw [E_loop]
 have F := U_Q140
 replace F := aa ha0 <| aa hB0 <| aa hn0 <| aa h <| F
 by_cases c1 : t12.text.left = []
 · replace T := T.1 c1
   obtain ⟨rfl, rfl, rfl, rfl, rfl⟩ := T
   exact fi (aa (eq_true c1) <| F)
 · replace T := T.2 c1
   obtain ⟨b15, q2, r16, q3, T⟩ := T
   simp only [R_Q137, le, List.cons_append, List.nil_append] at q3
   replace F := aa (eq_false c1) <| aa q2 <| aa q3 <| F
   by_cases c4 : r16 = 4
   · replace T := T.1 c4
     obtain ⟨r17, y18, q5, rfl, rfl, rfl, rfl, rfl⟩ := T
     simp only [R_Q135, le, List.cons_append, List.nil_append] at q5
     exact fi (aa (eq_true c4) <| aa q5 <| F)
   · replace T := T.2 c4
     replace F := aa (eq_false c4) <| F
     by_cases c6 : (b15.toNat : Int) < 32
     · replace T := T.1 c6
       obtain ⟨rfl, rfl, rfl, rfl, rfl⟩ := T
       exact fi (aa (eq_true c6) <| F)
     · replace T := T.2 c6
       replace F := aa (eq_false c6) <| F
       by_cases c7 : (b15.toNat : Int) = 92
       · replace T := T.1 c7
         obtain ⟨r19, r20, q8, T⟩ := T
         simp only [R_Q164, le, List.cons_append, List.nil_append] at q8
         replace F := aa (eq_true c7) <| aa q8 <| F
         by_cases c9 : r20 = true
         · replace T := T.1 c9
           obtain ⟨y21, g22, z23, q10, r24, y25, q11, T⟩ := T
           simp only [R_Q165, le, List.cons_append, List.nil_append] at q10
           simp only [R_Q135, le, List.cons_append, List.nil_append] at q11
           replace F := aa c9 <| aa q10 <| aa q11 <| F
           try simp only [F, lw, lx, le, Nat.reduceMul, UInt8.reduceToNat, reduceIte, reduceCtorEq, Nat.reduceEqDiff, Nat.reduceAdd, Nat.reduceLeDiff, Nat.reduceSub, Nat.reduceLT, Int.reduceEq, Int.reduceLT, Int.reduceLE, Int.reduceToNat, Int.reduceAdd, Int.reduceSub, Int.reduceMul, Int.reduceNeg]
           refine (T _ _ _ n0 t0 ?_ ?_).trans ?_
           all_goals exact fi F
         · replace T := T.2 c9
           replace c9 := Bool.eq_false_iff.2 c9
           obtain ⟨rfl, rfl, rfl, rfl, rfl⟩ := T
           exact fi (aa c9 <| F)
       · replace T := T.2 c7
         obtain ⟨r26, q12, T⟩ := T
         simp only [R_strings_HasPrefix, le, List.cons_append, List.nil_append] at q12
         replace F := aa (eq_false c7) <| aa q12 <| F
         by_cases c13 : r26 = true
         · replace T := T.1 c13
           obtain ⟨r27, r28, q14, T⟩ := T
           simp only [R_Q166, le, List.cons_append, List.nil_append] at q14
           replace F := aa c13 <| aa q14 <| F
           by_cases c15 : r28 = true
           · replace T := T.1 c15
             obtain ⟨p16, p17, r29, y30, q18, T⟩ := T
             simp only [bigRow] at p16
             simp only [R_Q135, le, List.cons_append, List.nil_append] at q18
             replace F := aa c15 <| aa p16 <| aa p17.wrap <| aa q18 <| F
             try simp only [F, lw, lx, le, Nat.reduceMul, UInt8.reduceToNat, reduceIte, reduceCtorEq, Nat.reduceEqDiff, Nat.reduceAdd, Nat.reduceLeDiff, Nat.reduceSub, Nat.reduceLT, Int.reduceEq, Int.reduceLT, Int.reduceLE, Int.reduceToNat, Int.reduceAdd, Int.reduceSub, Int.reduceMul, Int.reduceNeg]
             refine (T _ _ _ n0 t0 ?_ ?_).trans ?_
             all_goals exact fi F
           · replace T := T.2 c15
             replace c15 := Bool.eq_false_iff.2 c15
             obtain ⟨rfl, rfl, rfl, rfl, rfl⟩ := T
             exact fi (aa c15 <| F)
         · replace T := T.2 c13
           replace c13 := Bool.eq_false_iff.2 c13
           obtain ⟨y31, g32, z33, q19, r34, y35, q20, T⟩ := T
           simp only [R_Q165, le, List.cons_append, List.nil_append] at q19
           simp only [R_Q135, le, List.cons_append, List.nil_append] at q20
           replace F := aa c13 <| aa q19 <| aa q20 <| F
           try simp only [F, lw, lx, le, Nat.reduceMul, UInt8.reduceToNat, reduceIte, reduceCtorEq, Nat.reduceEqDiff, Nat.reduceAdd, Nat.reduceLeDiff, Nat.reduceSub, Nat.reduceLT, Int.reduceEq, Int.reduceLT, Int.reduceLE, Int.reduceToNat, Int.reduceAdd, Int.reduceSub, Int.reduceMul, Int.reduceNeg]
           refine (T _ _ _ n0 t0 ?_ ?_).trans ?_
           all_goals exact fi F
theorem Q140_tree (t : LTokens) (t_g2 : Nat) (t_z2 : Bool) (ra : Token) (rb : Bool) (t' : LTokens) (t'_g2 : Nat) (t'_z2 : Bool) (T :
  ∃ (r1 : List UInt8) (y2 : LText), (R_Q135 t.text 1 r1 y2) ∧
 At_Q140_1 0 [] 0 0 [] 0 [] 0 false (LTokens.mk y2 t.out) t_g2 t_z2 ra rb t' t'_g2 t'_z2) : R_Q140 t t_g2 t_z2 ra rb t' t'_g2 t'_z2 := by
 intro S n0 t0 H0
 obtain ⟨hb0, ha0⟩ := H0
 obtain ⟨w0, hB0⟩ := take_some hb0
 have hn0 := o_getBox_lt hB0
 rw [call_code sp_Q140 _ _ rfl]
 have F := U_Q140
 obtain ⟨r1, y2, q1, T⟩ := T
 simp only [R_Q135, le, List.cons_append, List.nil_append] at q1
 replace F := aa ha0 <| aa hB0 <| aa hn0 <| aa q1 <| F
 try simp only [F, lw, lx, le, Nat.reduceMul, UInt8.reduceToNat, reduceIte, reduceCtorEq, Nat.reduceEqDiff, Nat.reduceAdd, Nat.reduceLeDiff, Nat.reduceSub, Nat.reduceLT, Int.reduceEq, Int.reduceLT, Int.reduceLE, Int.reduceToNat, Int.reduceAdd, Int.reduceSub, Int.reduceMul, Int.reduceNeg]
 refine (T _ _ _ n0 t0 ?_ ?_).trans ?_
 all_goals exact fi F
theorem sp_Q136 : SP 136 = some (.code sc_Q136) := SPof_code rfl Tryz.func136 comp_Q136
theorem Q136_tree (t : LTokens) (t_g2 : Nat) (t_z2 : Bool) (ra : Token) (rb : Bool) (t' : LTokens) (t'_g2 : Nat) (t'_z2 : Bool) (T :
  (0 ≤ (if (t.text.left.length : Int) < 2 then (t.text.left.length : Int) else 2)) ∧ ((if (t.text.left.length : Int) < 2 then (t.text.left.length : Int) else 2).toNat ≤ t.text.left.length) ∧
 ∃ (r1 : Bool), (R_slices_Contains_string_string [[61, 61], [33, 61], [60, 61], [62, 61], [38, 38], [124, 124]] (t.text.left.take ((if (t.text.left.length : Int) < 2 then (t.text.left.length : Int) else 2).toNat)) r1) ∧
 ((r1 = true) →
  ∃ (r2 : List UInt8) (y3 : LText), (R_Q135 t.text (((t.text.left.take ((if (t.text.left.length : Int) < 2 then (t.text.left.length : Int) else 2).toNat)).length : Nat) : Int) r2 y3) ∧
  (Token.mk 4 r2 0 [] 0) = ra ∧ true = rb ∧ (LTokens.mk y3 t.out) = t' ∧ t_g2 = t'_g2 ∧ t_z2 = t'_z2) ∧
 (¬ (r1 = true) →
  (1 ≤ (t.text.left.take ((if (t.text.left.length : Int) < 2 then (t.text.left.length : Int) else 2).toNat)).length) ∧
  ∃ (r4 : Bool), (R_strings_Contains [123, 125, 91, 93, 40, 41, 61, 44, 46, 43, 45, 42, 47, 37, 60, 62, 33, 63, 58] ((t.text.left.take ((if (t.text.left.length : Int) < 2 then (t.text.left.length : Int) else 2).toNat)).take (1)) r4) ∧
  ((r4 = true) →
   ∃ (r5 : List UInt8) (y6 : LText), (R_Q135 t.text ((((t.text.left.take ((if (t.text.left.length : Int) < 2 then (t.text.left.length : Int) else 2).toNat)).take (1)).length : Nat) : Int) r5 y6) ∧
   (Token.mk 4 r5 0 [] 0) = ra ∧ true = rb ∧ (LTokens.mk y6 t.out) = t' ∧ t_g2 = t'_g2 ∧ t_z2 = t'_z2) ∧
  (¬ (r4 = true) →
   (Token.mk 0 [] 0 [] 0) = ra ∧ false = rb ∧ t = t' ∧ t_g2 = t'_g2 ∧ t_z2 = t'_z2))) : R_Q136 t t_g2 t_z2 ra rb t' t'_g2 t'_z2 := by
 intro S n0 t0 H0
 obtain ⟨hb0, ha0⟩ := H0
 obtain ⟨w0, hB0⟩ := take_some hb0
 have hn0 := o_getBox_lt hB0
 rw [call_code sp_Q136 _ _ rfl]
 have F := U_Q136
 obtain ⟨p1, p2, r1, q3, T⟩ := T
 simp only [R_slices_Contains_string_string, le, List.cons_append, List.nil_append] at q3
 replace F := aa ha0 <| aa hB0 <| aa hn0 <| aa p1 <| aa p2 <| aa q3 <| F
 by_cases c4 : r1 = true
 · replace T := T.1 c4
   obtain ⟨r2, y3, q5, rfl, rfl, rfl, rfl, rfl⟩ := T
   simp only [R_Q135, le, List.cons_append, List.nil_append] at q5
   exact fi (aa c4 <| aa q5 <| F)
 · replace T := T.2 c4
   replace c4 := Bool.eq_false_iff.2 c4
   obtain ⟨p6, r4, q7, T⟩ := T
   simp only [R_strings_Contains, le, List.cons_append, List.nil_append] at q7
   replace F := aa c4 <| aa p6 <| aa q7 <| F
   by_cases c8 : r4 = true
   · replace T := T.1 c8
     obtain ⟨r5, y6, q9, rfl, rfl, rfl, rfl, rfl⟩ := T
     simp only [R_Q135, le, List.cons_append, List.nil_append] at q9
     exact fi (aa c8 <| aa q9 <| F)
   · replace T := T.2 c8
     replace c8 := Bool.eq_false_iff.2 c8
     obtain ⟨rfl, rfl, rfl, rfl, rfl⟩ := T
     exact fi (aa c8 <| F)
theorem sp_Q98 : SP 98 = some (.code sc_Q98) := SPof_code rfl Tryz.func98 comp_Q98
theorem Q98_tree (t : LTokens) (t_g2 : Nat) (t_z2 : Bool) (r : Bool) (t' : LTokens) (t'_g2 : Nat) (t'_z2 : Bool) (T :
  ∃ (b1 : UInt8), (t.text.left[0]? = some b1) ∧
 ∃ (r2 : Int), (R_Q137 b1 r2) ∧
 ((r2 = 2) →
  ∃ (r3 : Token) (r4 : Bool) (y5 : LTokens) (g6 : Nat) (z7 : Bool), (R_Q138 t t_g2 t_z2 r3 r4 y5 g6 z7) ∧
  (bigRow (y5.out.length + 1) 64) ∧
  r4 = r ∧ (LTokens.mk y5.text (y5.out ++ [(Token.mk r3.Kind r3.Text r3.Num r3.Parts t.text.pos)])) = t' ∧ g6 = t'_g2 ∧ z7 = t'_z2) ∧
 (¬ (r2 = 2) →
  ((r2 = 3) →
   ∃ (r8 : Token) (r9 : Bool) (y10 : LTokens) (g11 : Nat) (z12 : Bool), (R_Q139 t t_g2 t_z2 r8 r9 y10 g11 z12) ∧
   (bigRow (y10.out.length + 1) 64) ∧
   r9 = r ∧ (LTokens.mk y10.text (y10.out ++ [(Token.mk r8.Kind r8.Text r8.Num r8.Parts t.text.pos)])) = t' ∧ g11 = t'_g2 ∧ z12 = t'_z2) ∧
  (¬ (r2 = 3) →
   ((r2 = 4) →
    ∃ (r13 : Token) (r14 : Bool) (y15 : LTokens) (g16 : Nat) (z17 : Bool), (R_Q140 t t_g2 t_z2 r13 r14 y15 g16 z17) ∧
    (bigRow (y15.out.length + 1) 64) ∧
    r14 = r ∧ (LTokens.mk y15.text (y15.out ++ [(Token.mk r13.Kind r13.Text r13.Num r13.Parts t.text.pos)])) = t' ∧ g16 = t'_g2 ∧ z17 = t'_z2) ∧
   (¬ (r2 = 4) →
    ∃ (r18 : Token) (r19 : Bool) (y20 : LTokens) (g21 : Nat) (z22 : Bool), (R_Q136 t t_g2 t_z2 r18 r19 y20 g21 z22) ∧
    (bigRow (y20.out.length + 1) 64) ∧
    r19 = r ∧ (LTokens.mk y20.text (y20.out ++ [(Token.mk r18.Kind r18.Text r18.Num r18.Parts t.text.pos)])) = t' ∧ g21 = t'_g2 ∧ z22 = t'_z2)))) : R_Q98 t t_g2 t_z2 r t' t'_g2 t'_z2 := by
 intro S n0 t0 H0
 obtain ⟨hb0, ha0⟩ := H0
 obtain ⟨w0, hB0⟩ := take_some hb0
 have hn0 := o_getBox_lt hB0
 rw [call_code sp_Q98 _ _ rfl]
 have F := U_Q98
 obtain ⟨b1, q1, r2, q2, T⟩ := T
 simp only [R_Q137, le, List.cons_append, List.nil_append] at q2
 replace F := aa ha0 <| aa hB0 <| aa hn0 <| aa q1 <| aa q2 <| F
 by_cases c3 : r2 = 2
 · replace T := T.1 c3
   obtain ⟨r3, r4, y5, g6, z7, q4, p5, rfl, rfl, rfl, rfl⟩ := T
   simp only [R_Q138, le, List.cons_append, List.nil_append] at q4
   simp only [bigRow] at p5
   exact fi (aa (eq_true c3) <| aa q4 <| aa p5 <| F)
 · replace T := T.2 c3
   replace F := aa (eq_false c3) <| F
   by_cases c6 : r2 = 3
   · replace T := T.1 c6
     obtain ⟨r8, r9, y10, g11, z12, q7, p8, rfl, rfl, rfl, rfl⟩ := T
     simp only [R_Q139, le, List.cons_append, List.nil_append] at q7
     simp only [bigRow] at p8
     exact fi (aa (eq_true c6) <| aa q7 <| aa p8 <| F)
   · replace T := T.2 c6
     replace F := aa (eq_false c6) <| F
     by_cases c9 : r2 = 4
     · replace T := T.1 c9
       obtain ⟨r13, r14, y15, g16, z17, q10, p11, rfl, rfl, rfl, rfl⟩ := T
       simp only [R_Q140, le, List.cons_append, List.nil_append] at q10
       simp only [bigRow] at p11
       exact fi (aa (eq_true c9) <| aa q10 <| aa p11 <| F)
     · replace T := T.2 c9
       obtain ⟨r18, r19, y20, g21, z22, q12, p13, rfl, rfl, rfl, rfl⟩ := T
       simp only [R_Q136, le, List.cons_append, List.nil_append] at q12
       simp only [bigRow] at p13
       exact fi (aa (eq_false c9) <| aa q12 <| aa p13 <| F)
theorem sp_Q60 : SP 60 = some (.code sc_Q60) := SPof_code rfl Tryz.func60 comp_Q60
def At_Q60_1 (s4 : List UInt8) (i5 : Int) (l6 : List Token) (g7 : Nat) (z8 : Bool) (ra : List Token) (rb : Int) : Prop := ∀ (S : Sto) (e : Nat → PV) (f : Fr), e 4 = .ptr 0 11 0 ∧ f.box 11 = some [.str s4, .int .i64 i5, .sl 0 (.cell 11 2) 0 l6.length l6.length g7 false] ∧ f.arr (.cell 11 2) = some ⟨5, l6.map eToken, z8, g7⟩ → k_Q60_1 SP (E SP (.loop b_Q60_1) ⟨e, f :: S⟩) = .ok (.v (.tup [.list 5 (ra.map eToken) false, .int .i64 rb])) S
theorem At_Q60_1_step (s4 : List UInt8) (i5 : Int) (l6 : List Token) (g7 : Nat) (z8 : Bool) (ra : List Token) (rb : Int) (T :
  ((s4 = []) →
  (bigRow (l6.length + 1) 64) ∧
  (l6 ++ [(Token.mk 0 [] 0 [] i5)]) = ra ∧ 0 = rb) ∧
 (¬ (s4 = []) →
  ∃ (r9 : Bool) (y10 : LTokens) (g11 : Nat) (z12 : Bool), (R_Q98 (LTokens.mk (LText.mk s4 i5) l6) g7 z8 r9 y10 g11 z12) ∧
  ((r9 = true) →
   ∃ (y13 : LTokens) (g14 : Nat) (z15 : Bool), (R_Q97 y10 g11 z12 y13 g14 z15) ∧
   At_Q60_1 y13.text.left y13.text.pos y13.out g14 z15 ra rb) ∧
  (¬ (r9 = true) →
   [] = ra ∧ 5 = rb))) : At_Q60_1 s4 i5 l6 g7 z8 ra rb := by
 intro S e f h
 unfold k_Q60_1
 rw [E_loop]
 have F := U_Q60
 replace F := aa h <| F
 by_cases c1 : s4 = []
 · replace T := T.1 c1
   obtain ⟨p2, rfl, rfl⟩ := T
   simp only [bigRow] at p2
   exact fi (aa (eq_true c1) <| aa p2 <| F)
 · replace T := T.2 c1
   obtain ⟨r9, y10, g11, z12, q3, T⟩ := T
   simp only [R_Q98, le, List.cons_append, List.nil_append] at q3
   replace F := aa (eq_false c1) <| aa q3 <| F
   by_cases c4 : r9 = true
   · replace T := T.1 c4
     obtain ⟨y13, g14, z15, q5, T⟩ := T
     simp only [R_Q97, le, List.cons_append, List.nil_append] at q5
     replace F := aa c4 <| aa q5 <| F
     exact lo F T
   · replace T := T.2 c4
     replace c4 := Bool.eq_false_iff.2 c4
     obtain ⟨rfl, rfl⟩ := T
     exact fi (aa c4 <| F)
theorem Q60_tree (s : List UInt8) (ra : List Token) (rb : Int) (T :
  ((6000 < (s.length : Int)) →
  [] = ra ∧ 4 = rb) ∧
 (¬ (6000 < (s.length : Int)) →
  ∃ (y1 : LTokens) (g2 : Nat) (z3 : Bool), (R_Q97 (LTokens.mk (LText.mk s 0) []) 0 false y1 g2 z3) ∧
  At_Q60_1 y1.text.left y1.text.pos y1.out g2 z3 ra rb)) : R_Q60 s ra rb := by
 intro S
 rw [call_code sp_Q60 _ _ rfl]
 have F := U_Q60
 by_cases c1 : 6000 < (s.length : Int)
 · replace T := T.1 c1
   obtain ⟨rfl, rfl⟩ := T
   exact fi (aa (eq_true c1) <| F)
 · replace T := T.2 c1
   obtain ⟨y1, g2, z3, q2, T⟩ := T
   simp only [R_Q97, le, List.cons_append, List.nil_append] at q2
   replace F := aa (eq_false c1) <| aa q2 <| F
   exact lo F T
theorem sp_Q81 : SP 81 = some (.code sc_Q81) := SPof_code rfl Tryz.func81 comp_Q81
theorem Q81_tree (s : List UInt8) (r : Bool) (T :
  ∃ (r1 : List UInt8), (R_strings_ReplaceAll s [45] [95] r1) ∧
 ∃ (r2 : Bool), (R_Q115 r1 r2) ∧
 ((r2 = true) →
  ∃ (b3 : UInt8), (s[0]? = some b3) ∧
  (((b3.toNat : Int) = 45) →
   false = r) ∧
  (¬ ((b3.toNat : Int) = 45) →
   (!(decide ((b3.toNat : Int) = 95))) = r)) ∧
 (¬ (r2 = true) →
  false = r)) : R_Q81 s r := by
 intro S
 rw [call_code sp_Q81 _ _ rfl]
 have F := U_Q81
 obtain ⟨r1, q1, r2, q2, T⟩ := T
 simp only [R_strings_ReplaceAll, le, List.cons_append, List.nil_append] at q1
 simp only [R_Q115, le, List.cons_append, List.nil_append] at q2
 replace F := aa q1 <| aa q2 <| F
 by_cases c3 : r2 = true
 · replace T := T.1 c3
   obtain ⟨b3, q4, T⟩ := T
   replace F := aa c3 <| aa q4 <| F
   by_cases c5 : (b3.toNat : Int) = 45
   · replace T := T.1 c5
     obtain rfl := T
     exact fi (aa (eq_true c5) <| F)
   · replace T := T.2 c5
     obtain rfl := T
     exact fi (aa (eq_false c5) <| F)
 · replace T := T.2 c3
   replace c3 := Bool.eq_false_iff.2 c3
   obtain rfl := T
   exact fi (aa c3 <| F)
theorem sp_Q122 : SP 122 = some (.code sc_Q122) := SPof_code rfl Tryz.func122 comp_Q122
def At_Q122_1 (s : List UInt8) (i1 : Int) (r : Bool) : Prop := ∀ (S : Sto) (e : Nat → PV) (f : Fr), e 0 = .str s ∧ e 3 = .int .i64 i1 → k_Q122_1 SP (E SP (.loop b_Q122_1) ⟨e, f :: S⟩) = .ok (.v (.bool r)) S
theorem At_Q122_1_step (s : List UInt8) (i1 : Int) (r : Bool) (T :
  ((i1 < (s.length : Int)) →
  (0 ≤ i1) ∧
  ∃ (b2 : UInt8), (s[i1.toNat]? = some b2) ∧
  ((97 ≤ (b2.toNat : Int)) →
   (((b2.toNat : Int) ≤ 122) →
    (I64 (i1 + 1)) ∧
    At_Q122_1 s (i1 + 1) r) ∧
   (¬ ((b2.toNat : Int) ≤ 122) →
    ((0 < i1) →
     ∃ (r3 : Bool), (R_Q119 b2 r3) ∧
     ((r3 = true) →
      (I64 (i1 + 1)) ∧
      At_Q122_1 s (i1 + 1) r) ∧
     (¬ (r3 = true) →
      (((b2.toNat : Int) = 45) →
       (I64 (i1 + 1)) ∧
       At_Q122_1 s (i1 + 1) r) ∧
      (¬ ((b2.toNat : Int) = 45) →
       (((b2.toNat : Int) = 95) →
        (I64 (i1 + 1)) ∧
        At_Q122_1 s (i1 + 1) r) ∧
       (¬ ((b2.toNat : Int) = 95) →
        false = r)))) ∧
    (¬ (0 < i1) →
     false = r))) ∧
  (¬ (97 ≤ (b2.toNat : Int)) →
   ((0 < i1) →
    ∃ (r4 : Bool), (R_Q119 b2 r4) ∧
    ((r4 = true) →
     (I64 (i1 + 1)) ∧
     At_Q122_1 s (i1 + 1) r) ∧
    (¬ (r4 = true) →
     (((b2.toNat : Int) = 45) →
      (I64 (i1 + 1)) ∧
      At_Q122_1 s (i1 + 1) r) ∧
     (¬ ((b2.toNat : Int) = 45) →
      (((b2.toNat : Int) = 95) →
       (I64 (i1 + 1)) ∧
       At_Q122_1 s (i1 + 1) r) ∧
      (¬ ((b2.toNat : Int) = 95) →
       false = r)))) ∧
   (¬ (0 < i1) →
    false = r))) ∧
 (¬ (i1 < (s.length : Int)) →
  ((1 ≤ (s.length : Int)) →
   (decide ((s.length : Int) ≤ 24)) = r) ∧
  (¬ (1 ≤ (s.length : Int)) →
   false = r))) : At_Q122_1 s i1 r := by
 intro S e f h
 unfold k_Q122_1
 rw [E_loop]
 have F := U_Q122
 replace F := aa h <| F
 by_cases c1 : i1 < (s.length : Int)
 · replace T := T.1 c1
   obtain ⟨p2, b2, q3, T⟩ := T
   replace F := aa (eq_true c1) <| aa p2 <| aa q3 <| F
   by_cases c4 : 97 ≤ (b2.toNat : Int)
   · replace T := T.1 c4
     replace F := aa (eq_true c4) <| F
     by_cases c5 : (b2.toNat : Int) ≤ 122
     · replace T := T.1 c5
       obtain ⟨p6, T⟩ := T
       replace F := aa (eq_true c5) <| aa p6.wrap <| F
       exact lo F T
     · replace T := T.2 c5
       replace F := aa (eq_false c5) <| F
       by_cases c7 : 0 < i1
       · replace T := T.1 c7
         obtain ⟨r3, q8, T⟩ := T
         simp only [R_Q119, le, List.cons_append, List.nil_append] at q8
         replace F := aa (eq_true c7) <| aa q8 <| F
         by_cases c9 : r3 = true
         · replace T := T.1 c9
           obtain ⟨p10, T⟩ := T
           replace F := aa c9 <| aa p10.wrap <| F
           exact lo F T
         · replace T := T.2 c9
           replace c9 := Bool.eq_false_iff.2 c9
           replace F := aa c9 <| F
           by_cases c11 : (b2.toNat : Int) = 45
           · replace T := T.1 c11
             obtain ⟨p12, T⟩ := T
             replace F := aa (eq_true c11) <| aa p12.wrap <| F
             exact lo F T
           · replace T := T.2 c11
             replace F := aa (eq_false c11) <| F
             by_cases c13 : (b2.toNat : Int) = 95
             · replace T := T.1 c13
               obtain ⟨p14, T⟩ := T
               replace F := aa (eq_true c13) <| aa p14.wrap <| F
               exact lo F T
             · replace T := T.2 c13
               obtain rfl := T
               exact fi (aa (eq_false c13) <| F)
       · replace T := T.2 c7
         obtain rfl := T
         exact fi (aa (eq_false c7) <| F)
   · replace T := T.2 c4
     replace F := aa (eq_false c4) <| F
     by_cases c15 : 0 < i1
     · replace T := T.1 c15
       obtain ⟨r4, q16, T⟩ := T
       simp only [R_Q119, le, List.cons_append, List.nil_append] at q16
       replace F := aa (eq_true c15) <| aa q16 <| F
       by_cases c17 : r4 = true
       · replace T := T.1 c17
         obtain ⟨p18, T⟩ := T
         replace F := aa c17 <| aa p18.wrap <| F
         exact lo F T
       · replace T := T.2 c17
         replace c17 := Bool.eq_false_iff.2 c17
         replace F := aa c17 <| F
         by_cases c19 : (b2.toNat : Int) = 45
         · replace T := T.1 c19
           obtain ⟨p20, T⟩ := T
           replace F := aa (eq_true c19) <| aa p20.wrap <| F
           exact lo F T
         · replace T := T.2 c19
           replace F := aa (eq_false c19) <| F
           by_cases c21 : (b2.toNat : Int) = 95
           · replace T := T.1 c21
             obtain ⟨p22, T⟩ := T
             replace F := aa (eq_true c21) <| aa p22.wrap <| F
             exact lo F T
           · replace T := T.2 c21
             obtain rfl := T
             exact fi (aa (eq_false c21) <| F)
     · replace T := T.2 c15
       obtain rfl := T
       exact fi (aa (eq_false c15) <| F)
 · replace T := T.2 c1
   replace F := aa (eq_false c1) <| F
   by_cases c23 : 1 ≤ (s.length : Int)
   · replace T := T.1 c23
     obtain rfl := T
     exact fi (aa (eq_true c23) <| F)
   · replace T := T.2 c23
     obtain rfl := T
     exact fi (aa (eq_false c23) <| F)
theorem Q122_tree (s : List UInt8) (r : Bool) (T :
  At_Q122_1 s 0 r) : R_Q122 s r := by
 intro S
 rw [call_code sp_Q122 _ _ rfl]
 have F := U_Q122
 exact lo F T
theorem sp_slices_Contains_int_int : SP 170 = some (.code sc_slices_Contains_int_int) := SPof_code rfl Tryz.func170 comp_slices_Contains_int_int
theorem slices_Contains_int_int_tree (s : List Int) (v : Int) (r : Bool) (T :
  ∃ (r1 : Int), (R_slices_Index_int_int s v r1) ∧
 (decide (0 ≤ r1)) = r) : R_slices_Contains_int_int s v r := by
 intro S
 rw [call_code sp_slices_Contains_int_int _ _ rfl]
 have F := U_slices_Contains_int_int
 obtain ⟨r1, q1, rfl⟩ := T
 simp only [R_slices_Index_int_int, le, List.cons_append, List.nil_append] at q1
 exact fi (aa q1 <| F)
theorem sp_slices_Index_int_int : SP 190 = some (.code sc_slices_Index_int_int) := SPof_code rfl Tryz.func190 comp_slices_Index_int_int
def At_slices_Index_int_int_1 (s : List Int) (v : Int) (i1 : Int) (r : Int) : Prop := ∀ (S : Sto) (e : Nat → PV) (f : Fr), e 0 = .list 1 (s.map eI) false ∧ e 1 = .int .i64 v ∧ e 7 = .int .i64 (s.length : Int) ∧ e 8 = .int .i64 i1 → k_slices_Index_int_int_1 SP (E SP (.loop b_slices_Index_int_int_1) ⟨e, f :: S⟩) = .ok (.v (.int .i64 r)) S
theorem At_slices_Index_int_int_1_step (s : List Int) (v : Int) (i1 : Int) (r : Int) (T :
  ((i1 < (s.length : Int)) →
  (0 ≤ i1) ∧
  ∃ (v2 : Int), (s[i1.toNat]? = some v2) ∧
  ((v = v2) →
   i1 = r) ∧
  (¬ (v = v2) →
   (I64 (i1 + 1)) ∧
   At_slices_Index_int_int_1 s v (i1 + 1) r)) ∧
 (¬ (i1 < (s.length : Int)) →
  (-1) = r)) : At_slices_Index_int_int_1 s v i1 r := by
 intro S e f h
 unfold k_slices_Index_int_int_1
 rw [E_loop]
 have F := U_slices_Index_int_int
 replace F := aa h <| F
 by_cases c1 : i1 < (s.length : Int)
 · replace T := T.1 c1
   obtain ⟨p2, v2, q3, T⟩ := T
   replace F := aa (eq_true c1) <| aa p2 <| aa q3 <| F
   by_cases c4 : v = v2
   · replace T := T.1 c4
     obtain rfl := T
     exact fi (aa (eq_true c4) <| F)
   · replace T := T.2 c4
     obtain ⟨p5, T⟩ := T
     replace F := aa (eq_false c4) <| aa p5.wrap <| F
     exact lo F T
 · replace T := T.2 c1
   obtain rfl := T
   exact fi (aa (eq_false c1) <| F)
theorem slices_Index_int_int_tree (s : List Int) (v : Int) (r : Int) (T :
  At_slices_Index_int_int_1 s v 0 r) : R_slices_Index_int_int s v r := by
 intro S
 rw [call_code sp_slices_Index_int_int _ _ rfl]
 have F := U_slices_Index_int_int
 exact lo F T
theorem sp_slices_Contains_string_string : SP 161 = some (.code sc_slices_Contains_string_string) := SPof_code rfl Tryz.func161 comp_slices_Contains_string_string
theorem slices_Contains_string_string_tree (s : List (List UInt8)) (v : List UInt8) (r : Bool) (T :
  ∃ (r1 : Int), (R_slices_Index_string_string s v r1) ∧
 (decide (0 ≤ r1)) = r) : R_slices_Contains_string_string s v r := by
 intro S
 rw [call_code sp_slices_Contains_string_string _ _ rfl]
 have F := U_slices_Contains_string_string
 obtain ⟨r1, q1, rfl⟩ := T
 simp only [R_slices_Index_string_string, le, List.cons_append, List.nil_append] at q1
 exact fi (aa q1 <| F)
def clsS (c : UInt8) : Int :=
 if c.toNat = 32 ∨ c.toNat = 10 then 1 else if c.toNat = 95 ∨ (97 ≤ c.toNat ∧ c.toNat ≤ 122) then 2
 else if 48 ≤ c.toNat ∧ c.toNat ≤ 57 then 3 else if c.toNat = 34 then 4 else if c.toNat = 35 then 5 else 0
theorem r_class (c : UInt8) : R_Q137 c (clsS c) := by
 apply Q137_tree
 unfold clsS
 repeat' first
  | refine ⟨fun h => ?_, fun h => ?_⟩
  | ((repeat' split) <;> omega)
theorem r_idxI (s : List Int) (v : Int) (hs : s.length < 1000000) : ∀ (k i : Nat), i + k = s.length → ∃ r : Int, At_slices_Index_int_int_1 s v i r ∧ (0 ≤ r ↔ v ∈ s.drop i)
 | 0, i, h => ⟨-1, by
   apply At_slices_Index_int_int_1_step
   exact ⟨fun h => by omega, fun _ => rfl⟩, by rw [List.drop_eq_nil_of_le (by omega)]; simp⟩
 | k + 1, i, h => by
  have hi : i < s.length := by omega
  have hg : s[((i : Nat) : Int).toNat]? = some s[i] := by rw [Int.toNat_natCast]; exact List.getElem?_eq_getElem hi
  have hd : s.drop i = s[i] :: s.drop (i + 1) := List.drop_eq_getElem_cons hi
  by_cases c : v = s[i]
  ·refine ⟨i, ?_, ?_⟩
   ·apply At_slices_Index_int_int_1_step
    exact ⟨fun _ => ⟨by omega, s[i], hg, fun _ => rfl, fun h => absurd c h⟩, fun h => by omega⟩
   ·rw [hd, ← c]; simp
  ·obtain ⟨r, h1, h2⟩ := r_idxI s v hs k (i + 1) (by omega)
   refine ⟨r, ?_, ?_⟩
   ·apply At_slices_Index_int_int_1_step
    exact ⟨fun _ => ⟨by omega, s[i], hg, fun h => absurd h c, fun _ => ⟨⟨by omega, by omega⟩, h1⟩⟩, fun h => by omega⟩
   ·rw [hd, h2, List.mem_cons]; simp [c]
theorem r_containsI (s : List Int) (v : Int) (hs : s.length < 1000000) : R_slices_Contains_int_int s v (decide (v ∈ s)) := by
 apply slices_Contains_int_int_tree
 obtain ⟨r, h1, h2⟩ := r_idxI s v hs s.length 0 (by omega)
 refine ⟨r, slices_Index_int_int_tree s v r h1, ?_⟩
 rw [List.drop_zero] at h2
 exact decide_eq_decide.2 h2
theorem r_idxS (s : List (List UInt8)) (v : List UInt8) (hs : s.length < 1000000) : ∀ (k i : Nat), i + k = s.length → ∃ r : Int, At_slices_Index_string_string_1 s v i r ∧ (0 ≤ r ↔ v ∈ s.drop i)
 | 0, i, h => ⟨-1, by
   apply At_slices_Index_string_string_1_step
   exact ⟨fun h => by omega, fun _ => rfl⟩, by rw [List.drop_eq_nil_of_le (by omega)]; simp⟩
 | k + 1, i, h => by
  have hi : i < s.length := by omega
  have hg : s[((i : Nat) : Int).toNat]? = some s[i] := by rw [Int.toNat_natCast]; exact List.getElem?_eq_getElem hi
  have hd : s.drop i = s[i] :: s.drop (i + 1) := List.drop_eq_getElem_cons hi
  by_cases c : v = s[i]
  ·refine ⟨i, ?_, ?_⟩
   ·apply At_slices_Index_string_string_1_step
    exact ⟨fun _ => ⟨by omega, s[i], hg, fun _ => rfl, fun h => absurd c h⟩, fun h => by omega⟩
   ·rw [hd, ← c]; simp
  ·obtain ⟨r, h1, h2⟩ := r_idxS s v hs k (i + 1) (by omega)
   refine ⟨r, ?_, ?_⟩
   ·apply At_slices_Index_string_string_1_step
    exact ⟨fun _ => ⟨by omega, s[i], hg, fun h => absurd h c, fun _ => ⟨⟨by omega, by omega⟩, h1⟩⟩, fun h => by omega⟩
   ·rw [hd, h2, List.mem_cons]; simp [c]
theorem r_containsS (s : List (List UInt8)) (v : List UInt8) (hs : s.length < 1000000) : R_slices_Contains_string_string s v (decide (v ∈ s)) := by
 apply slices_Contains_string_string_tree
 obtain ⟨r, h1, h2⟩ := r_idxS s v hs s.length 0 (by omega)
 refine ⟨r, slices_Index_string_string_tree s v r h1, ?_⟩
 rw [List.drop_zero] at h2
 exact decide_eq_decide.2 h2
def inC (cl : List Int) (c : UInt8) : Bool := decide (clsS c ∈ cl)
def spanS (cl : List Int) (s : List UInt8) : Nat := (s.takeWhile (inC cl)).length
theorem spanS_le (cl : List Int) : ∀ s : List UInt8, spanS cl s ≤ s.length
 | [] => Nat.le_refl _
 | c :: s => by
  unfold spanS
  rw [List.takeWhile_cons]
  split
  ·have := spanS_le cl s; unfold spanS at this; simp only [List.length_cons]; omega
  ·simp
theorem r_span_loop (s : List UInt8) (cl : List Int) (hc : cl.length < 1000000) (hs : s.length ≤ 1000000) : ∀ (k i : Nat), i + k = s.length → ∀ r : Int, r = (i : Int) + spanS cl (s.drop i) → At_Q151_1 s cl i r := by
 intro k
 induction k with
 | zero =>
  intro i hi r hr
  apply At_Q151_1_step
  rw [List.drop_eq_nil_of_le (by omega)] at hr
  exact ⟨fun h => by omega, fun _ => by rw [hr]; simp [spanS]; omega⟩
 | succ k ih =>
  intro i hi r hr
  have hlt : i < s.length := by omega
  have hg : s[((i : Nat) : Int).toNat]? = some s[i] := by rw [Int.toNat_natCast]; exact List.getElem?_eq_getElem hlt
  have hd : s.drop i = s[i] :: s.drop (i + 1) := List.drop_eq_getElem_cons hlt
  rw [hd, spanS, List.takeWhile_cons] at hr
  apply At_Q151_1_step
  refine ⟨fun _ => ⟨by omega, s[i], hg, _, r_class _, _, r_containsI cl _ hc, fun h => ?_, fun h => ?_⟩, fun h => by omega⟩
  ·refine ⟨⟨by omega, by omega⟩, ih (i + 1) (by omega) r ?_⟩
   have h' : inC cl s[i] = true := h
   rw [hr, if_pos h', spanS]
   simp only [List.length_cons]
   omega
  ·have h' : ¬ inC cl s[i] = true := h
   rw [hr, if_neg h']
   simp
theorem r_span (s : List UInt8) (cl : List Int) (hc : cl.length < 1000000) (hs : s.length ≤ 1000000) : R_Q151 s cl (spanS cl s) := by
 apply Q151_tree
 exact r_span_loop s cl hc hs s.length 0 (by omega) _ (by simp)
theorem r_begins (c : UInt8) : R_Q118 c (decide (clsS c = 2)) := by
 apply Q118_tree
 have hc : clsS c = 2 ↔ (c.toNat = 95 ∨ (97 ≤ c.toNat ∧ c.toNat ≤ 122)) := by
  unfold clsS
  repeat' split
  all_goals (first | omega | (constructor <;> intro h <;> first | omega | exact absurd h (by decide)))
 refine ⟨fun h1 => ⟨fun h2 => ?_, fun h2 => ?_⟩, fun h1 => ?_⟩
 ·exact (decide_eq_true (hc.2 (by omega))).symm
 ·exact decide_eq_decide.2 (by rw [hc]; omega)
 ·exact decide_eq_decide.2 (by rw [hc]; omega)
theorem r_digit (c : UInt8) : R_Q119 c (decide (clsS c = 3)) := by
 apply Q119_tree
 have hc : clsS c = 3 ↔ (48 ≤ c.toNat ∧ c.toNat ≤ 57) := by
  unfold clsS
  repeat' split
  all_goals (first | omega | (constructor <;> intro h <;> first | omega | exact absurd h (by decide)))
 refine ⟨fun h1 => ?_, fun h1 => ?_⟩
 ·exact decide_eq_decide.2 (by rw [hc]; omega)
 ·exact (decide_eq_false (by rw [hc]; omega)).symm
theorem inC23 (c : UInt8) : inC [2, 3] c = true ↔ clsS c = 2 ∨ clsS c = 3 := by
 unfold inC
 simp
theorem r_nameEnd_loop (s : List UInt8) (hs : s.length ≤ 1000000) : ∀ (k i : Nat), i + k = s.length → ∀ r : Int, r = (i : Int) + spanS [2, 3] (s.drop i) → At_Q77_1 s i r := by
 intro k
 induction k with
 | zero =>
  intro i hi r hr
  apply At_Q77_1_step
  rw [List.drop_eq_nil_of_le (by omega)] at hr
  exact ⟨fun h => by omega, fun _ => by rw [hr]; simp [spanS]⟩
 | succ k ih =>
  intro i hi r hr
  have hlt : i < s.length := by omega
  have hg : s[((i : Nat) : Int).toNat]? = some s[i] := by rw [Int.toNat_natCast]; exact List.getElem?_eq_getElem hlt
  have hd : s.drop i = s[i] :: s.drop (i + 1) := List.drop_eq_getElem_cons hlt
  rw [hd, spanS, List.takeWhile_cons] at hr
  have next : (clsS s[i] = 2 ∨ clsS s[i] = 3) → At_Q77_1 s ((i + 1 : Nat) : Int) r := fun h => ih (i + 1) (by omega) r (by
   rw [hr, if_pos ((inC23 _).2 h), spanS]
   simp only [List.length_cons]
   omega)
  apply At_Q77_1_step
  refine ⟨fun _ => ⟨by omega, s[i], hg, _, r_begins _, fun h => ⟨⟨by omega, by omega⟩, next (.inl (of_decide_eq_true h))⟩, fun h1 => ⟨_, r_digit _, fun h => ⟨⟨by omega, by omega⟩, next (.inr (of_decide_eq_true h))⟩, fun h2 => ?_⟩⟩, fun h => by omega⟩
  rw [hr, if_neg]
  ·simp
  ·rw [inC23]
   simp only [decide_eq_true_eq] at h1 h2
   omega
def endS (s : List UInt8) : Nat := match s with
 | [] => 0
 | c :: _ => if clsS c = 2 then spanS [2, 3] s else 0
theorem r_nameEnd (s : List UInt8) (hs : s.length ≤ 1000000) (i : Nat) : R_Q77 s i ((i : Int) + endS (s.drop i)) := by
 apply Q77_tree
 refine ⟨fun h => ?_, fun h => ?_⟩
 ·rw [List.drop_eq_nil_of_le (by omega)]
  simp [endS]
 ·have hlt : i < s.length := by omega
  have hg : s[((i : Nat) : Int).toNat]? = some s[i] := by rw [Int.toNat_natCast]; exact List.getElem?_eq_getElem hlt
  have hd : s.drop i = s[i] :: s.drop (i + 1) := List.drop_eq_getElem_cons hlt
  refine ⟨by omega, s[i], hg, _, r_begins _, fun h => ?_, fun h => ?_⟩
  ·refine r_nameEnd_loop s hs (s.length - i) i (by omega) _ ?_
   rw [hd, endS, if_pos (of_decide_eq_true h)]
  ·rw [hd, endS, if_neg (fun e => h (decide_eq_true e))]
   simp
def nameS (s : List UInt8) : Bool := decide (s ≠ [] ∧ s.length ≤ 24 ∧ endS s = s.length)
theorem r_lexName (s : List UInt8) (hs : s.length ≤ 1000000) : R_Q115 s (nameS s) := by
 apply Q115_tree
 refine ⟨fun h => ?_, fun h => ⟨fun h2 => ?_, fun h2 => ?_⟩⟩
 ·simp [nameS, h]
 ·cases s with
  | nil => exact absurd rfl h
  | cons c t =>
   refine ⟨c, rfl, _, r_class c, fun h3 => ⟨_, r_span _ _ (by decide) hs, ?_⟩, fun h3 => ?_⟩
   ·refine decide_eq_decide.2 ?_
    rw [endS, if_pos h3]
    constructor
    ·intro e; exact ⟨by simp, by omega, by omega⟩
    ·intro e; have := e.2.2; omega
   ·refine (decide_eq_false ?_).symm
    rw [endS, if_neg h3]
    intro e
    have := e.2.2
    simp at this
 ·refine (decide_eq_false fun e => ?_).symm
  have := e.2.1
  omega
theorem index1 (b : UInt8) : ∀ s : List UInt8, Lib.index s [b] = if b ∈ s then ((s.takeWhile (· != b)).length : Int) else -1
 | [] => by simp [Lib.index]
 | c :: l => by
  unfold Lib.index
  rw [index1 b l]
  by_cases h : b = c
  ·subst h
   simp [List.takeWhile_cons]
  ·have h' : ¬ c = b := fun e => h e.symm
   by_cases hm : b ∈ l
   ·simp [List.takeWhile_cons, h, h', hm]
   ·simp [h, hm]
theorem take_while_len (p : UInt8 → Bool) : ∀ s : List UInt8, s.take (s.takeWhile p).length = s.takeWhile p
 | [] => rfl
 | c :: s => by
  rw [List.takeWhile_cons]
  split
  ·simp [take_while_len p s]
  ·rfl
theorem drop_while_len (p : UInt8 → Bool) : ∀ s : List UInt8, s.drop (s.takeWhile p).length = s.dropWhile p
 | [] => rfl
 | c :: s => by
  rw [List.takeWhile_cons, List.dropWhile_cons]
  split
  ·simp [drop_while_len p s]
  ·rfl
theorem cut1 (b : UInt8) (s : List UInt8) : Lib.cut s [b] = if b ∈ s then (s.takeWhile (· != b), (s.dropWhile (· != b)).drop 1, true) else (s, [], false) := by
 unfold Lib.cut
 rw [index1]
 by_cases h : b ∈ s
 ·simp only [h, if_true]
  rw [if_pos (by omega)]
  simp only [Int.toNat_natCast, List.length_cons, List.length_nil, Nat.zero_add]
  rw [take_while_len, ← drop_while_len, List.drop_drop]
 ·simp [h]
theorem r_Cut (s p : List UInt8) (hs : s.length ≤ 1000000) : R_strings_Cut s p (Lib.cut s p).1 (Lib.cut s p).2.1 (Lib.cut s p).2.2 := fun S => call_ext sp_strings_Cut S (if_pos (by omega))
theorem r_HasPrefix (s p : List UInt8) : R_strings_HasPrefix s p (Lib.hasPrefix s p) := fun S => call_ext sp_strings_HasPrefix S rfl
theorem r_SContains (s p : List UInt8) (hs : s.length ≤ 1000000) : R_strings_Contains s p (Lib.contains s p) := fun S => call_ext sp_strings_Contains S (if_pos (by omega))
theorem r_refName (s : List UInt8) (hs : s.length ≤ 1000000) : R_Q79 s (nameS s) := by
 apply Q79_tree
 refine ⟨fun h => ?_, fun h => ⟨fun h2 => ⟨_, r_nameEnd s hs 0, ?_⟩, fun h2 => ?_⟩⟩
 ·simp [nameS, h]
 ·refine decide_eq_decide.2 ?_
  rw [List.drop_zero]
  constructor
  ·intro e; exact ⟨h, by omega, by omega⟩
  ·intro e; have := e.2.2; omega
 ·refine (decide_eq_false fun e => ?_).symm
  have := e.2.1
  omega
def dottedS (s : List UInt8) : Bool := (Lib.cut s [46]).2.2 && nameS (Lib.cut s [46]).1 && nameS (Lib.cut s [46]).2.1
def refS (s : List UInt8) : List UInt8 × Bool := ((Lib.cut s [125]).1, (Lib.cut s [125]).2.2 && dottedS (Lib.cut s [125]).1)
theorem cut_len1 (s p : List UInt8) : (Lib.cut s p).1.length ≤ s.length := by
 unfold Lib.cut
 split
 ·simp; omega
 ·simp
theorem cut_len2 (s p : List UInt8) : (Lib.cut s p).2.1.length ≤ s.length := by
 unfold Lib.cut
 split
 ·simp
 ·simp
theorem r_reference (s : List UInt8) (h2 : 2 ≤ s.length) (hs : s.length ≤ 1000000) : R_Q166 s (refS (s.drop 2)).1 (refS (s.drop 2)).2 := by
 apply Q166_tree
 have e : (s.drop 2).take (s.length - 2) = s.drop 2 := List.take_of_length_le (by simp)
 rw [e]
 have l0 : (s.drop 2).length ≤ 1000000 := by simp; omega
 generalize s.drop 2 = t at l0
 have l1 := cut_len1 t [125]
 have l2 := cut_len1 (Lib.cut t [125]).1 [46]
 have l3 := cut_len2 (Lib.cut t [125]).1 [46]
 refine ⟨h2, _, _, _, r_Cut t [125] l0, _, _, _, r_Cut _ [46] (by omega), fun h3 => ⟨fun h6 => ⟨_, r_lexName _ (by omega), fun h7 => ⟨_, r_lexName _ (by omega), rfl, ?_⟩, fun h7 => ⟨rfl, ?_⟩⟩, fun h6 => ⟨rfl, ?_⟩⟩, fun h3 => ⟨rfl, ?_⟩⟩
 ·simp [refS, dottedS, h3, h6, h7]
 ·simp [refS, dottedS, h7]
 ·simp [refS, dottedS, h6]
 ·simp [refS, h3]
theorem takeWhile_stop (p : UInt8 → Bool) : ∀ (u : List UInt8) (c : UInt8) (v : List UInt8), (∀ x ∈ u, p x = true) → p c = false → (u ++ c :: v).takeWhile p = u
 | [], c, v, _, hc => by simp [List.takeWhile_cons, hc]
 | x :: u, c, v, h, hc => by
  rw [List.cons_append, List.takeWhile_cons, if_pos (h x (by simp)), takeWhile_stop p u c v (fun y hy => h y (by simp [hy])) hc]
theorem cut_split (b : UInt8) (u v : List UInt8) (h : b ∉ u) : Lib.cut (u ++ b :: v) [b] = (u, v, true) := by
 have h1 : (u ++ b :: v).takeWhile (· != b) = u := takeWhile_stop _ u b v (fun x hx => by simp; intro e; exact h (e ▸ hx)) (by simp)
 rw [cut1, if_pos (by simp), ← drop_while_len, h1]
 simp
theorem cut_none (b : UInt8) (s : List UInt8) (h : b ∉ s) : Lib.cut s [b] = (s, [], false) := by rw [cut1, if_neg h]
theorem splitAt_first (b : UInt8) : ∀ s : List UInt8, b ∈ s → ∃ u v, s = u ++ b :: v ∧ b ∉ u
 | [], h => by cases h
 | c :: s, h => by
  by_cases e : b = c
  ·exact ⟨[], s, by rw [e]; rfl, by simp⟩
  ·obtain ⟨u, v, h1, h2⟩ := splitAt_first b s (by rcases List.mem_cons.1 h with h | h; exact absurd h e; exact h)
   exact ⟨c :: u, v, by rw [h1]; rfl, by simp [e, h2]⟩
theorem endS_le (s : List UInt8) : endS s ≤ s.length := by
 unfold endS
 split
 ·exact Nat.zero_le _
 ·split
  ·exact spanS_le _ _
  ·exact Nat.zero_le _
theorem span_in (cl : List Int) : ∀ (s : List UInt8) (x : UInt8), x ∈ s.take (spanS cl s) → inC cl x = true := fun s x h => by
 unfold spanS at h
 rw [take_while_len] at h
 exact List.all_eq_true.1 List.all_takeWhile x h
theorem endS_in (s : List UInt8) (x : UInt8) (h : x ∈ s.take (endS s)) : inC [2, 3] x = true := by
 unfold endS at h
 split at h
 ·simp at h
 ·split at h
  ·exact span_in _ _ x h
  ·simp at h
theorem name_in {s : List UInt8} (h : nameS s = true) (x : UInt8) (hx : x ∈ s) : inC [2, 3] x = true := by
 obtain ⟨_, _, h3⟩ := of_decide_eq_true h
 refine endS_in s x ?_
 rw [h3, List.take_length]
 exact hx
theorem endS_app {u : List UInt8} (h : nameS u = true) (c : UInt8) (v : List UInt8) (hc : inC [2, 3] c = false) : endS (u ++ c :: v) = u.length := by
 obtain ⟨h1, _, h3⟩ := of_decide_eq_true h
 cases u with
 | nil => exact absurd rfl h1
 | cons a u =>
  have ha : clsS a = 2 := by
   rw [endS] at h3
   split at h3
   ·assumption
   ·simp at h3
  rw [List.cons_append, endS, if_pos ha, spanS, ← List.cons_append, takeWhile_stop _ (a :: u) c v (fun x hx => name_in h x hx) hc]
theorem in46 : inC [2, 3] 46 = false := by
 rw [← Bool.not_eq_true, inC23]
 decide
theorem r_Dotted (s : List UInt8) (hs : s.length ≤ 1000000) : R_Q78 s (dottedS s) := by
 apply Q78_tree
 have hle := endS_le s
 refine ⟨_, r_nameEnd s hs 0, ?_⟩
 rw [List.drop_zero]
 by_cases hm : (46 : UInt8) ∈ s
 ·obtain ⟨u, v, rfl, hu⟩ := splitAt_first 46 s hm
  have hd : dottedS (u ++ 46 :: v) = (nameS u && nameS v) := by unfold dottedS; rw [cut_split 46 u v hu]; simp
  rw [hd]
  by_cases hn : nameS u = true
  ·have he := endS_app hn 46 v in46
   obtain ⟨h1, _, _⟩ := of_decide_eq_true hn
   have hpos : 0 < u.length := List.length_pos_iff.2 h1
   rw [he]
   simp only [List.length_append, List.length_cons] at hs
   refine ⟨fun _ => ⟨fun _ => ⟨by omega, 46, by simp, fun _ => ⟨by omega, by rw [List.length_append, List.length_cons]; omega, nameS u, ?_, fun _ => ⟨⟨by omega, by omega⟩, by omega, by rw [List.length_append, List.length_cons]; omega, nameS v, ?_, by simp [hn]⟩, fun h => absurd hn h⟩, fun h => absurd (by decide) h⟩, fun h => absurd (by simp; omega) h⟩, fun h => absurd (by omega) h⟩
   ·have e : (u ++ 46 :: v).take ((0 : Nat) + (u.length : Nat) : Int).toNat = u := by
     rw [show (((0 : Nat) : Int) + ((u.length : Nat) : Int)).toNat = u.length by omega]; simp
    rw [e]
    exact r_refName u (by omega)
   ·have e1 : (((0 : Nat) : Int) + ((u.length : Nat) : Int) + 1).toNat = u.length + 1 := by omega
    rw [e1]
    have e2 : (u ++ 46 :: v).drop (u.length + 1) = v := by rw [List.drop_append]; simp
    rw [e2, List.take_of_length_le (by rw [List.length_append, List.length_cons]; omega)]
    exact r_refName v (by omega)
  ·have hnf : nameS u = false := by simpa using hn
   rw [hnf, Bool.false_and]
   refine ⟨fun h1 => ⟨fun h2 => ?_, fun _ => rfl⟩, fun _ => rfl⟩
   have hlt : endS (u ++ 46 :: v) < (u ++ 46 :: v).length := by omega
   have et : (((0 : Nat) : Int) + ((endS (u ++ 46 :: v) : Nat) : Int)).toNat = endS (u ++ 46 :: v) := by omega
   rw [et]
   refine ⟨by omega, _, List.getElem?_eq_getElem hlt, fun h3 => ?_, fun _ => rfl⟩
   have h46 : (u ++ 46 :: v)[endS (u ++ 46 :: v)] = 46 := by
    apply UInt8.toNat_inj.1
    exact Int.ofNat.inj h3
   have he : endS (u ++ 46 :: v) = u.length := by
    rcases Nat.lt_trichotomy (endS (u ++ 46 :: v)) u.length with h | h | h
    ·exfalso
     rw [List.getElem_append_left h] at h46
     exact hu (h46 ▸ List.getElem_mem h)
    ·exact h
    ·exfalso
     have : (46 : UInt8) ∈ (u ++ 46 :: v).take (endS (u ++ 46 :: v)) := by
      rw [List.take_append]
      refine List.mem_append.2 (.inr ?_)
      obtain ⟨k, hk⟩ : ∃ k, endS (u ++ 46 :: v) - u.length = k + 1 := ⟨endS (u ++ 46 :: v) - u.length - 1, by omega⟩
      rw [hk]
      simp
     have := endS_in _ _ this
     rw [in46] at this
     cases this
   have e : (u ++ 46 :: v).take (endS (u ++ 46 :: v)) = u := by rw [he]; simp
   rw [e]
   have hs2 : u.length ≤ 1000000 := by simp at hs; omega
   exact ⟨by omega, by omega, nameS u, r_refName u hs2, fun h => absurd h hn, fun _ => rfl⟩
 ·have hd : dottedS s = false := by unfold dottedS; rw [cut_none 46 s hm]; rfl
  rw [hd]
  refine ⟨fun h1 => ⟨fun h2 => ?_, fun _ => rfl⟩, fun _ => rfl⟩
  have hlt : endS s < s.length := by omega
  have et : (((0 : Nat) : Int) + ((endS s : Nat) : Int)).toNat = endS s := by omega
  rw [et]
  refine ⟨by omega, _, List.getElem?_eq_getElem hlt, fun h3 => ?_, fun _ => rfl⟩
  exfalso
  have h46 : s[endS s] = 46 := by
   apply UInt8.toNat_inj.1
   exact Int.ofNat.inj h3
  exact hm (h46 ▸ List.getElem_mem hlt)
end Go.Proofs.YtfbcnpbhhooapaaGreatDoor.M
namespace Go.Proofs.YtfbcnpbhhooapaaGreatDoor.M
set_option linter.unusedSimpArgs false
set_option linter.unusedVariables false
set_option linter.unusedSectionVars false
open Go Classical
def kdS (k : Int) : Int :=
 if k < 1 then -2 else if 23 < k then -2 else if k ≤ 4 then 0 else if k = 5 then -1 else if k = 6 then -1 else if k = 8 then 1 else if k = 9 then 1 else if k = 10 then 3 else 2
theorem r_kids (k : Int) : R_Q73 k (kdS k) := by
 apply Q73_tree
 unfold kdS
 repeat' first | (refine ⟨fun h => ?_, fun h => ?_⟩) | (simp [*]; done) | (split <;> rename_i h <;> first | rfl | omega)
def truthS (s : List UInt8) : Bool := decide (s = [116, 114, 117, 101]) || decide (s = [102, 97, 108, 115, 101])
theorem r_truth (s : List UInt8) : R_Q114 s (truthS s) := by
 apply Q114_tree
 refine ⟨fun h => by simp [truthS, h], fun h => by simp [truthS, h]⟩
theorem r_parseRef (s : List UInt8) (hs : s.length ≤ 1000000) : R_Q113 s (dottedS s) := by
 apply Q113_tree
 have h1 : (Lib.cut s [46]).1.length ≤ s.length := cut_len1 _ _
 have h2 : (Lib.cut s [46]).2.1.length ≤ s.length := cut_len2 _ _
 refine ⟨_, _, _, r_Cut s [46] hs, fun h => ⟨_, r_lexName _ (by omega), fun h' => ⟨_, r_lexName _ (by omega), by simp [dottedS, h, h']⟩, fun h' => by simp [dottedS, h, h']⟩, fun h => by simp [dottedS, h]⟩
def printC (c : UInt8) : Bool := decide (¬ c.toNat < 32) || decide (c.toNat = 10)
def printedS (s : List UInt8) : Bool := s.all printC
theorem r_printed (s : List UInt8) (hs : s.length ≤ 1000000) : R_Q152 s (printedS s) := by
 have loop : ∀ (m i : Nat), i + m = s.length → At_Q152_1 s i ((s.drop i).all printC) := by
  intro m
  induction m with
  | zero =>
   intro i hi
   apply At_Q152_1_step
   exact ⟨fun h => by omega, fun _ => by rw [List.drop_of_length_le (by omega)]; rfl⟩
  | succ m ih =>
   intro i hi
   have hlt : i < s.length := by omega
   have hg : s[((i : Nat) : Int).toNat]? = some s[i] := by rw [Int.toNat_natCast]; exact List.getElem?_eq_getElem hlt
   have hd : s.drop i = s[i] :: s.drop (i + 1) := List.drop_eq_getElem_cons hlt
   have ih := ih (i + 1) (by omega)
   apply At_Q152_1_step
   refine ⟨fun _ => ⟨by omega, _, hg, fun h => ⟨fun h' => ⟨⟨by omega, by omega⟩, ?_⟩, fun h' => ?_⟩, fun h => ⟨⟨by omega, by omega⟩, ?_⟩⟩, fun h => by omega⟩
   ·rw [hd, List.all_cons, show printC s[i] = true by simp [printC]; omega, Bool.true_and]
    exact ih
   ·rw [hd, List.all_cons, show printC s[i] = false by simp [printC]; omega, Bool.false_and]
   ·rw [hd, List.all_cons, show printC s[i] = true by simp [printC]; omega, Bool.true_and]
    exact ih
 exact Q152_tree _ _ (loop s.length 0 (by omega))
def partsS : Bool → List Part → Bool
 | _, [] => true
 | b, p :: l => if p.Ref = true then dottedS p.Text && partsS false l else !(decide (p.Text = [])) && !b && printedS p.Text && partsS true l
def plP (l : List Part) : Prop := l.length ≤ 1000000 ∧ ∀ p ∈ l, p.Text.length ≤ 1000000
theorem r_partsP (l : List Part) (hl : plP l) : R_Q116 l (partsS false l) := by
 obtain ⟨hl, ht⟩ := hl
 have loop : ∀ (m i : Nat), i + m = l.length → At_Q116_1 l i (partsS (decide (∃ p, 0 < i ∧ l[i - 1]? = some p ∧ p.Ref = false)) (l.drop i)) := by
  intro m
  induction m with
  | zero =>
   intro i hi
   apply At_Q116_1_step
   exact ⟨fun h => by omega, fun _ => by rw [List.drop_of_length_le (by omega)]; rfl⟩
  | succ m ih =>
   intro i hi
   have hlt : i < l.length := by omega
   have hg : l[((i : Nat) : Int).toNat]? = some l[i] := by rw [Int.toNat_natCast]; exact List.getElem?_eq_getElem hlt
   have hd : l.drop i = l[i] :: l.drop (i + 1) := List.drop_eq_getElem_cons hlt
   have htx := ht _ (List.getElem_mem hlt)
   have ih := ih (i + 1) (by omega)
   have hnext : decide (∃ p, 0 < i + 1 ∧ l[i + 1 - 1]? = some p ∧ p.Ref = false) = !l[i].Ref := by
    rw [show i + 1 - 1 = i by omega, List.getElem?_eq_getElem hlt]
    cases h : l[i].Ref <;> simp [h]
   rw [hnext] at ih
   rw [hd]
   generalize hb : decide (∃ p, 0 < i ∧ l[i - 1]? = some p ∧ p.Ref = false) = b
   apply At_Q116_1_step
   refine ⟨fun _ => ⟨by omega, _, hg, fun hr => ⟨_, r_parseRef _ htx, fun h => ⟨⟨by omega, by omega⟩, ?_⟩, fun h => ?_⟩, fun hr => ⟨fun h => ?_, fun h => ⟨fun h0 => ?_, fun h0 => ?_⟩⟩⟩, fun h => by omega⟩
   ·rw [partsS, if_pos hr, h, Bool.true_and]
    rw [hr] at ih
    exact ih
   ·rw [partsS, if_pos hr, show dottedS l[i].Text = false by simpa using h, Bool.false_and]
   ·rw [partsS, if_neg hr, decide_eq_true h]
    rfl
   ·have hlt' : i - 1 < l.length := by omega
    have hg' : l[((i : Int) - 1).toNat]? = some l[i - 1] := by rw [show ((i : Int) - 1).toNat = i - 1 by omega]; exact List.getElem?_eq_getElem hlt'
    refine ⟨⟨by omega, by omega⟩, by omega, _, hg', fun hp => ?_, fun hp => ?_⟩
    ·have hb' : b = false := by
      rw [← hb, List.getElem?_eq_getElem hlt']
      simp [hp]
     refine ⟨_, r_printed _ htx, fun h5 => ⟨⟨by omega, by omega⟩, ?_⟩, fun h5 => ?_⟩
     ·rw [partsS, if_neg hr, decide_eq_false h, hb', h5]
      rw [show l[i].Ref = false by simpa using hr] at ih
      exact ih
     ·rw [partsS, if_neg hr, decide_eq_false h, hb', show printedS l[i].Text = false by simpa using h5]
      rfl
    ·have hb' : b = true := by
      rw [← hb, List.getElem?_eq_getElem hlt']
      simp [hp]
      omega
     rw [partsS, if_neg hr, decide_eq_false h, hb']
     rfl
   ·have hb' : b = false := by
     rw [← hb]
     simp
     omega
    refine ⟨_, r_printed _ htx, fun h5 => ⟨⟨by omega, by omega⟩, ?_⟩, fun h5 => ?_⟩
    ·rw [partsS, if_neg hr, decide_eq_false h, hb', h5]
     rw [show l[i].Ref = false by simpa using hr] at ih
     exact ih
    ·rw [partsS, if_neg hr, decide_eq_false h, hb', show printedS l[i].Text = false by simpa using h5]
     rfl
 have := loop l.length 0 (by omega)
 have e : decide (∃ p, 0 < 0 ∧ l[0 - 1]? = some p ∧ p.Ref = false) = false := by simp
 rw [e] at this
 exact Q116_tree _ _ this
def plS (n : Node) : Bool :=
 if n.Kind = 1 then decide (0 ≤ n.Num) && decide (n.Text = []) && decide (n.Parts = [])
 else if n.Kind = 3 then (decide (n.Num = 0) || decide (n.Num = 1)) && decide (n.Text = []) && decide (n.Parts = [])
 else if n.Kind = 4 then dottedS n.Text && decide (n.Num = 0) && !(truthS (Lib.cut n.Text [46]).1) && decide (n.Parts = [])
 else if n.Kind = 5 then nameS n.Text && decide (n.Num = 0) && !(truthS n.Text) && decide (n.Parts = [])
 else if n.Kind = 2 then decide (n.Num = 0) && decide (n.Text = []) && partsS false n.Parts
 else decide (n.Num = 0) && decide (n.Text = []) && decide (n.Parts = [])
structure NB (n : Node) : Prop where
 text : n.Text.length ≤ 1000000
 parts : plP n.Parts
 kids : n.Kids.length ≤ 1000000
theorem len0 {α : Type} (l : List α) : decide ((l.length : Int) = 0) = decide (l = []) := decide_eq_decide.2 (by rw [← List.length_eq_zero_iff]; omega)
theorem r_plainN (n : Node) (h : NB n) : R_Q74 n (plS n) := by
 apply Q74_tree
 unfold plS
 rw [len0]
 refine ⟨fun k => ?_, fun k => ⟨fun k3 => ?_, fun k3 => ⟨fun k4 => ?_, fun k4 => ⟨fun k5 => ?_, fun k5 => ⟨fun k2 => ?_, fun k2 => ?_⟩⟩⟩⟩⟩
 ·rw [if_pos k]
  exact ⟨fun a => ⟨fun b => by simp [a, b], fun b => by simp [a, b]⟩, fun a => by simp [a]⟩
 ·rw [if_neg k, if_pos k3]
  exact ⟨fun a => ⟨fun b => by simp [a, b], fun b => by simp [a, b]⟩, fun a => ⟨fun a' => ⟨fun b => by simp [a', b], fun b => by simp [a', b]⟩, fun a' => by simp [a, a']⟩⟩
 ·rw [if_neg k, if_neg k3, if_pos k4]
  refine ⟨_, _, _, r_Cut _ [46] h.text, _, r_parseRef _ h.text, fun a => ⟨_, r_truth _, fun b => ⟨fun c => by simp [a, b, c], fun c => by simp [a, b, c]⟩, fun b => by simp [b]⟩, fun a => ⟨fun _ => by simp [a], fun _ => by simp [a]⟩⟩
 ·rw [if_neg k, if_neg k3, if_neg k4, if_pos k5]
  refine ⟨_, r_lexName _ h.text, fun a => ⟨_, r_truth _, fun b => ⟨fun c => by simp [a, b, c], fun c => by simp [a, b, c]⟩, fun b => by simp [b]⟩, fun a => ⟨fun _ => by simp [a], fun _ => by simp [a]⟩⟩
 ·rw [if_neg k, if_neg k3, if_neg k4, if_neg k5, if_pos k2]
  refine ⟨_, r_partsP _ h.parts, fun a => ⟨fun b => by simp [a, b], fun b => by simp [b]⟩, fun a => by simp [a]⟩
 ·rw [if_neg k, if_neg k3, if_neg k4, if_neg k5, if_neg k2]
  refine ⟨fun a => ⟨fun b => by simp [a, b], fun b => by simp [b]⟩, fun a => by simp [a]⟩
def bval (l : List Node) (rs : List Int) (e : Nat) : Int := match l[e]? with
 | none => -1
 | some n => if (kdS n.Kind ≠ (n.Kids.length : Nat) ∧ kdS n.Kind ≠ -1) ∨ plS n = false then -1 else Bk.run (fun k => (rs[k.toNat]?).getD 0) e n.Kids.reverse
def bvals (l : List Node) : Nat → List Int
 | 0 => []
 | n + 1 => bvals l n ++ [bval l (bvals l n) n]
theorem bvals_len (l : List Node) : ∀ n, (bvals l n).length = n
 | 0 => rfl
 | n + 1 => by rw [bvals, List.length_append, bvals_len l n]; rfl
def begS (l : List Node) (e : Nat) : Int := bval l (bvals l e) e
theorem bvals_get (l : List Node) : ∀ {n j : Nat}, j < n → (bvals l n)[j]? = some (begS l j)
 | 0, j, h => absurd h (Nat.not_lt_zero _)
 | n + 1, j, h => by
  rw [bvals]
  by_cases hj : j < n
  ·rw [List.getElem?_append_left (by rw [bvals_len]; exact hj)]
   exact bvals_get l hj
  ·obtain rfl : j = n := by omega
   rw [List.getElem?_append_right (by rw [bvals_len]; omega), bvals_len, Nat.sub_self]
   rfl
theorem bkrun_le (o : Int → Int) : ∀ (ks : List Int) (f : Int), (∀ k, 0 ≤ k → k < f → o k ≤ k) → -1 ≤ f → Bk.run o f ks ≤ f
 | [], f, _, _ => Int.le_refl _
 | k :: ks, f, h, hf => by
  rw [Bk.run]
  split
  ·exact hf
  ·split
   ·exact hf
   ·rename_i h1 h2
    have h3 := h k (by omega) (by omega)
    have := bkrun_le o ks (o k) (fun q a b => h q a (by omega)) (by omega)
    omega
theorem begS_le (l : List Node) : ∀ (e : Nat), begS l e ≤ e := by
 intro e
 induction e using Nat.strongRecOn with
 | _ e ih =>
  unfold begS bval
  split
  ·omega
  ·split
   ·omega
   ·refine bkrun_le _ _ _ (fun k k0 k1 => ?_) (by omega)
    rw [bvals_get l (show k.toNat < e by omega)]
    have := ih k.toNat (by omega)
    simp only [Option.getD_some]
    omega
theorem kidsOf_map (ks : List Int) : kidsOf (ks.map eI) = some ks := by
 induction ks with
 | nil => rfl
 | cons k ks ih =>
  rw [List.map_cons]
  show kidsOf ([PV.int .i64 k] :: _) = _
  rw [kidsOf, ih]
  rfl
theorem askAll_of {o : Nat → List PV → Option PV} {lv : PV} {k : List Int → Qn} (l : List Node) (n : Nat) (h : ∀ j, j < n → o 47 [lv, .int .i64 (j : Nat)] = some (.int .i64 (begS l j))) : ∀ (m i : Nat), i + m = n → (askAll lv k m (bvals l i)).ev o = (k (bvals l n)).ev o
 | 0, i, hi => by
  obtain rfl : i = n := by omega
  rfl
 | m + 1, i, hi => by
  rw [askAll, Qn.ev, bvals_len, h i (by omega)]
  simp only
  rw [if_pos (begS_le l i)]
  exact askAll_of l n h m (i + 1) (by omega)
theorem r_begin (l : List Node) (hl : l.length ≤ 1000000) (hn : ∀ n ∈ l, NB n) : ∀ e, e < l.length → R_Q47 l (e : Nat) (begS l e) := by
 intro e
 induction e using Nat.strongRecOn with
 | _ e ih =>
  intro he S
  have hb := hn _ (List.getElem_mem he)
  have hg : l[e]? = some l[e] := List.getElem?_eq_getElem he
  refine call_orc sp_Q47 S ?_
  have hrow : (l.map eNode)[((e : Nat) : Int).toNat]? = some [PV.int .i64 l[e].Kind, .int .i64 l[e].Num, .str l[e].Text, .list 2 (l[e].Parts.map ePart) false, .list 1 (l[e].Kids.map eI) false] := by
   rw [Int.toNat_natCast, List.getElem?_map, hg]
   rfl
  simp only [beginQ]
  rw [if_pos ⟨by omega, by rw [Int.toNat_natCast, List.length_map]; exact he, by rw [List.length_map]; omega⟩, hrow]
  simp only [kidsOf_map]
  rw [if_pos (show l[e].Kids.length ≤ 1000000000 by have := hb.kids; omega)]
  have hk : pureO (call SP) 73 [.int .i64 l[e].Kind] = some (.int .i64 (kdS l[e].Kind)) := pureO_of (r_kids _ [])
  have hp : pureO (call SP) 74 [.agg [PV.int .i64 l[e].Kind, .int .i64 l[e].Num, .str l[e].Text, .list 2 (l[e].Parts.map ePart) false, .list 1 (l[e].Kids.map eI) false]] = some (.bool (plS l[e])) := pureO_of (r_plainN _ hb [])
  have hv : begS l e = if (kdS l[e].Kind ≠ (l[e].Kids.length : Nat) ∧ kdS l[e].Kind ≠ -1) ∨ plS l[e] = false then -1 else Bk.run (fun k => ((bvals l e)[k.toNat]?).getD 0) e l[e].Kids.reverse := by
   unfold begS bval
   rw [hg]
  simp only [beginK, Qn.ev, hk]
  by_cases hkk : kdS l[e].Kind ≠ (l[e].Kids.length : Nat) ∧ kdS l[e].Kind ≠ -1
  ·rw [if_pos hkk, hv, if_pos (.inl hkk)]
   rfl
  ·rw [if_neg hkk]
   simp only [Qn.ev, hp]
   cases hpl : plS l[e] with
   | false =>
    have hv' : begS l e = -1 := by rw [hv, if_pos (.inr hpl)]
    rw [hv']
    rfl
   | true =>
    have hv' : begS l e = Bk.run (fun k => ((bvals l e)[k.toNat]?).getD 0) e l[e].Kids.reverse := by
     rw [hv, if_neg]
     rintro (h | h)
     ·exact hkk h
     ·rw [hpl] at h; cases h
    rw [hv']
    simp only [Bool.true_eq_false, if_false, Int.toNat_natCast]
    exact askAll_of (o := pureO (call SP)) (lv := .list 5 (l.map eNode) false) (k := fun rs => .ret (.int .i64 (Bk.run (fun k => (rs[k.toNat]?).getD 0) e l[e].Kids.reverse))) l e (fun j hj => pureO_of (ih j hj (by omega) [])) e 0 (by omega)
def treeS (l : List Node) : Bool := decide (0 < l.length) && decide (begS l (l.length - 1) = 0)
theorem r_Tree (l : List Node) (hl : l.length ≤ 1000000) (hn : ∀ n ∈ l, NB n) : R_Q26 l (treeS l) := by
 apply Q26_tree
 refine ⟨fun h => ⟨⟨by omega, by omega⟩, begS l (l.length - 1), ?_, ?_⟩, fun h => ?_⟩
 ·have := r_begin l hl hn (l.length - 1) (by omega)
  rw [show ((l.length - 1 : Nat) : Int) = (l.length : Int) - 1 by omega] at this
  exact this
 ·rw [treeS, decide_eq_true (show 0 < l.length by omega), Bool.true_and]
 ·rw [treeS, decide_eq_false (show ¬ 0 < l.length by omega), Bool.false_and]
def nodeOk (n : Node) : Bool := (decide (kdS n.Kind = (n.Kids.length : Nat)) || decide (kdS n.Kind = -1)) && plS n
def stk : Nat → List Int → List Node → Bool
 | _, st, [] => decide (st.length = 1)
 | i, st, n :: l => if nodeOk n = true ∧ st.take n.Kids.length = n.Kids.reverse then stk (i + 1) ((i : Int) :: st.drop n.Kids.length) l else false
theorem begS_eq (l : List Node) {e : Nat} {n : Node} (h : l[e]? = some n) : begS l e = if nodeOk n = true then Bk.run (fun k => ((bvals l e)[k.toNat]?).getD 0) e n.Kids.reverse else -1 := by
 unfold begS bval
 rw [h]
 simp only
 by_cases hk : nodeOk n = true
 ·rw [if_pos hk, if_neg]
  simp only [nodeOk, Bool.and_eq_true, Bool.or_eq_true, decide_eq_true_eq] at hk
  rintro (h | h)
  ·rcases hk.1 with h' | h'
   ·exact h.1 h'
   ·exact h.2 h'
  ·rw [h] at hk; exact absurd hk.2 (by decide)
 ·rw [if_neg hk, if_pos]
  simp only [nodeOk, Bool.and_eq_true, Bool.or_eq_true, decide_eq_true_eq] at hk
  by_cases hp : plS n = true
  ·exact .inl ⟨fun h => hk ⟨.inl h, hp⟩, fun h => hk ⟨.inr h, hp⟩⟩
  ·exact .inr (by simpa using hp)
def Ch (l : List Node) : Nat → List Int → Prop
 | i, [] => i = 0
 | i, s :: st => 0 < i ∧ s = (i : Int) - 1 ∧ ∃ b : Nat, begS l (i - 1) = b ∧ Ch l b st
theorem run_chain (l : List Node) (e : Nat) : ∀ (st : List Int) (i k : Nat), i ≤ e → Ch l i st → k ≤ st.length → ∃ b : Nat, Bk.run (fun k => ((bvals l e)[k.toNat]?).getD 0) i (st.take k) = b ∧ Ch l b (st.drop k)
 | st, i, 0, _, h, _ => ⟨i, rfl, h⟩
 | [], i, k + 1, _, _, hk => absurd hk (by simp)
 | s :: st, i, k + 1, hi, ⟨h0, hs, b, hb, hc⟩, hk => by
  have hle := begS_le l (i - 1)
  obtain ⟨b', h1, h2⟩ := run_chain l e st b k (by omega) hc (by simpa using hk)
  refine ⟨b', ?_, h2⟩
  rw [List.take_succ_cons, Bk.run]
  have e1 : s.toNat = i - 1 := by omega
  have e2 : ((bvals l e)[s.toNat]?).getD 0 = b := by rw [e1, bvals_get l (show i - 1 < e by omega), Option.getD_some, hb]
  simp only [e2]
  rw [if_neg (by omega), if_neg (by omega)]
  exact h1
theorem stk_tree (l : List Node) : ∀ (m i : Nat) (st : List Int), i + m = l.length → Ch l i st → stk i st (l.drop i) = true → treeS l = true
 | 0, i, st, hi, hc, h => by
  rw [List.drop_of_length_le (by omega), stk, decide_eq_true_eq] at h
  match st, h, hc with
  | [s], _, ⟨h0, hs, b, hb, hc⟩ =>
   have hb0 : b = 0 := hc
   rw [treeS, decide_eq_true (show 0 < l.length by omega), Bool.true_and, decide_eq_true_eq, show l.length - 1 = i - 1 by omega, hb, hb0]
   rfl
 | m + 1, i, st, hi, hc, h => by
  have hlt : i < l.length := by omega
  rw [List.drop_eq_getElem_cons hlt, stk] at h
  split at h
  ·rename_i hn
   obtain ⟨h1, h2⟩ := hn
   have hk : l[i].Kids.length ≤ st.length := by
    have := congrArg List.length h2
    rw [List.length_take, List.length_reverse] at this
    omega
   obtain ⟨b, hb, hc'⟩ := run_chain l i st i l[i].Kids.length (Nat.le_refl _) hc hk
   rw [h2] at hb
   refine stk_tree l m (i + 1) ((i : Int) :: st.drop l[i].Kids.length) (by omega) ⟨by omega, by omega, b, ?_, hc'⟩ h
   rw [show i + 1 - 1 = i by omega, begS_eq l (List.getElem?_eq_getElem hlt), if_pos h1]
   exact hb
  ·cases h
theorem proc (l : List Node) : ∀ (e : Nat), e < l.length → ∀ (b : Nat), begS l e = b → ∀ st, stk b st (l.drop b) = stk (e + 1) ((e : Int) :: st) (l.drop (e + 1)) := by
 intro e
 induction e using Nat.strongRecOn with
 | _ e ih =>
  intro he b hb st
  rw [begS_eq l (List.getElem?_eq_getElem he)] at hb
  split at hb
  ·rename_i hn
   have rp : ∀ (ks : List Int) (f : Nat), f ≤ e → Bk.run (fun k => ((bvals l e)[k.toNat]?).getD 0) f ks = b → stk b st (l.drop b) = stk f (ks ++ st) (l.drop f) := by
    intro ks
    induction ks with
    | nil =>
     intro f hf h
     have hf' : f = b := by simp only [Bk.run] at h; omega
     rw [hf']
     rfl
    | cons k ks ihk =>
     intro f hf h
     rw [Bk.run] at h
     split at h
     ·omega
     ·rename_i h1
      split at h
      ·omega
      ·rename_i h2
       have hk : k.toNat < e := by omega
       have ek : ((bvals l e)[k.toNat]?).getD 0 = begS l k.toNat := by rw [bvals_get l hk, Option.getD_some]
       simp only [ek] at h h2
       have hle := begS_le l k.toNat
       obtain ⟨b1, hb1⟩ : ∃ b1 : Nat, begS l k.toNat = b1 := ⟨(begS l k.toNat).toNat, by omega⟩
       rw [hb1] at h
       rw [ihk b1 (by omega) h, ih k.toNat hk (by omega) b1 hb1 (ks ++ st)]
       have e1 : k.toNat + 1 = f := by omega
       have e2 : ((k.toNat : Nat) : Int) = k := by omega
       rw [e1, e2]
       rfl
   have hr := rp l[e].Kids.reverse e (Nat.le_refl _) hb
   rw [hr, List.drop_eq_getElem_cons he, stk, if_pos]
   ·have : (l[e].Kids.reverse ++ st).drop l[e].Kids.length = st := by
     have := List.drop_left (l₁ := l[e].Kids.reverse) (l₂ := st)
     rwa [List.length_reverse] at this
    rw [this]
   ·refine ⟨hn, ?_⟩
    have := List.take_left (l₁ := l[e].Kids.reverse) (l₂ := st)
    rwa [List.length_reverse] at this
  ·omega
theorem tree_stk (l : List Node) : treeS l = stk 0 [] l := by
 cases h : stk 0 [] l with
 | true => exact stk_tree l l.length 0 [] (by omega) rfl h
 | false =>
  rw [← Bool.not_eq_true]
  intro ht
  simp only [treeS, Bool.and_eq_true, decide_eq_true_eq] at ht
  have := proc l (l.length - 1) (by omega) 0 ht.2 []
  rw [List.drop_zero, h, show l.length - 1 + 1 = l.length by omega, List.drop_length, stk] at this
  simp at this
end Go.Proofs.YtfbcnpbhhooapaaGreatDoor.M
namespace Go.Proofs.YtfbcnpbhhooapaaGreatDoor.M
set_option linter.unusedSimpArgs false
set_option linter.unusedVariables false
open Go Classical
inductive PR (α : Type) where
 | ok (a : α) (ts : List Token) (out : List Node)
 | er (e : Int)
 | no
def PR.bind {α β : Type} : PR α → (α → List Token → List Node → PR β) → PR β
 | .ok a ts out, f => f a ts out
 | .er e, _ => .er e
 | .no, _ => .no
def isS (s : List UInt8) : List Token → Bool
 | t :: _ => decide (t.Kind = 4) && decide (t.Text = s)
 | [] => false
def needS {α : Type} (s : List UInt8) (ts : List Token) (k : List Token → PR α) : PR α := if isS s ts = true then k ts.tail else .er 5
def openS {α : Type} (s : List UInt8) (d : Nat) (ts : List Token) (k : List Token → PR α) : PR α := if isS s ts = true then (if 64 ≤ d then .er 6 else k ts.tail) else .er 5
def nd (kind : Int) (text : List UInt8) (kids : List Int) : Node := ⟨kind, 0, text, [], kids⟩
def idxS (s : List UInt8) : List (List UInt8) → Nat → Option Nat
 | [], _ => none
 | v :: l, i => if s = v then some i else idxS s l (i + 1)
def signsS : Nat → List (List UInt8)
 | 0 => [[124, 124]]
 | 1 => [[38, 38]]
 | 2 => [[61, 61], [33, 61], [60], [60, 61], [62], [62, 61]]
 | 3 => [[43], [45]]
 | _ => [[42], [47], [37]]
def firstS : Nat → Int
 | 0 => 11
 | 1 => 12
 | 2 => 13
 | 3 => 19
 | _ => 21
def opS (rank : Nat) (s : List UInt8) : Option Int := (idxS s (signsS rank) 0).map fun (i : Nat) => firstS rank + (i : Int)
mutual
def exprS : Nat → Nat → List Token → List Node → PR Int
 | 0, _, _, _ => .no
 | n + 1, d, ts, out => (chainS n 0 d ts out).bind fun a ts out =>
  if isS [63] ts = true then openS [63] d ts fun ts => (exprS n (d + 1) ts out).bind fun b ts out => needS [58] ts fun ts => (exprS n (d + 1) ts out).bind fun c ts out => .ok (out.length : Nat) ts (out ++ [nd 10 [] [a, b, c]])
  else .ok a ts out
def chainS : Nat → Nat → Nat → List Token → List Node → PR Int
 | 0, _, _, _, _ => .no
 | n + 1, rank, d, ts, out => if rank = 5 then unS n d ts out else (chainS n (rank + 1) d ts out).bind fun a ts out => loopS n rank d a ts out
def loopS : Nat → Nat → Nat → Int → List Token → List Node → PR Int
 | 0, _, _, _, _, _ => .no
 | _ + 1, _, _, _, [], _ => .no
 | n + 1, rank, d, a, t :: ts, out =>
  if t.Kind = 4 then
   match opS rank t.Text with
   | none => .ok a (t :: ts) out
   | some kind => (chainS n (rank + 1) d ts out).bind fun b ts out => if rank = 2 then .ok (out.length : Nat) ts (out ++ [nd kind [] [a, b]]) else loopS n rank d (out.length : Nat) ts (out ++ [nd kind [] [a, b]])
  else .ok a (t :: ts) out
def unS : Nat → Nat → List Token → List Node → PR Int
 | 0, _, _, _ => .no
 | n + 1, d, ts, out =>
  if isS [45] ts = true then openS [45] d ts fun ts => (unS n (d + 1) ts out).bind fun a ts out => .ok (out.length : Nat) ts (out ++ [nd 9 [] [a]])
  else if isS [33] ts = true then openS [33] d ts fun ts => (unS n (d + 1) ts out).bind fun a ts out => .ok (out.length : Nat) ts (out ++ [nd 8 [] [a]])
  else postS n d ts out
def postS : Nat → Nat → List Token → List Node → PR Int
 | 0, _, _, _ => .no
 | n + 1, d, ts, out => (primS n d ts out).bind fun a ts out => postL n d a ts out
def postL : Nat → Nat → Int → List Token → List Node → PR Int
 | 0, _, _, _, _ => .no
 | n + 1, d, a, ts, out =>
  if isS [91] ts = true then openS [91] d ts fun ts => (exprS n (d + 1) ts out).bind fun b ts out => needS [93] ts fun ts => postL n d (out.length : Nat) ts (out ++ [nd 7 [] [a, b]])
  else .ok a ts out
def manyS : Nat → Nat → List UInt8 → List Token → List Node → PR (List Int)
 | 0, _, _, _, _ => .no
 | n + 1, d, e, ts, out => if isS e ts = true then .ok [] ts.tail out else (exprS n d ts out).bind fun a ts out => manyL n d e [a] ts out
def manyL : Nat → Nat → List UInt8 → List Int → List Token → List Node → PR (List Int)
 | 0, _, _, _, _, _ => .no
 | n + 1, d, e, l, ts, out => if isS [44] ts = true then (exprS n d ts.tail out).bind fun a ts out => manyL n d e (l ++ [a]) ts out else needS e ts fun ts => .ok l ts out
def primS : Nat → Nat → List Token → List Node → PR Int
 | 0, _, _, _ => .no
 | _ + 1, _, [], _ => .no
 | n + 1, d, t :: ts, out =>
  if t.Kind = 3 then
   if t.Text = [116, 114, 117, 101] then .ok (out.length : Nat) ts (out ++ [⟨3, 1, [], [], []⟩])
   else if t.Text = [102, 97, 108, 115, 101] then .ok (out.length : Nat) ts (out ++ [⟨3, 0, [], [], []⟩])
   else if isS [46] ts = true then
    match ts.tail with
    | [] => .no
    | u :: ts => if u.Kind = 3 then .ok (out.length : Nat) ts (out ++ [nd 4 ((t.Text ++ [46]) ++ u.Text) []]) else .er 5
   else openS [40] d ts fun ts => (manyS n (d + 1) [41] ts out).bind fun l ts out => .ok (out.length : Nat) ts (out ++ [nd 5 t.Text l])
  else if t.Kind = 1 then .ok (out.length : Nat) ts (out ++ [⟨1, t.Num, [], [], []⟩])
  else if t.Kind = 2 then .ok (out.length : Nat) ts (out ++ [⟨2, 0, [], t.Parts, []⟩])
  else if isS [91] (t :: ts) = true then openS [91] d (t :: ts) fun ts => (manyS n (d + 1) [93] ts out).bind fun l ts out => .ok (out.length : Nat) ts (out ++ [nd 6 [] l])
  else openS [40] d (t :: ts) fun ts => (exprS n (d + 1) ts out).bind fun a ts out => needS [41] ts fun ts => .ok a ts out
end
def W : List Token → Prop
 | [] => False
 | [e] => e.Kind = 0
 | t :: u :: ts => t.Kind ≠ 0 ∧ W (u :: ts)
theorem W.tail {t : Token} {ts : List Token} (h : W (t :: ts)) (hk : t.Kind ≠ 0) : W ts := by
 cases ts with
 | nil => exact absurd h hk
 | cons u ts => exact h.2
theorem W.ne {ts : List Token} (h : W ts) : ts ≠ [] := fun e => by subst e; exact h
def pt (L ts : List Token) : PTokens := ⟨L, ((L.length - ts.length : Nat) : Int)⟩
theorem suf_tail {L ts : List Token} {t : Token} (h : (t :: ts) <:+ L) : ts <:+ L := (List.suffix_cons t ts).trans h
theorem suf_len {L ts : List Token} (h : ts <:+ L) : ts.length ≤ L.length := h.length_le
theorem suf_get {L ts : List Token} {t : Token} (h : (t :: ts) <:+ L) : L[(pt L (t :: ts)).pos.toNat]? = some t := by
 obtain ⟨p, rfl⟩ := h
 simp [pt]
theorem pt_next {L ts : List Token} {t : Token} (h : (t :: ts) <:+ L) : (PTokens.mk (pt L (t :: ts)).l ((pt L (t :: ts)).pos + 1)) = pt L ts := by
 have := suf_len h
 simp only [pt, List.length_cons] at this ⊢
 congr 1
 omega
theorem r_now {L ts : List Token} {t : Token} (h : (t :: ts) <:+ L) : R_Q38 (pt L (t :: ts)) t (pt L (t :: ts)) := Q38_tree _ _ _ ⟨by simp [pt], t, suf_get h, rfl, rfl⟩
theorem r_fail (t : PTokens) (e : Int) : R_Q42 t e (some e) t := Q42_tree _ _ _ _ ⟨rfl, rfl⟩
theorem r_is {L ts : List Token} (h : ts <:+ L) (hne : ts ≠ []) (s : List UInt8) : R_Q102 (pt L ts) s (isS s ts) (pt L ts) := by
 cases ts with
 | nil => exact absurd rfl hne
 | cons t ts =>
  refine Q102_tree _ _ _ _ ⟨t, _, r_now h, fun hk => ⟨t, _, r_now h, ?_, rfl⟩, fun hk => ⟨?_, rfl⟩⟩
  ·simp [isS, hk]
  ·simp [isS, hk]
theorem isS_kind {s : List UInt8} {t : Token} {ts : List Token} (h : isS s (t :: ts) = true) : t.Kind ≠ 0 := by
 simp only [isS, Bool.and_eq_true, decide_eq_true_eq] at h
 rw [h.1]
 decide
theorem W.shift {s : List UInt8} {ts : List Token} (h : W ts) (hi : isS s ts = true) : W ts.tail := by
 cases ts with
 | nil => exact h.elim
 | cons t ts => exact h.tail (isS_kind hi)
theorem suf_shift {L ts : List Token} (h : ts <:+ L) : ts.tail <:+ L := by
 cases ts with
 | nil => exact h
 | cons t ts => exact suf_tail h
theorem len_shift {s : List UInt8} {ts : List Token} (hi : isS s ts = true) : ts.tail.length + 1 = ts.length := by
 cases ts with
 | nil => cases hi
 | cons t ts => rfl
theorem r_may1 {L ts : List Token} (h : ts <:+ L) (hL : L.length ≤ 1000000) {s : List UInt8} (hi : isS s ts = true) : R_Q67 (pt L ts) s true (pt L ts.tail) := by
 cases ts with
 | nil => cases hi
 | cons t ts =>
  refine Q67_tree _ _ _ _ ⟨true, _, by have := r_is h (by simp) s; rw [hi] at this; exact this, fun _ => ⟨?_, rfl, pt_next h⟩, fun hf => absurd rfl hf⟩
  have := suf_len h
  simp only [pt, I64]
  omega
theorem r_may0 {L ts : List Token} (h : ts <:+ L) (hne : ts ≠ []) {s : List UInt8} (hi : isS s ts = false) : R_Q67 (pt L ts) s false (pt L ts) :=
 Q67_tree _ _ _ _ ⟨false, _, by have := r_is h hne s; rw [hi] at this; exact this, fun hf => (by cases hf), fun _ => ⟨rfl, rfl⟩⟩
theorem r_need1 {L ts : List Token} (h : ts <:+ L) (hL : L.length ≤ 1000000) {s : List UInt8} (hi : isS s ts = true) : R_Q66 (pt L ts) s none (pt L ts.tail) :=
 Q66_tree _ _ _ _ ⟨true, _, r_may1 h hL hi, fun _ => ⟨rfl, rfl⟩, fun hf => absurd rfl hf⟩
theorem r_need0 {L ts : List Token} (h : ts <:+ L) (hne : ts ≠ []) {s : List UInt8} (hi : isS s ts = false) : R_Q66 (pt L ts) s (some 5) (pt L ts) :=
 Q66_tree _ _ _ _ ⟨false, _, r_may0 h hne hi, fun hf => (by cases hf), fun _ => ⟨_, _, r_fail _ _, rfl, rfl⟩⟩
theorem r_name1 {L ts : List Token} {t : Token} (h : (t :: ts) <:+ L) (hL : L.length ≤ 1000000) (hk : t.Kind = 3) : R_Q101 (pt L (t :: ts)) none t.Text (pt L ts) := by
 refine Q101_tree _ _ _ _ ⟨t, _, r_now h, fun _ => ⟨?_, rfl, rfl, pt_next h⟩, fun hf => absurd hk hf⟩
 have := suf_len h
 simp only [pt, I64]
 omega
theorem r_name0 {L ts : List Token} {t : Token} (h : (t :: ts) <:+ L) (hk : ¬ t.Kind = 3) (r : List UInt8) : R_Q101 (pt L (t :: ts)) (some 5) r (pt L (t :: ts)) :=
 Q101_tree _ _ _ _ ⟨t, _, r_now h, fun hf => absurd hf hk, fun _ => ⟨_, _, r_fail _ _, rfl, rfl⟩⟩
def pe (L ts : List Token) (out : List Node) (d : Nat) : PExprs := ⟨pt L ts, out, (d : Int)⟩
theorem r_open1 {L ts : List Token} (h : ts <:+ L) (hL : L.length ≤ 1000000) {s : List UInt8} (hi : isS s ts = true) {d : Nat} (hd : ¬ 64 ≤ d) (out : List Node) (g : Nat) (z : Bool) : R_Q104 (pe L ts out d) g z s none (pe L ts.tail out (d + 1)) g z := by
 cases ts with
 | nil => cases hi
 | cons t ts =>
  refine Q104_tree _ _ _ _ _ _ _ _ ⟨true, _, by have := r_is h (by simp) s; rw [hi] at this; exact this, fun _ => ⟨fun hf => ?_, fun _ => ⟨none, _, r_need1 h hL hi, ?_, rfl, ?_, rfl, rfl⟩⟩, fun hf => absurd rfl hf⟩
  ·simp only [pe] at hf; omega
  ·simp only [pe, I64]; omega
  ·simp [pe]
theorem r_open6 {L ts : List Token} (h : ts <:+ L) (hne : ts ≠ []) {s : List UInt8} (hi : isS s ts = true) {d : Nat} (hd : 64 ≤ d) (out : List Node) (g : Nat) (z : Bool) : ∃ x' g' z', R_Q104 (pe L ts out d) g z s (some 6) x' g' z' :=
 ⟨_, _, _, Q104_tree _ _ _ _ _ _ _ _ ⟨true, _, by have := r_is h hne s; rw [hi] at this; exact this, fun _ => ⟨fun _ => ⟨_, _, r_fail _ _, rfl, rfl, rfl, rfl⟩, fun hf => absurd (by simp only [pe]; omega) hf⟩, fun hf => absurd rfl hf⟩⟩
theorem r_open5 {L ts : List Token} (h : ts <:+ L) (hne : ts ≠ []) {s : List UInt8} (hi : isS s ts = false) (d : Nat) (out : List Node) (g : Nat) (z : Bool) : ∃ x' g' z', R_Q104 (pe L ts out d) g z s (some 5) x' g' z' :=
 ⟨_, _, _, Q104_tree _ _ _ _ _ _ _ _ ⟨false, _, by have := r_is h hne s; rw [hi] at this; exact this, fun hf => (by cases hf), fun _ => ⟨_, _, r_need0 h hne hi, rfl, rfl, rfl, rfl⟩⟩⟩
theorem r_shut1 {L ts : List Token} (h : ts <:+ L) (hL : L.length ≤ 1000000) {s : List UInt8} (hi : isS s ts = true) {d : Nat} (hd : d ≤ 1000) (out : List Node) (g : Nat) (z : Bool) : R_Q181 (pe L ts out (d + 1)) g z s none (pe L ts.tail out d) g z := by
 refine Q181_tree _ _ _ _ _ _ _ _ ⟨none, _, r_need1 h hL hi, ?_, rfl, ?_, rfl, rfl⟩
 ·simp only [pe, I64]; omega
 ·simp only [pe]; congr 1; omega
theorem r_shut5 {L ts : List Token} (h : ts <:+ L) (hne : ts ≠ []) {s : List UInt8} (hi : isS s ts = false) (d : Nat) (out : List Node) (g : Nat) (z : Bool) : ∃ x' g' z', R_Q181 (pe L ts out d) g z s (some 5) x' g' z' :=
 ⟨_, _, _, Q181_tree _ _ _ _ _ _ _ _ ⟨_, _, r_need0 h hne hi, rfl, rfl, rfl, rfl⟩⟩
theorem r_CloneI (l : List Int) (h : l.length ≤ 1000000000) : R_slices_Clone_int_int l l := fun S => call_ext sp_slices_Clone_int_int S (by
 simp only [cloneX, List.length_map]
 rw [if_pos ⟨trivial, by omega, by omega⟩])
theorem r_put (x : PTokens) (out : List Node) (d : Int) (g : Nat) (z : Bool) (kind : Int) (text : List UInt8) (kids : List Int) (hk : kids.length ≤ 1000000) (ho : out.length ≤ 1000000) : R_Q105 (PExprs.mk x out d) g z kind text kids (out.length : Nat) (PExprs.mk x (out ++ [nd kind text kids]) d) g z := by
 refine Q105_tree _ _ _ _ _ _ _ _ _ _ ⟨kids, r_CloneI kids (by omega), ?_, ?_, ?_, rfl, rfl, rfl⟩
 ·simp only [bigRow]; omega
 ·simp only [I64]; omega
 ·simp
theorem set_lastP {α : Type} (l : List α) (a b : α) : (l ++ [a]).set l.length b = l ++ [b] := by simp
theorem r_num (x : PTokens) (out : List Node) (d : Int) (g : Nat) (kind n : Int) (ho : out.length ≤ 1000000) : R_Q202 (PExprs.mk x out d) g false kind n (out.length : Nat) (PExprs.mk x (out ++ [⟨kind, n, [], [], []⟩]) d) g false := by
 refine Q202_tree _ _ _ _ _ _ _ _ _ ⟨_, _, _, _, r_put x out d g false kind [] [] (by simp) ho, by omega, ?_, rfl, nd kind [] [], ?_, rfl, ?_, rfl, rfl⟩
 ·simp
 ·simp
 ·simp [nd]
theorem sp_Q103 : SP 103 = some (.code sc_Q103) := SPof_code rfl Tryz.func103 comp_Q103
def At_Q103_1 (rank : Int) (i13 : Int) (x14 : PExprs) (g15 : Nat) (z16 : Bool) (o : Option Int) (r : Int) (x' : PExprs) (x'_g2 : Nat) (x'_z2 : Bool) : Prop := ∀ (S : Sto) (e : Nat → PV) (f : Fr) (n0 t0 : Nat), ((getBox S n0 t0).map (List.take 4) = some [.list 5 (x14.tokens.l.map eToken) false, .int .i64 x14.tokens.pos, .sl 0 (.cell t0 2) 0 x14.out.length x14.out.length g15 false, .int .i64 x14.deep] ∧ getArr S n0 (.cell t0 2) = some ⟨5, x14.out.map eNode, z16, g15⟩) → e 0 = .ptr (n0 + 1) t0 0 ∧ e 1 = .int .i64 rank ∧ e 5 = .int .i64 i13 → k_Q103_1 SP (E SP (.loop b_Q103_1) ⟨e, f :: S⟩) = po 116 o (.v (.int .i64 r)) (setArr (setBox S n0 t0 ([.list 5 (x'.tokens.l.map eToken) false, .int .i64 x'.tokens.pos, .sl 0 (.cell t0 2) 0 x'.out.length x'.out.length x'_g2 false, .int .i64 x'.deep] ++ ((getBox S n0 t0).getD []).drop 4)) n0 (.cell t0 2) ⟨5, x'.out.map eNode, x'_z2, x'_g2⟩)
theorem At_Q103_1_step (rank : Int) (i13 : Int) (x14 : PExprs) (g15 : Nat) (z16 : Bool) (o : Option Int) (r : Int) (x' : PExprs) (x'_g2 : Nat) (x'_z2 : Bool) (T :
  ∃ (r17 : Token) (y18 : PTokens), (R_Q38 x14.tokens r17 y18) ∧
 ((r17.Kind = 4) →
  ∃ (r19 : Token) (y20 : PTokens), (R_Q38 y18 r19 y20) ∧
  ∃ (r21 : Int) (r22 : Bool), (R_Q143 rank r19.Text r21 r22) ∧
  ((r22 = true) →
   (I64 (y20.pos + 1)) ∧
   (I64 (rank + 1)) ∧
   ∃ (o24 : Option Int) (r23 : Int) (y25 : PExprs) (g26 : Nat) (z27 : Bool), (R_Q103 (PExprs.mk (PTokens.mk y20.l (y20.pos + 1)) x14.out x14.deep) g15 z16 (rank + 1) o24 r23 y25 g26 z27) ∧
   (match o24 with
   | none => (∃ (r29 : Int) (y30 : PExprs) (g31 : Nat) (z32 : Bool), (R_Q105 y25 g26 z27 r21 [] [i13, r23] r29 y30 g31 z32) ∧
    ((rank = 2) →
     none = o ∧ r29 = r ∧ y30 = x' ∧ g31 = x'_g2 ∧ z32 = x'_z2) ∧
    (¬ (rank = 2) →
     At_Q103_1 rank r29 y30 g31 z32 o r x' x'_g2 x'_z2))
   | some e28 => (some e28 = o ∧ y25 = x' ∧ g26 = x'_g2 ∧ z27 = x'_z2))) ∧
  (¬ (r22 = true) →
   none = o ∧ i13 = r ∧ (PExprs.mk y20 x14.out x14.deep) = x' ∧ g15 = x'_g2 ∧ z16 = x'_z2)) ∧
 (¬ (r17.Kind = 4) →
  none = o ∧ i13 = r ∧ (PExprs.mk y18 x14.out x14.deep) = x' ∧ g15 = x'_g2 ∧ z16 = x'_z2)) : At_Q103_1 rank i13 x14 g15 z16 o r x' x'_g2 x'_z2 := by
 intro S e f n0 t0 H0 h
 obtain ⟨hb0, ha0⟩ := H0
 obtain ⟨w0, hB0⟩ := take_some hb0
 have hn0 := o_getBox_lt hB0
 unfold k_Q103_1
 rw [E_loop]
 have F := U_Q103
 obtain ⟨r17, y18, q1, T⟩ := T
 simp only [R_Q38, le, List.cons_append, List.nil_append] at q1
 replace F := aa ha0 <| aa hB0 <| aa hn0 <| aa h <| aa q1 <| F
 by_cases c2 : r17.Kind = 4
 · replace T := T.1 c2
   obtain ⟨r19, y20, q3, r21, r22, q4, T⟩ := T
   simp only [R_Q38, le, List.cons_append, List.nil_append] at q3
   simp only [R_Q143, le, List.cons_append, List.nil_append] at q4
   replace F := aa (eq_true c2) <| aa q3 <| aa q4 <| F
   by_cases c5 : r22 = true
   · replace T := T.1 c5
     obtain ⟨p6, p7, o24, r23, y25, g26, z27, q8, T⟩ := T
     simp only [R_Q103, le, List.cons_append, List.nil_append] at q8
     replace F := aa c5 <| aa p6.wrap <| aa p7.wrap <| aa q8 <| F
     cases o24 with
     | none =>
       dsimp only at T
       obtain ⟨r29, y30, g31, z32, q9, T⟩ := T
       simp only [R_Q105, le, List.cons_append, List.nil_append] at q9
       replace F := aa q9 <| F
       by_cases c10 : rank = 2
       · replace T := T.1 c10
         obtain ⟨rfl, rfl, rfl, rfl, rfl⟩ := T
         exact fi (aa (eq_true c10) <| F)
       · replace T := T.2 c10
         replace F := aa (eq_false c10) <| F
         try simp only [F, lw, lx, le, Nat.reduceMul, UInt8.reduceToNat, reduceIte, reduceCtorEq, Nat.reduceEqDiff, Nat.reduceAdd, Nat.reduceLeDiff, Nat.reduceSub, Nat.reduceLT, Int.reduceEq, Int.reduceLT, Int.reduceLE, Int.reduceToNat, Int.reduceAdd, Int.reduceSub, Int.reduceMul, Int.reduceNeg]
         refine (T _ _ _ n0 t0 ?_ ?_).trans ?_
         all_goals exact fi F
     | some e28 =>
       dsimp only at T
       obtain ⟨rfl, rfl, rfl, rfl⟩ := T
       exact fi F
   · replace T := T.2 c5
     replace c5 := Bool.eq_false_iff.2 c5
     obtain ⟨rfl, rfl, rfl, rfl, rfl⟩ := T
     exact fi (aa c5 <| F)
 · replace T := T.2 c2
   obtain ⟨rfl, rfl, rfl, rfl, rfl⟩ := T
   exact fi (aa (eq_false c2) <| F)
theorem Q103_tree (x : PExprs) (x_g2 : Nat) (x_z2 : Bool) (rank : Int) (o : Option Int) (r : Int) (x' : PExprs) (x'_g2 : Nat) (x'_z2 : Bool) (T :
  ((rank = 5) →
  ∃ (o2 : Option Int) (r1 : Int) (y3 : PExprs) (g4 : Nat) (z5 : Bool), (R_Q142 x x_g2 x_z2 o2 r1 y3 g4 z5) ∧
  (match o2 with
  | none => (none = o ∧ r1 = r ∧ y3 = x' ∧ g4 = x'_g2 ∧ z5 = x'_z2)
  | some e6 => (some e6 = o ∧ y3 = x' ∧ g4 = x'_g2 ∧ z5 = x'_z2))) ∧
 (¬ (rank = 5) →
  (I64 (rank + 1)) ∧
  ∃ (o8 : Option Int) (r7 : Int) (y9 : PExprs) (g10 : Nat) (z11 : Bool), (R_Q103 x x_g2 x_z2 (rank + 1) o8 r7 y9 g10 z11) ∧
  (match o8 with
  | none => (At_Q103_1 rank r7 y9 g10 z11 o r x' x'_g2 x'_z2)
  | some e12 => (some e12 = o ∧ y9 = x' ∧ g10 = x'_g2 ∧ z11 = x'_z2)))) : R_Q103 x x_g2 x_z2 rank o r x' x'_g2 x'_z2 := by
 intro S n0 t0 H0
 obtain ⟨hb0, ha0⟩ := H0
 obtain ⟨w0, hB0⟩ := take_some hb0
 have hn0 := o_getBox_lt hB0
 rw [call_code sp_Q103 _ _ rfl]
 have F := U_Q103
 replace F := aa ha0 <| aa hB0 <| aa hn0 <| F
 by_cases c1 : rank = 5
 · replace T := T.1 c1
   obtain ⟨o2, r1, y3, g4, z5, q2, T⟩ := T
   simp only [R_Q142, le, List.cons_append, List.nil_append] at q2
   replace F := aa (eq_true c1) <| aa q2 <| F
   cases o2 with
   | none =>
     dsimp only at T
     obtain ⟨rfl, rfl, rfl, rfl, rfl⟩ := T
     exact fi F
   | some e6 =>
     dsimp only at T
     obtain ⟨rfl, rfl, rfl, rfl⟩ := T
     exact fi F
 · replace T := T.2 c1
   obtain ⟨p3, o8, r7, y9, g10, z11, q4, T⟩ := T
   simp only [R_Q103, le, List.cons_append, List.nil_append] at q4
   replace F := aa (eq_false c1) <| aa p3.wrap <| aa q4 <| F
   cases o8 with
   | none =>
     dsimp only at T
     try simp only [F, lw, lx, le, Nat.reduceMul, UInt8.reduceToNat, reduceIte, reduceCtorEq, Nat.reduceEqDiff, Nat.reduceAdd, Nat.reduceLeDiff, Nat.reduceSub, Nat.reduceLT, Int.reduceEq, Int.reduceLT, Int.reduceLE, Int.reduceToNat, Int.reduceAdd, Int.reduceSub, Int.reduceMul, Int.reduceNeg]
     refine (T _ _ _ n0 t0 ?_ ?_).trans ?_
     all_goals exact fi F
   | some e12 =>
     dsimp only at T
     obtain ⟨rfl, rfl, rfl, rfl⟩ := T
     exact fi F
theorem sp_Q68 : SP 68 = some (.code sc_Q68) := SPof_code rfl Tryz.func68 comp_Q68
theorem Q68_tree (x : PExprs) (x_g2 : Nat) (x_z2 : Bool) (o : Option Int) (r : Int) (x' : PExprs) (x'_g2 : Nat) (x'_z2 : Bool) (T :
  ∃ (o2 : Option Int) (r1 : Int) (y3 : PExprs) (g4 : Nat) (z5 : Bool), (R_Q103 x x_g2 x_z2 0 o2 r1 y3 g4 z5) ∧
 (match o2 with
 | none => (∃ (r7 : Bool) (y8 : PTokens), (R_Q102 y3.tokens [63] r7 y8) ∧
  ((r7 = true) →
   ∃ (o9 : Option Int) (y10 : PExprs) (g11 : Nat) (z12 : Bool), (R_Q104 (PExprs.mk y8 y3.out y3.deep) g4 z5 [63] o9 y10 g11 z12) ∧
   (match o9 with
   | none => (∃ (o15 : Option Int) (r14 : Int) (y16 : PExprs) (g17 : Nat) (z18 : Bool), (R_Q68 y10 g11 z12 o15 r14 y16 g17 z18) ∧
    (match o15 with
    | none => (∃ (o20 : Option Int) (y21 : PTokens), (R_Q66 y16.tokens [58] o20 y21) ∧
     (match o20 with
     | none => (∃ (o24 : Option Int) (r23 : Int) (y25 : PExprs) (g26 : Nat) (z27 : Bool), (R_Q68 (PExprs.mk y21 y16.out y16.deep) g17 z18 o24 r23 y25 g26 z27) ∧
      (match o24 with
      | none => ((I64 (y25.deep - 1)) ∧
       ∃ (r29 : Int) (y30 : PExprs) (g31 : Nat) (z32 : Bool), (R_Q105 (PExprs.mk y25.tokens y25.out (y25.deep - 1)) g26 z27 10 [] [r1, r14, r23] r29 y30 g31 z32) ∧
       none = o ∧ r29 = r ∧ y30 = x' ∧ g31 = x'_g2 ∧ z32 = x'_z2)
      | some e28 => (some e28 = o ∧ y25 = x' ∧ g26 = x'_g2 ∧ z27 = x'_z2)))
     | some e22 => (some e22 = o ∧ (PExprs.mk y21 y16.out y16.deep) = x' ∧ g17 = x'_g2 ∧ z18 = x'_z2)))
    | some e19 => (some e19 = o ∧ y16 = x' ∧ g17 = x'_g2 ∧ z18 = x'_z2)))
   | some e13 => (some e13 = o ∧ y10 = x' ∧ g11 = x'_g2 ∧ z12 = x'_z2))) ∧
  (¬ (r7 = true) →
   none = o ∧ r1 = r ∧ (PExprs.mk y8 y3.out y3.deep) = x' ∧ g4 = x'_g2 ∧ z5 = x'_z2))
 | some e6 => (some e6 = o ∧ y3 = x' ∧ g4 = x'_g2 ∧ z5 = x'_z2))) : R_Q68 x x_g2 x_z2 o r x' x'_g2 x'_z2 := by
 intro S n0 t0 H0
 obtain ⟨hb0, ha0⟩ := H0
 obtain ⟨w0, hB0⟩ := take_some hb0
 have hn0 := o_getBox_lt hB0
 rw [call_code sp_Q68 _ _ rfl]
 have F := U_Q68
 obtain ⟨o2, r1, y3, g4, z5, q1, T⟩ := T
 simp only [R_Q103, le, List.cons_append, List.nil_append] at q1
 replace F := aa ha0 <| aa hB0 <| aa hn0 <| aa q1 <| F
 cases o2 with
 | none =>
   dsimp only at T
   obtain ⟨r7, y8, q2, T⟩ := T
   simp only [R_Q102, le, List.cons_append, List.nil_append] at q2
   replace F := aa q2 <| F
   by_cases c3 : r7 = true
   · replace T := T.1 c3
     obtain ⟨o9, y10, g11, z12, q4, T⟩ := T
     simp only [R_Q104, le, List.cons_append, List.nil_append] at q4
     replace F := aa c3 <| aa q4 <| F
     cases o9 with
     | none =>
       dsimp only at T
       obtain ⟨o15, r14, y16, g17, z18, q5, T⟩ := T
       simp only [R_Q68, le, List.cons_append, List.nil_append] at q5
       replace F := aa q5 <| F
       cases o15 with
       | none =>
         dsimp only at T
         obtain ⟨o20, y21, q6, T⟩ := T
         simp only [R_Q66, le, List.cons_append, List.nil_append] at q6
         replace F := aa q6 <| F
         cases o20 with
         | none =>
           dsimp only at T
           obtain ⟨o24, r23, y25, g26, z27, q7, T⟩ := T
           simp only [R_Q68, le, List.cons_append, List.nil_append] at q7
           replace F := aa q7 <| F
           cases o24 with
           | none =>
             dsimp only at T
             obtain ⟨p8, r29, y30, g31, z32, q9, rfl, rfl, rfl, rfl, rfl⟩ := T
             simp only [R_Q105, le, List.cons_append, List.nil_append] at q9
             exact fi (aa p8.wrap <| aa q9 <| F)
           | some e28 =>
             dsimp only at T
             obtain ⟨rfl, rfl, rfl, rfl⟩ := T
             exact fi F
         | some e22 =>
           dsimp only at T
           obtain ⟨rfl, rfl, rfl, rfl⟩ := T
           exact fi F
       | some e19 =>
         dsimp only at T
         obtain ⟨rfl, rfl, rfl, rfl⟩ := T
         exact fi F
     | some e13 =>
       dsimp only at T
       obtain ⟨rfl, rfl, rfl, rfl⟩ := T
       exact fi F
   · replace T := T.2 c3
     replace c3 := Bool.eq_false_iff.2 c3
     obtain ⟨rfl, rfl, rfl, rfl, rfl⟩ := T
     exact fi (aa c3 <| F)
 | some e6 =>
   dsimp only at T
   obtain ⟨rfl, rfl, rfl, rfl⟩ := T
   exact fi F
theorem sp_Q142 : SP 142 = some (.code sc_Q142) := SPof_code rfl Tryz.func142 comp_Q142
theorem Q142_tree (x : PExprs) (x_g2 : Nat) (x_z2 : Bool) (o : Option Int) (r : Int) (x' : PExprs) (x'_g2 : Nat) (x'_z2 : Bool) (T :
  ∃ (r1 : Bool) (y2 : PTokens), (R_Q102 x.tokens [45] r1 y2) ∧
 ((r1 = true) →
  ∃ (o3 : Option Int) (y4 : PExprs) (g5 : Nat) (z6 : Bool), (R_Q104 (PExprs.mk y2 x.out x.deep) x_g2 x_z2 [45] o3 y4 g5 z6) ∧
  (match o3 with
  | none => (∃ (o9 : Option Int) (r8 : Int) (y10 : PExprs) (g11 : Nat) (z12 : Bool), (R_Q142 y4 g5 z6 o9 r8 y10 g11 z12) ∧
   (match o9 with
   | none => ((I64 (y10.deep - 1)) ∧
    ∃ (r14 : Int) (y15 : PExprs) (g16 : Nat) (z17 : Bool), (R_Q105 (PExprs.mk y10.tokens y10.out (y10.deep - 1)) g11 z12 9 [] [r8] r14 y15 g16 z17) ∧
    none = o ∧ r14 = r ∧ y15 = x' ∧ g16 = x'_g2 ∧ z17 = x'_z2)
   | some e13 => (some e13 = o ∧ y10 = x' ∧ g11 = x'_g2 ∧ z12 = x'_z2)))
  | some e7 => (some e7 = o ∧ y4 = x' ∧ g5 = x'_g2 ∧ z6 = x'_z2))) ∧
 (¬ (r1 = true) →
  ∃ (r18 : Bool) (y19 : PTokens), (R_Q102 y2 [33] r18 y19) ∧
  ((r18 = true) →
   ∃ (o20 : Option Int) (y21 : PExprs) (g22 : Nat) (z23 : Bool), (R_Q104 (PExprs.mk y19 x.out x.deep) x_g2 x_z2 [33] o20 y21 g22 z23) ∧
   (match o20 with
   | none => (∃ (o26 : Option Int) (r25 : Int) (y27 : PExprs) (g28 : Nat) (z29 : Bool), (R_Q142 y21 g22 z23 o26 r25 y27 g28 z29) ∧
    (match o26 with
    | none => ((I64 (y27.deep - 1)) ∧
     ∃ (r31 : Int) (y32 : PExprs) (g33 : Nat) (z34 : Bool), (R_Q105 (PExprs.mk y27.tokens y27.out (y27.deep - 1)) g28 z29 8 [] [r25] r31 y32 g33 z34) ∧
     none = o ∧ r31 = r ∧ y32 = x' ∧ g33 = x'_g2 ∧ z34 = x'_z2)
    | some e30 => (some e30 = o ∧ y27 = x' ∧ g28 = x'_g2 ∧ z29 = x'_z2)))
   | some e24 => (some e24 = o ∧ y21 = x' ∧ g22 = x'_g2 ∧ z23 = x'_z2))) ∧
  (¬ (r18 = true) →
   ∃ (o36 : Option Int) (r35 : Int) (y37 : PExprs) (g38 : Nat) (z39 : Bool), (R_Q167 (PExprs.mk y19 x.out x.deep) x_g2 x_z2 o36 r35 y37 g38 z39) ∧
   (match o36 with
   | none => (none = o ∧ r35 = r ∧ y37 = x' ∧ g38 = x'_g2 ∧ z39 = x'_z2)
   | some e40 => (some e40 = o ∧ y37 = x' ∧ g38 = x'_g2 ∧ z39 = x'_z2))))) : R_Q142 x x_g2 x_z2 o r x' x'_g2 x'_z2 := by
 intro S n0 t0 H0
 obtain ⟨hb0, ha0⟩ := H0
 obtain ⟨w0, hB0⟩ := take_some hb0
 have hn0 := o_getBox_lt hB0
 rw [call_code sp_Q142 _ _ rfl]
 have F := U_Q142
 obtain ⟨r1, y2, q1, T⟩ := T
 simp only [R_Q102, le, List.cons_append, List.nil_append] at q1
 replace F := aa ha0 <| aa hB0 <| aa hn0 <| aa q1 <| F
 by_cases c2 : r1 = true
 · replace T := T.1 c2
   obtain ⟨o3, y4, g5, z6, q3, T⟩ := T
   simp only [R_Q104, le, List.cons_append, List.nil_append] at q3
   replace F := aa c2 <| aa q3 <| F
   cases o3 with
   | none =>
     dsimp only at T
     obtain ⟨o9, r8, y10, g11, z12, q4, T⟩ := T
     simp only [R_Q142, le, List.cons_append, List.nil_append] at q4
     replace F := aa q4 <| F
     cases o9 with
     | none =>
       dsimp only at T
       obtain ⟨p5, r14, y15, g16, z17, q6, rfl, rfl, rfl, rfl, rfl⟩ := T
       simp only [R_Q105, le, List.cons_append, List.nil_append] at q6
       exact fi (aa p5.wrap <| aa q6 <| F)
     | some e13 =>
       dsimp only at T
       obtain ⟨rfl, rfl, rfl, rfl⟩ := T
       exact fi F
   | some e7 =>
     dsimp only at T
     obtain ⟨rfl, rfl, rfl, rfl⟩ := T
     exact fi F
 · replace T := T.2 c2
   replace c2 := Bool.eq_false_iff.2 c2
   obtain ⟨r18, y19, q7, T⟩ := T
   simp only [R_Q102, le, List.cons_append, List.nil_append] at q7
   replace F := aa c2 <| aa q7 <| F
   by_cases c8 : r18 = true
   · replace T := T.1 c8
     obtain ⟨o20, y21, g22, z23, q9, T⟩ := T
     simp only [R_Q104, le, List.cons_append, List.nil_append] at q9
     replace F := aa c8 <| aa q9 <| F
     cases o20 with
     | none =>
       dsimp only at T
       obtain ⟨o26, r25, y27, g28, z29, q10, T⟩ := T
       simp only [R_Q142, le, List.cons_append, List.nil_append] at q10
       replace F := aa q10 <| F
       cases o26 with
       | none =>
         dsimp only at T
         obtain ⟨p11, r31, y32, g33, z34, q12, rfl, rfl, rfl, rfl, rfl⟩ := T
         simp only [R_Q105, le, List.cons_append, List.nil_append] at q12
         exact fi (aa p11.wrap <| aa q12 <| F)
       | some e30 =>
         dsimp only at T
         obtain ⟨rfl, rfl, rfl, rfl⟩ := T
         exact fi F
     | some e24 =>
       dsimp only at T
       obtain ⟨rfl, rfl, rfl, rfl⟩ := T
       exact fi F
   · replace T := T.2 c8
     replace c8 := Bool.eq_false_iff.2 c8
     obtain ⟨o36, r35, y37, g38, z39, q13, T⟩ := T
     simp only [R_Q167, le, List.cons_append, List.nil_append] at q13
     replace F := aa c8 <| aa q13 <| F
     cases o36 with
     | none =>
       dsimp only at T
       obtain ⟨rfl, rfl, rfl, rfl, rfl⟩ := T
       exact fi F
     | some e40 =>
       dsimp only at T
       obtain ⟨rfl, rfl, rfl, rfl⟩ := T
       exact fi F
theorem sp_Q167 : SP 167 = some (.code sc_Q167) := SPof_code rfl Tryz.func167 comp_Q167
def At_Q167_1 (i7 : Int) (x8 : PExprs) (g9 : Nat) (z10 : Bool) (o : Option Int) (r : Int) (x' : PExprs) (x'_g2 : Nat) (x'_z2 : Bool) : Prop := ∀ (S : Sto) (e : Nat → PV) (f : Fr) (n0 t0 : Nat), ((getBox S n0 t0).map (List.take 4) = some [.list 5 (x8.tokens.l.map eToken) false, .int .i64 x8.tokens.pos, .sl 0 (.cell t0 2) 0 x8.out.length x8.out.length g9 false, .int .i64 x8.deep] ∧ getArr S n0 (.cell t0 2) = some ⟨5, x8.out.map eNode, z10, g9⟩) → e 0 = .ptr (n0 + 1) t0 0 ∧ e 3 = .int .i64 i7 → k_Q167_1 SP (E SP (.loop b_Q167_1) ⟨e, f :: S⟩) = po 116 o (.v (.int .i64 r)) (setArr (setBox S n0 t0 ([.list 5 (x'.tokens.l.map eToken) false, .int .i64 x'.tokens.pos, .sl 0 (.cell t0 2) 0 x'.out.length x'.out.length x'_g2 false, .int .i64 x'.deep] ++ ((getBox S n0 t0).getD []).drop 4)) n0 (.cell t0 2) ⟨5, x'.out.map eNode, x'_z2, x'_g2⟩)
theorem At_Q167_1_step (i7 : Int) (x8 : PExprs) (g9 : Nat) (z10 : Bool) (o : Option Int) (r : Int) (x' : PExprs) (x'_g2 : Nat) (x'_z2 : Bool) (T :
  ∃ (r11 : Bool) (y12 : PTokens), (R_Q102 x8.tokens [91] r11 y12) ∧
 ((r11 = true) →
  ∃ (o13 : Option Int) (y14 : PExprs) (g15 : Nat) (z16 : Bool), (R_Q104 (PExprs.mk y12 x8.out x8.deep) g9 z10 [91] o13 y14 g15 z16) ∧
  (match o13 with
  | none => (∃ (o19 : Option Int) (r18 : Int) (y20 : PExprs) (g21 : Nat) (z22 : Bool), (R_Q68 y14 g15 z16 o19 r18 y20 g21 z22) ∧
   (match o19 with
   | none => (∃ (o24 : Option Int) (y25 : PExprs) (g26 : Nat) (z27 : Bool), (R_Q181 y20 g21 z22 [93] o24 y25 g26 z27) ∧
    (match o24 with
    | none => (∃ (r29 : Int) (y30 : PExprs) (g31 : Nat) (z32 : Bool), (R_Q105 y25 g26 z27 7 [] [i7, r18] r29 y30 g31 z32) ∧
     At_Q167_1 r29 y30 g31 z32 o r x' x'_g2 x'_z2)
    | some e28 => (some e28 = o ∧ y25 = x' ∧ g26 = x'_g2 ∧ z27 = x'_z2)))
   | some e23 => (some e23 = o ∧ y20 = x' ∧ g21 = x'_g2 ∧ z22 = x'_z2)))
  | some e17 => (some e17 = o ∧ y14 = x' ∧ g15 = x'_g2 ∧ z16 = x'_z2))) ∧
 (¬ (r11 = true) →
  none = o ∧ i7 = r ∧ (PExprs.mk y12 x8.out x8.deep) = x' ∧ g9 = x'_g2 ∧ z10 = x'_z2)) : At_Q167_1 i7 x8 g9 z10 o r x' x'_g2 x'_z2 := by
 intro S e f n0 t0 H0 h
 obtain ⟨hb0, ha0⟩ := H0
 obtain ⟨w0, hB0⟩ := take_some hb0
 have hn0 := o_getBox_lt hB0
 unfold k_Q167_1
 rw [E_loop]
 have F := U_Q167
 obtain ⟨r11, y12, q1, T⟩ := T
 simp only [R_Q102, le, List.cons_append, List.nil_append] at q1
 replace F := aa ha0 <| aa hB0 <| aa hn0 <| aa h <| aa q1 <| F
 by_cases c2 : r11 = true
 · replace T := T.1 c2
   obtain ⟨o13, y14, g15, z16, q3, T⟩ := T
   simp only [R_Q104, le, List.cons_append, List.nil_append] at q3
   replace F := aa c2 <| aa q3 <| F
   cases o13 with
   | none =>
     dsimp only at T
     obtain ⟨o19, r18, y20, g21, z22, q4, T⟩ := T
     simp only [R_Q68, le, List.cons_append, List.nil_append] at q4
     replace F := aa q4 <| F
     cases o19 with
     | none =>
       dsimp only at T
       obtain ⟨o24, y25, g26, z27, q5, T⟩ := T
       simp only [R_Q181, le, List.cons_append, List.nil_append] at q5
       replace F := aa q5 <| F
       cases o24 with
       | none =>
         dsimp only at T
         obtain ⟨r29, y30, g31, z32, q6, T⟩ := T
         simp only [R_Q105, le, List.cons_append, List.nil_append] at q6
         replace F := aa q6 <| F
         try simp only [F, lw, lx, le, Nat.reduceMul, UInt8.reduceToNat, reduceIte, reduceCtorEq, Nat.reduceEqDiff, Nat.reduceAdd, Nat.reduceLeDiff, Nat.reduceSub, Nat.reduceLT, Int.reduceEq, Int.reduceLT, Int.reduceLE, Int.reduceToNat, Int.reduceAdd, Int.reduceSub, Int.reduceMul, Int.reduceNeg]
         refine (T _ _ _ n0 t0 ?_ ?_).trans ?_
         all_goals exact fi F
       | some e28 =>
         dsimp only at T
         obtain ⟨rfl, rfl, rfl, rfl⟩ := T
         exact fi F
     | some e23 =>
       dsimp only at T
       obtain ⟨rfl, rfl, rfl, rfl⟩ := T
       exact fi F
   | some e17 =>
     dsimp only at T
     obtain ⟨rfl, rfl, rfl, rfl⟩ := T
     exact fi F
 · replace T := T.2 c2
   replace c2 := Bool.eq_false_iff.2 c2
   obtain ⟨rfl, rfl, rfl, rfl, rfl⟩ := T
   exact fi (aa c2 <| F)
theorem Q167_tree (x : PExprs) (x_g2 : Nat) (x_z2 : Bool) (o : Option Int) (r : Int) (x' : PExprs) (x'_g2 : Nat) (x'_z2 : Bool) (T :
  ∃ (o2 : Option Int) (r1 : Int) (y3 : PExprs) (g4 : Nat) (z5 : Bool), (R_Q180 x x_g2 x_z2 o2 r1 y3 g4 z5) ∧
 (match o2 with
 | none => (At_Q167_1 r1 y3 g4 z5 o r x' x'_g2 x'_z2)
 | some e6 => (some e6 = o ∧ y3 = x' ∧ g4 = x'_g2 ∧ z5 = x'_z2))) : R_Q167 x x_g2 x_z2 o r x' x'_g2 x'_z2 := by
 intro S n0 t0 H0
 obtain ⟨hb0, ha0⟩ := H0
 obtain ⟨w0, hB0⟩ := take_some hb0
 have hn0 := o_getBox_lt hB0
 rw [call_code sp_Q167 _ _ rfl]
 have F := U_Q167
 obtain ⟨o2, r1, y3, g4, z5, q1, T⟩ := T
 simp only [R_Q180, le, List.cons_append, List.nil_append] at q1
 replace F := aa ha0 <| aa hB0 <| aa hn0 <| aa q1 <| F
 cases o2 with
 | none =>
   dsimp only at T
   try simp only [F, lw, lx, le, Nat.reduceMul, UInt8.reduceToNat, reduceIte, reduceCtorEq, Nat.reduceEqDiff, Nat.reduceAdd, Nat.reduceLeDiff, Nat.reduceSub, Nat.reduceLT, Int.reduceEq, Int.reduceLT, Int.reduceLE, Int.reduceToNat, Int.reduceAdd, Int.reduceSub, Int.reduceMul, Int.reduceNeg]
   refine (T _ _ _ n0 t0 ?_ ?_).trans ?_
   all_goals exact fi F
 | some e6 =>
   dsimp only at T
   obtain ⟨rfl, rfl, rfl, rfl⟩ := T
   exact fi F
theorem sp_Q203 : SP 203 = some (.code sc_Q203) := SPof_code rfl Tryz.func203 comp_Q203
def At_Q203_1 (end_ : List UInt8) (l14 : List Int) (x15 : PExprs) (g16 : Nat) (z17 : Bool) (o : Option Int) (r : List Int) (x' : PExprs) (x'_g2 : Nat) (x'_z2 : Bool) : Prop := ∀ (S : Sto) (e : Nat → PV) (f : Fr) (n0 t0 : Nat), ((getBox S n0 t0).map (List.take 4) = some [.list 5 (x15.tokens.l.map eToken) false, .int .i64 x15.tokens.pos, .sl 0 (.cell t0 2) 0 x15.out.length x15.out.length g16 false, .int .i64 x15.deep] ∧ getArr S n0 (.cell t0 2) = some ⟨5, x15.out.map eNode, z17, g16⟩) → e 0 = .ptr (n0 + 1) t0 0 ∧ e 1 = .str end_ ∧ e 5 = .sl 0 (.slot 5) 0 l14.length l14.length 0 false ∧ f.arr (.slot 5) = some ⟨1, l14.map eI, false, 0⟩ → k_Q203_1 SP (E SP (.loop b_Q203_1) ⟨e, f :: S⟩) = po 116 o (.arr 1 (r.map eI) false) (setArr (setBox S n0 t0 ([.list 5 (x'.tokens.l.map eToken) false, .int .i64 x'.tokens.pos, .sl 0 (.cell t0 2) 0 x'.out.length x'.out.length x'_g2 false, .int .i64 x'.deep] ++ ((getBox S n0 t0).getD []).drop 4)) n0 (.cell t0 2) ⟨5, x'.out.map eNode, x'_z2, x'_g2⟩)
theorem At_Q203_1_step (end_ : List UInt8) (l14 : List Int) (x15 : PExprs) (g16 : Nat) (z17 : Bool) (o : Option Int) (r : List Int) (x' : PExprs) (x'_g2 : Nat) (x'_z2 : Bool) (T :
  ∃ (r18 : Bool) (y19 : PTokens), (R_Q67 x15.tokens [44] r18 y19) ∧
 ((r18 = true) →
  ∃ (o21 : Option Int) (r20 : Int) (y22 : PExprs) (g23 : Nat) (z24 : Bool), (R_Q68 (PExprs.mk y19 x15.out x15.deep) g16 z17 o21 r20 y22 g23 z24) ∧
  (match o21 with
  | none => ((bigRow (l14.length + 1) 8) ∧
   At_Q203_1 end_ (l14 ++ [r20]) y22 g23 z24 o r x' x'_g2 x'_z2)
  | some e25 => (some e25 = o ∧ y22 = x' ∧ g23 = x'_g2 ∧ z24 = x'_z2))) ∧
 (¬ (r18 = true) →
  ∃ (o26 : Option Int) (y27 : PExprs) (g28 : Nat) (z29 : Bool), (R_Q181 (PExprs.mk y19 x15.out x15.deep) g16 z17 end_ o26 y27 g28 z29) ∧
  (match o26 with
  | none => (none = o ∧ l14 = r ∧ y27 = x' ∧ g28 = x'_g2 ∧ z29 = x'_z2)
  | some e30 => (some e30 = o ∧ y27 = x' ∧ g28 = x'_g2 ∧ z29 = x'_z2)))) : At_Q203_1 end_ l14 x15 g16 z17 o r x' x'_g2 x'_z2 := by
 intro S e f n0 t0 H0 h
 obtain ⟨hb0, ha0⟩ := H0
 obtain ⟨w0, hB0⟩ := take_some hb0
 have hn0 := o_getBox_lt hB0
 unfold k_Q203_1
 rw [E_loop]
 have F := U_Q203
 obtain ⟨r18, y19, q1, T⟩ := T
 simp only [R_Q67, le, List.cons_append, List.nil_append] at q1
 replace F := aa ha0 <| aa hB0 <| aa hn0 <| aa h <| aa q1 <| F
 by_cases c2 : r18 = true
 · replace T := T.1 c2
   obtain ⟨o21, r20, y22, g23, z24, q3, T⟩ := T
   simp only [R_Q68, le, List.cons_append, List.nil_append] at q3
   replace F := aa c2 <| aa q3 <| F
   cases o21 with
   | none =>
     dsimp only at T
     obtain ⟨p4, T⟩ := T
     simp only [bigRow] at p4
     replace F := aa p4 <| F
     try simp only [F, lw, lx, le, Nat.reduceMul, UInt8.reduceToNat, reduceIte, reduceCtorEq, Nat.reduceEqDiff, Nat.reduceAdd, Nat.reduceLeDiff, Nat.reduceSub, Nat.reduceLT, Int.reduceEq, Int.reduceLT, Int.reduceLE, Int.reduceToNat, Int.reduceAdd, Int.reduceSub, Int.reduceMul, Int.reduceNeg]
     refine (T _ _ _ n0 t0 ?_ ?_).trans ?_
     all_goals exact fi F
   | some e25 =>
     dsimp only at T
     obtain ⟨rfl, rfl, rfl, rfl⟩ := T
     exact fi F
 · replace T := T.2 c2
   replace c2 := Bool.eq_false_iff.2 c2
   obtain ⟨o26, y27, g28, z29, q5, T⟩ := T
   simp only [R_Q181, le, List.cons_append, List.nil_append] at q5
   replace F := aa c2 <| aa q5 <| F
   cases o26 with
   | none =>
     dsimp only at T
     obtain ⟨rfl, rfl, rfl, rfl, rfl⟩ := T
     exact fi F
   | some e30 =>
     dsimp only at T
     obtain ⟨rfl, rfl, rfl, rfl⟩ := T
     exact fi F
theorem Q203_tree (x : PExprs) (x_g2 : Nat) (x_z2 : Bool) (end_ : List UInt8) (o : Option Int) (r : List Int) (x' : PExprs) (x'_g2 : Nat) (x'_z2 : Bool) (T :
  ∃ (r1 : Bool) (y2 : PTokens), (R_Q102 x.tokens end_ r1 y2) ∧
 ((r1 = true) →
  ∃ (o3 : Option Int) (y4 : PExprs) (g5 : Nat) (z6 : Bool), (R_Q181 (PExprs.mk y2 x.out x.deep) x_g2 x_z2 end_ o3 y4 g5 z6) ∧
  (match o3 with
  | none => (none = o ∧ [] = r ∧ y4 = x' ∧ g5 = x'_g2 ∧ z6 = x'_z2)
  | some e7 => (some e7 = o ∧ y4 = x' ∧ g5 = x'_g2 ∧ z6 = x'_z2))) ∧
 (¬ (r1 = true) →
  ∃ (o9 : Option Int) (r8 : Int) (y10 : PExprs) (g11 : Nat) (z12 : Bool), (R_Q68 (PExprs.mk y2 x.out x.deep) x_g2 x_z2 o9 r8 y10 g11 z12) ∧
  (match o9 with
  | none => (At_Q203_1 end_ [r8] y10 g11 z12 o r x' x'_g2 x'_z2)
  | some e13 => (some e13 = o ∧ y10 = x' ∧ g11 = x'_g2 ∧ z12 = x'_z2)))) : R_Q203 x x_g2 x_z2 end_ o r x' x'_g2 x'_z2 := by
 intro S n0 t0 H0
 obtain ⟨hb0, ha0⟩ := H0
 obtain ⟨w0, hB0⟩ := take_some hb0
 have hn0 := o_getBox_lt hB0
 rw [call_code sp_Q203 _ _ rfl]
 have F := U_Q203
 obtain ⟨r1, y2, q1, T⟩ := T
 simp only [R_Q102, le, List.cons_append, List.nil_append] at q1
 replace F := aa ha0 <| aa hB0 <| aa hn0 <| aa q1 <| F
 by_cases c2 : r1 = true
 · replace T := T.1 c2
   obtain ⟨o3, y4, g5, z6, q3, T⟩ := T
   simp only [R_Q181, le, List.cons_append, List.nil_append] at q3
   replace F := aa c2 <| aa q3 <| F
   cases o3 with
   | none =>
     dsimp only at T
     obtain ⟨rfl, rfl, rfl, rfl, rfl⟩ := T
     exact fi F
   | some e7 =>
     dsimp only at T
     obtain ⟨rfl, rfl, rfl, rfl⟩ := T
     exact fi F
 · replace T := T.2 c2
   replace c2 := Bool.eq_false_iff.2 c2
   obtain ⟨o9, r8, y10, g11, z12, q4, T⟩ := T
   simp only [R_Q68, le, List.cons_append, List.nil_append] at q4
   replace F := aa c2 <| aa q4 <| F
   cases o9 with
   | none =>
     dsimp only at T
     try simp only [F, lw, lx, le, Nat.reduceMul, UInt8.reduceToNat, reduceIte, reduceCtorEq, Nat.reduceEqDiff, Nat.reduceAdd, Nat.reduceLeDiff, Nat.reduceSub, Nat.reduceLT, Int.reduceEq, Int.reduceLT, Int.reduceLE, Int.reduceToNat, Int.reduceAdd, Int.reduceSub, Int.reduceMul, Int.reduceNeg]
     refine (T _ _ _ n0 t0 ?_ ?_).trans ?_
     all_goals exact fi F
   | some e13 =>
     dsimp only at T
     obtain ⟨rfl, rfl, rfl, rfl⟩ := T
     exact fi F
theorem sp_Q64 : SP 64 = some (.code sc_Q64) := SPof_code rfl Tryz.func64 comp_Q64
theorem Q64_tree (b : PBlocks) (b_g2 : Nat) (b_z2 : Bool) (o : Option Int) (r : List UInt8) (b' : PBlocks) (b'_g2 : Nat) (b'_z2 : Bool) (T :
  ∃ (r1 : Token) (y2 : PTokens), (R_Q38 b.exprs.tokens r1 y2) ∧
 ((r1.Kind = 2) →
  (((r1.Parts.length : Int) = 1) →
   ∃ (v3 : Part), (r1.Parts[0]? = some v3) ∧
   ((v3.Ref = true) →
    ∃ (o4 : Option Int) (y5 : PTokens), (R_Q42 y2 5 o4 y5) ∧
    (match o4 with
    | none => (False )
    | some e6 => (some e6 = o ∧ (PBlocks.mk (PExprs.mk y5 b.exprs.out b.exprs.deep)) = b' ∧ b_g2 = b'_g2 ∧ b_z2 = b'_z2))) ∧
   (¬ (v3.Ref = true) →
    ∃ (r7 : Bool), (R_Q81 v3.Text r7) ∧
    ((r7 = true) →
     (I64 (y2.pos + 1)) ∧
     none = o ∧ v3.Text = r ∧ (PBlocks.mk (PExprs.mk (PTokens.mk y2.l (y2.pos + 1)) b.exprs.out b.exprs.deep)) = b' ∧ b_g2 = b'_g2 ∧ b_z2 = b'_z2) ∧
    (¬ (r7 = true) →
     ∃ (o8 : Option Int) (y9 : PTokens), (R_Q42 y2 5 o8 y9) ∧
     (match o8 with
     | none => (False )
     | some e10 => (some e10 = o ∧ (PBlocks.mk (PExprs.mk y9 b.exprs.out b.exprs.deep)) = b' ∧ b_g2 = b'_g2 ∧ b_z2 = b'_z2))))) ∧
  (¬ ((r1.Parts.length : Int) = 1) →
   ∃ (o11 : Option Int) (y12 : PTokens), (R_Q42 y2 5 o11 y12) ∧
   (match o11 with
   | none => (False )
   | some e13 => (some e13 = o ∧ (PBlocks.mk (PExprs.mk y12 b.exprs.out b.exprs.deep)) = b' ∧ b_g2 = b'_g2 ∧ b_z2 = b'_z2)))) ∧
 (¬ (r1.Kind = 2) →
  ∃ (o14 : Option Int) (y15 : PTokens), (R_Q42 y2 5 o14 y15) ∧
  (match o14 with
  | none => (False )
  | some e16 => (some e16 = o ∧ (PBlocks.mk (PExprs.mk y15 b.exprs.out b.exprs.deep)) = b' ∧ b_g2 = b'_g2 ∧ b_z2 = b'_z2)))) : R_Q64 b b_g2 b_z2 o r b' b'_g2 b'_z2 := by
 intro S n0 t0 H0
 obtain ⟨hb0, ha0⟩ := H0
 obtain ⟨w0, hB0⟩ := take_some hb0
 have hn0 := o_getBox_lt hB0
 rw [call_code sp_Q64 _ _ rfl]
 have F := U_Q64
 obtain ⟨r1, y2, q1, T⟩ := T
 simp only [R_Q38, le, List.cons_append, List.nil_append] at q1
 replace F := aa ha0 <| aa hB0 <| aa hn0 <| aa q1 <| F
 by_cases c2 : r1.Kind = 2
 · replace T := T.1 c2
   replace F := aa (eq_true c2) <| F
   by_cases c3 : (r1.Parts.length : Int) = 1
   · replace T := T.1 c3
     obtain ⟨v3, q4, T⟩ := T
     replace F := aa (eq_true c3) <| aa q4 <| F
     by_cases c5 : v3.Ref = true
     · replace T := T.1 c5
       obtain ⟨o4, y5, q6, T⟩ := T
       simp only [R_Q42, le, List.cons_append, List.nil_append] at q6
       replace F := aa c5 <| aa q6 <| F
       cases o4 with
       | none => exact False.elim T
       | some e6 =>
         dsimp only at T
         obtain ⟨rfl, rfl, rfl, rfl⟩ := T
         exact fi F
     · replace T := T.2 c5
       replace c5 := Bool.eq_false_iff.2 c5
       obtain ⟨r7, q7, T⟩ := T
       simp only [R_Q81, le, List.cons_append, List.nil_append] at q7
       replace F := aa c5 <| aa q7 <| F
       by_cases c8 : r7 = true
       · replace T := T.1 c8
         obtain ⟨p9, rfl, rfl, rfl, rfl, rfl⟩ := T
         exact fi (aa c8 <| aa p9.wrap <| F)
       · replace T := T.2 c8
         replace c8 := Bool.eq_false_iff.2 c8
         obtain ⟨o8, y9, q10, T⟩ := T
         simp only [R_Q42, le, List.cons_append, List.nil_append] at q10
         replace F := aa c8 <| aa q10 <| F
         cases o8 with
         | none => exact False.elim T
         | some e10 =>
           dsimp only at T
           obtain ⟨rfl, rfl, rfl, rfl⟩ := T
           exact fi F
   · replace T := T.2 c3
     obtain ⟨o11, y12, q11, T⟩ := T
     simp only [R_Q42, le, List.cons_append, List.nil_append] at q11
     replace F := aa (eq_false c3) <| aa q11 <| F
     cases o11 with
     | none => exact False.elim T
     | some e13 =>
       dsimp only at T
       obtain ⟨rfl, rfl, rfl, rfl⟩ := T
       exact fi F
 · replace T := T.2 c2
   obtain ⟨o14, y15, q12, T⟩ := T
   simp only [R_Q42, le, List.cons_append, List.nil_append] at q12
   replace F := aa (eq_false c2) <| aa q12 <| F
   cases o14 with
   | none => exact False.elim T
   | some e16 =>
     dsimp only at T
     obtain ⟨rfl, rfl, rfl, rfl⟩ := T
     exact fi F
theorem sp_Q100 : SP 100 = some (.code sc_Q100) := SPof_code rfl Tryz.func100 comp_Q100
theorem Q100_tree (a : Attr) (c0_ : List UInt8) (r : Bool) (T :
  (decide (a.Name = c0_)) = r) : R_Q100 a c0_ r := by
 intro S n1 t1 H0
 have hb0 := H0
 obtain ⟨w0, hB0⟩ := take_some hb0
 have hn0 := o_getBox_lt hB0
 rw [call_code sp_Q100 _ _ rfl]
 have F := U_Q100
 obtain rfl := T
 exact fi (aa hB0 <| aa hn0 <| F)
theorem sp_Q65 : SP 65 = some (.code sc_Q65) := SPof_code rfl Tryz.func65 comp_Q65
theorem H_slices_ContainsFunc_api_Attr_api_Attr_parse_blocks_body_1 {xs : List Attr} {c0 : List UInt8} {p : Attr → Bool} (hl : xs.length < 9223372036854775808) (hp : ∀ x, x ∈ xs → R_Q100 x c0 (p x)) : ∀ (S : Sto) (n0 : Nat) (t0 : Nat), (getBox S n0 t0).map (List.take 1) = some [.str c0] → call SP 99 [.list 2 (xs.map eAttr) false, .func 100 [.ptr n0 t0 0]] S = .ok (.v (.bool (xs.any p))) S := by
 intro S n0 t0 h0
 refine G_slices_ContainsFunc_api_Attr_api_Attr xs 100 [.ptr n0 t0 0] p S hl (by intro S; rfl) (by rfl) (by intro a; rfl) (by intro S; rfl) (by rfl) (by intro a; rfl) ?_
 intro x hx f f'
 have := hp x hx (f :: f' :: S) (n0 + 1 + 1) t0 (by simpa only [lw] using h0)
 simpa only [PV.upL, PV.up] using this
def At_Q100 (l4 : List Attr) (b5 : PBlocks) (g6 : Nat) (z7 : Bool) (o : Option Int) (r : List Attr) (b' : PBlocks) (b'_g2 : Nat) (b'_z2 : Bool) : Prop := (∀ (S : Sto) (e : Nat → PV) (f : Fr) (n0 t0 : Nat), ((getBox S n0 t0).map (List.take 4) = some [.list 5 (b5.exprs.tokens.l.map eToken) false, .int .i64 b5.exprs.tokens.pos, .sl 0 (.cell t0 2) 0 b5.exprs.out.length b5.exprs.out.length g6 false, .int .i64 b5.exprs.deep] ∧ getArr S n0 (.cell t0 2) = some ⟨5, b5.exprs.out.map eNode, z7, g6⟩) → e 0 = .ptr (n0 + 1) t0 0 ∧ e 3 = .sl 0 (.slot 3) 0 l4.length l4.length 0 false ∧ f.arr (.slot 3) = some ⟨2, l4.map eAttr, false, 0⟩ → k_Q100 SP (E SP (.loop b_Q100) ⟨e, f :: S⟩) = po 116 o (.v (.list 2 (r.map eAttr) false)) (setArr (setBox S n0 t0 ([.list 5 (b'.exprs.tokens.l.map eToken) false, .int .i64 b'.exprs.tokens.pos, .sl 0 (.cell t0 2) 0 b'.exprs.out.length b'.exprs.out.length b'_g2 false, .int .i64 b'.exprs.deep] ++ ((getBox S n0 t0).getD []).drop 4)) n0 (.cell t0 2) ⟨5, b'.exprs.out.map eNode, b'_z2, b'_g2⟩)) ∨ (∀ (S : Sto) (e : Nat → PV) (f : Fr) (n0 t0 : Nat), ((getBox S n0 t0).map (List.take 4) = some [.list 5 (b5.exprs.tokens.l.map eToken) false, .int .i64 b5.exprs.tokens.pos, .sl 0 (.cell t0 2) 0 b5.exprs.out.length b5.exprs.out.length g6 false, .int .i64 b5.exprs.deep] ∧ getArr S n0 (.cell t0 2) = some ⟨5, b5.exprs.out.map eNode, z7, g6⟩) → e 0 = .ptr (n0 + 1) t0 0 ∧ e 3 = .sl 0 (.slot 3) 0 l4.length l4.length 0 false ∧ f.arr (.slot 3) = some ⟨2, l4.map eAttr, false, 0⟩ → k_Q100 SP (E SP (.loop b_Q100) ⟨e, f :: S⟩) = po 116 o (.arr 2 (r.map eAttr) false) (setArr (setBox S n0 t0 ([.list 5 (b'.exprs.tokens.l.map eToken) false, .int .i64 b'.exprs.tokens.pos, .sl 0 (.cell t0 2) 0 b'.exprs.out.length b'.exprs.out.length b'_g2 false, .int .i64 b'.exprs.deep] ++ ((getBox S n0 t0).getD []).drop 4)) n0 (.cell t0 2) ⟨5, b'.exprs.out.map eNode, b'_z2, b'_g2⟩))
def At_Q65_1b (l31 : List Attr) (b32 : PBlocks) (g33 : Nat) (z34 : Bool) (o : Option Int) (r : List Attr) (b' : PBlocks) (b'_g2 : Nat) (b'_z2 : Bool) : Prop := (∀ (S : Sto) (e : Nat → PV) (f : Fr) (n0 t0 : Nat), ((getBox S n0 t0).map (List.take 4) = some [.list 5 (b32.exprs.tokens.l.map eToken) false, .int .i64 b32.exprs.tokens.pos, .sl 0 (.cell t0 2) 0 b32.exprs.out.length b32.exprs.out.length g33 false, .int .i64 b32.exprs.deep] ∧ getArr S n0 (.cell t0 2) = some ⟨5, b32.exprs.out.map eNode, z34, g33⟩) → e 0 = .ptr (n0 + 1) t0 0 ∧ e 3 = .sl 0 (.slot 3) 0 l31.length l31.length 0 false ∧ f.arr (.slot 3) = some ⟨2, l31.map eAttr, true, 0⟩ → k_Q100 SP (E SP (.loop b_Q100) ⟨e, f :: S⟩) = po 116 o (.v (.list 2 (r.map eAttr) false)) (setArr (setBox S n0 t0 ([.list 5 (b'.exprs.tokens.l.map eToken) false, .int .i64 b'.exprs.tokens.pos, .sl 0 (.cell t0 2) 0 b'.exprs.out.length b'.exprs.out.length b'_g2 false, .int .i64 b'.exprs.deep] ++ ((getBox S n0 t0).getD []).drop 4)) n0 (.cell t0 2) ⟨5, b'.exprs.out.map eNode, b'_z2, b'_g2⟩)) ∨ (∀ (S : Sto) (e : Nat → PV) (f : Fr) (n0 t0 : Nat), ((getBox S n0 t0).map (List.take 4) = some [.list 5 (b32.exprs.tokens.l.map eToken) false, .int .i64 b32.exprs.tokens.pos, .sl 0 (.cell t0 2) 0 b32.exprs.out.length b32.exprs.out.length g33 false, .int .i64 b32.exprs.deep] ∧ getArr S n0 (.cell t0 2) = some ⟨5, b32.exprs.out.map eNode, z34, g33⟩) → e 0 = .ptr (n0 + 1) t0 0 ∧ e 3 = .sl 0 (.slot 3) 0 l31.length l31.length 0 false ∧ f.arr (.slot 3) = some ⟨2, l31.map eAttr, true, 0⟩ → k_Q100 SP (E SP (.loop b_Q100) ⟨e, f :: S⟩) = po 116 o (.arr 2 (r.map eAttr) false) (setArr (setBox S n0 t0 ([.list 5 (b'.exprs.tokens.l.map eToken) false, .int .i64 b'.exprs.tokens.pos, .sl 0 (.cell t0 2) 0 b'.exprs.out.length b'.exprs.out.length b'_g2 false, .int .i64 b'.exprs.deep] ++ ((getBox S n0 t0).getD []).drop 4)) n0 (.cell t0 2) ⟨5, b'.exprs.out.map eNode, b'_z2, b'_g2⟩))
theorem At_Q100_step (l4 : List Attr) (b5 : PBlocks) (g6 : Nat) (z7 : Bool) (o : Option Int) (r : List Attr) (b' : PBlocks) (b'_g2 : Nat) (b'_z2 : Bool) (T :
  ∃ (r8 : Bool) (y9 : PTokens), (R_Q67 b5.exprs.tokens [125] r8 y9) ∧
 ((r8 = true) →
  none = o ∧ l4 = r ∧ (PBlocks.mk (PExprs.mk y9 b5.exprs.out b5.exprs.deep)) = b' ∧ g6 = b'_g2 ∧ z7 = b'_z2) ∧
 (¬ (r8 = true) →
  ∃ (r10 : Token) (y11 : PTokens), (R_Q38 y9 r10 y11) ∧
  ∃ (r12 : Token) (y13 : PTokens), (R_Q38 y11 r12 y13) ∧
  ((r12.Kind = 3) →
   (l4.length < 9223372036854775808) ∧
   ∃ (pp14 : Attr → Bool), (∀ x, x ∈ l4 → R_Q100 x r10.Text (pp14 x)) ∧
   (((l4.any pp14) = true) →
    ∃ (o15 : Option Int) (y16 : PTokens), (R_Q42 y13 3 o15 y16) ∧
    (match o15 with
    | none => (False )
    | some e17 => (some e17 = o ∧ (PBlocks.mk (PExprs.mk y16 b5.exprs.out b5.exprs.deep)) = b' ∧ g6 = b'_g2 ∧ z7 = b'_z2))) ∧
   (¬ ((l4.any pp14) = true) →
    ∃ (o19 : Option Int) (r18 : List UInt8) (y20 : PTokens), (R_Q101 y13 o19 r18 y20) ∧
    (match o19 with
    | none => (∃ (o22 : Option Int) (y23 : PTokens), (R_Q66 y20 [61] o22 y23) ∧
     (match o22 with
     | none => (∃ (o26 : Option Int) (r25 : List Node) (y27 : PExprs) (g28 : Nat) (z29 : Bool), (R_Q41 (PExprs.mk y23 b5.exprs.out b5.exprs.deep) g6 z7 o26 r25 y27 g28 z29) ∧
      (match o26 with
      | none => ((bigRow (l4.length + 1) 40) ∧
       At_Q65_1b (l4 ++ [(Attr.mk r18 r25)]) (PBlocks.mk y27) g28 z29 o r b' b'_g2 b'_z2)
      | some e30 => (some e30 = o ∧ (PBlocks.mk y27) = b' ∧ g28 = b'_g2 ∧ z29 = b'_z2)))
     | some e24 => (some e24 = o ∧ (PBlocks.mk (PExprs.mk y23 b5.exprs.out b5.exprs.deep)) = b' ∧ g6 = b'_g2 ∧ z7 = b'_z2)))
    | some e21 => (some e21 = o ∧ (PBlocks.mk (PExprs.mk y20 b5.exprs.out b5.exprs.deep)) = b' ∧ g6 = b'_g2 ∧ z7 = b'_z2)))) ∧
  (¬ (r12.Kind = 3) →
   ∃ (o36 : Option Int) (r35 : List UInt8) (y37 : PTokens), (R_Q101 y13 o36 r35 y37) ∧
   (match o36 with
   | none => (∃ (o39 : Option Int) (y40 : PTokens), (R_Q66 y37 [61] o39 y40) ∧
    (match o39 with
    | none => (∃ (o43 : Option Int) (r42 : List Node) (y44 : PExprs) (g45 : Nat) (z46 : Bool), (R_Q41 (PExprs.mk y40 b5.exprs.out b5.exprs.deep) g6 z7 o43 r42 y44 g45 z46) ∧
     (match o43 with
     | none => ((bigRow (l4.length + 1) 40) ∧
      At_Q100 (l4 ++ [(Attr.mk r35 r42)]) (PBlocks.mk y44) g45 z46 o r b' b'_g2 b'_z2)
     | some e47 => (some e47 = o ∧ (PBlocks.mk y44) = b' ∧ g45 = b'_g2 ∧ z46 = b'_z2)))
    | some e41 => (some e41 = o ∧ (PBlocks.mk (PExprs.mk y40 b5.exprs.out b5.exprs.deep)) = b' ∧ g6 = b'_g2 ∧ z7 = b'_z2)))
   | some e38 => (some e38 = o ∧ (PBlocks.mk (PExprs.mk y37 b5.exprs.out b5.exprs.deep)) = b' ∧ g6 = b'_g2 ∧ z7 = b'_z2))))) : At_Q100 l4 b5 g6 z7 o r b' b'_g2 b'_z2 := by
 have F := U_Q65
 obtain ⟨r8, y9, q1, T⟩ := T
 simp only [R_Q67, le, List.cons_append, List.nil_append] at q1
 replace F := aa q1 <| F
 by_cases c2 : r8 = true
 · replace T := T.1 c2
   obtain ⟨rfl, rfl, rfl, rfl, rfl⟩ := T
   right
   intro S e f n0 t0 H0 h
   obtain ⟨hb0, ha0⟩ := H0
   obtain ⟨w0, hB0⟩ := take_some hb0
   have hn0 := o_getBox_lt hB0
   replace F := aa ha0 <| aa hB0 <| aa hn0 <| aa h <| F
   unfold k_Q100
   rw [E_loop]
   exact fi (aa c2 <| F)
 · replace T := T.2 c2
   replace c2 := Bool.eq_false_iff.2 c2
   obtain ⟨r10, y11, q3, r12, y13, q4, T⟩ := T
   simp only [R_Q38, le, List.cons_append, List.nil_append] at q3
   simp only [R_Q38, le, List.cons_append, List.nil_append] at q4
   replace F := aa c2 <| aa q3 <| aa q4 <| F
   by_cases c5 : r12.Kind = 3
   · replace T := T.1 c5
     obtain ⟨p6, pp14, q7, T⟩ := T
     have o7 := H_slices_ContainsFunc_api_Attr_api_Attr_parse_blocks_body_1  p6 q7
     try simp only [le] at o7
     replace F := aa (eq_true c5) <| aa p6 <| aa o7 <| F
     by_cases c8 : (l4.any pp14) = true
     · replace T := T.1 c8
       obtain ⟨o15, y16, q9, T⟩ := T
       simp only [R_Q42, le, List.cons_append, List.nil_append] at q9
       replace F := aa c8 <| aa q9 <| F
       cases o15 with
       | none => exact False.elim T
       | some e17 =>
         dsimp only at T
         obtain ⟨rfl, rfl, rfl, rfl⟩ := T
         right
         intro S e f n0 t0 H0 h
         obtain ⟨hb0, ha0⟩ := H0
         obtain ⟨w0, hB0⟩ := take_some hb0
         have hn0 := o_getBox_lt hB0
         replace F := aa ha0 <| aa hB0 <| aa hn0 <| aa h <| F
         unfold k_Q100
         rw [E_loop]
         exact fi F
     · replace T := T.2 c8
       replace c8 := Bool.eq_false_iff.2 c8
       obtain ⟨o19, r18, y20, q10, T⟩ := T
       simp only [R_Q101, le, List.cons_append, List.nil_append] at q10
       replace F := aa c8 <| aa q10 <| F
       cases o19 with
       | none =>
         dsimp only at T
         obtain ⟨o22, y23, q11, T⟩ := T
         simp only [R_Q66, le, List.cons_append, List.nil_append] at q11
         replace F := aa q11 <| F
         cases o22 with
         | none =>
           dsimp only at T
           obtain ⟨o26, r25, y27, g28, z29, q12, T⟩ := T
           simp only [R_Q41, le, List.cons_append, List.nil_append] at q12
           replace F := aa q12 <| F
           cases o26 with
           | none =>
             dsimp only at T
             obtain ⟨p13, T⟩ := T
             simp only [bigRow] at p13
             replace F := aa p13 <| F
             rcases T with T | T
             · left
               intro S e f n0 t0 H0 h
               obtain ⟨hb0, ha0⟩ := H0
               obtain ⟨w0, hB0⟩ := take_some hb0
               have hn0 := o_getBox_lt hB0
               replace F := aa ha0 <| aa hB0 <| aa hn0 <| aa h <| F
               unfold k_Q100
               rw [E_loop]
               try simp only [F, lw, lx, le, Nat.reduceMul, UInt8.reduceToNat, reduceIte, reduceCtorEq, Nat.reduceEqDiff, Nat.reduceAdd, Nat.reduceLeDiff, Nat.reduceSub, Nat.reduceLT, Int.reduceEq, Int.reduceLT, Int.reduceLE, Int.reduceToNat, Int.reduceAdd, Int.reduceSub, Int.reduceMul, Int.reduceNeg]
               refine (T _ _ _ n0 t0 ?_ ?_).trans ?_
               all_goals exact fi F
             · right
               intro S e f n0 t0 H0 h
               obtain ⟨hb0, ha0⟩ := H0
               obtain ⟨w0, hB0⟩ := take_some hb0
               have hn0 := o_getBox_lt hB0
               replace F := aa ha0 <| aa hB0 <| aa hn0 <| aa h <| F
               unfold k_Q100
               rw [E_loop]
               try simp only [F, lw, lx, le, Nat.reduceMul, UInt8.reduceToNat, reduceIte, reduceCtorEq, Nat.reduceEqDiff, Nat.reduceAdd, Nat.reduceLeDiff, Nat.reduceSub, Nat.reduceLT, Int.reduceEq, Int.reduceLT, Int.reduceLE, Int.reduceToNat, Int.reduceAdd, Int.reduceSub, Int.reduceMul, Int.reduceNeg]
               refine (T _ _ _ n0 t0 ?_ ?_).trans ?_
               all_goals exact fi F
           | some e30 =>
             dsimp only at T
             obtain ⟨rfl, rfl, rfl, rfl⟩ := T
             right
             intro S e f n0 t0 H0 h
             obtain ⟨hb0, ha0⟩ := H0
             obtain ⟨w0, hB0⟩ := take_some hb0
             have hn0 := o_getBox_lt hB0
             replace F := aa ha0 <| aa hB0 <| aa hn0 <| aa h <| F
             unfold k_Q100
             rw [E_loop]
             exact fi F
         | some e24 =>
           dsimp only at T
           obtain ⟨rfl, rfl, rfl, rfl⟩ := T
           right
           intro S e f n0 t0 H0 h
           obtain ⟨hb0, ha0⟩ := H0
           obtain ⟨w0, hB0⟩ := take_some hb0
           have hn0 := o_getBox_lt hB0
           replace F := aa ha0 <| aa hB0 <| aa hn0 <| aa h <| F
           unfold k_Q100
           rw [E_loop]
           exact fi F
       | some e21 =>
         dsimp only at T
         obtain ⟨rfl, rfl, rfl, rfl⟩ := T
         right
         intro S e f n0 t0 H0 h
         obtain ⟨hb0, ha0⟩ := H0
         obtain ⟨w0, hB0⟩ := take_some hb0
         have hn0 := o_getBox_lt hB0
         replace F := aa ha0 <| aa hB0 <| aa hn0 <| aa h <| F
         unfold k_Q100
         rw [E_loop]
         exact fi F
   · replace T := T.2 c5
     obtain ⟨o36, r35, y37, q14, T⟩ := T
     simp only [R_Q101, le, List.cons_append, List.nil_append] at q14
     replace F := aa (eq_false c5) <| aa q14 <| F
     cases o36 with
     | none =>
       dsimp only at T
       obtain ⟨o39, y40, q15, T⟩ := T
       simp only [R_Q66, le, List.cons_append, List.nil_append] at q15
       replace F := aa q15 <| F
       cases o39 with
       | none =>
         dsimp only at T
         obtain ⟨o43, r42, y44, g45, z46, q16, T⟩ := T
         simp only [R_Q41, le, List.cons_append, List.nil_append] at q16
         replace F := aa q16 <| F
         cases o43 with
         | none =>
           dsimp only at T
           obtain ⟨p17, T⟩ := T
           simp only [bigRow] at p17
           replace F := aa p17 <| F
           rcases T with T | T
           · left
             intro S e f n0 t0 H0 h
             obtain ⟨hb0, ha0⟩ := H0
             obtain ⟨w0, hB0⟩ := take_some hb0
             have hn0 := o_getBox_lt hB0
             replace F := aa ha0 <| aa hB0 <| aa hn0 <| aa h <| F
             unfold k_Q100
             rw [E_loop]
             try simp only [F, lw, lx, le, Nat.reduceMul, UInt8.reduceToNat, reduceIte, reduceCtorEq, Nat.reduceEqDiff, Nat.reduceAdd, Nat.reduceLeDiff, Nat.reduceSub, Nat.reduceLT, Int.reduceEq, Int.reduceLT, Int.reduceLE, Int.reduceToNat, Int.reduceAdd, Int.reduceSub, Int.reduceMul, Int.reduceNeg]
             refine (T _ _ _ n0 t0 ?_ ?_).trans ?_
             all_goals exact fi F
           · right
             intro S e f n0 t0 H0 h
             obtain ⟨hb0, ha0⟩ := H0
             obtain ⟨w0, hB0⟩ := take_some hb0
             have hn0 := o_getBox_lt hB0
             replace F := aa ha0 <| aa hB0 <| aa hn0 <| aa h <| F
             unfold k_Q100
             rw [E_loop]
             try simp only [F, lw, lx, le, Nat.reduceMul, UInt8.reduceToNat, reduceIte, reduceCtorEq, Nat.reduceEqDiff, Nat.reduceAdd, Nat.reduceLeDiff, Nat.reduceSub, Nat.reduceLT, Int.reduceEq, Int.reduceLT, Int.reduceLE, Int.reduceToNat, Int.reduceAdd, Int.reduceSub, Int.reduceMul, Int.reduceNeg]
             refine (T _ _ _ n0 t0 ?_ ?_).trans ?_
             all_goals exact fi F
         | some e47 =>
           dsimp only at T
           obtain ⟨rfl, rfl, rfl, rfl⟩ := T
           right
           intro S e f n0 t0 H0 h
           obtain ⟨hb0, ha0⟩ := H0
           obtain ⟨w0, hB0⟩ := take_some hb0
           have hn0 := o_getBox_lt hB0
           replace F := aa ha0 <| aa hB0 <| aa hn0 <| aa h <| F
           unfold k_Q100
           rw [E_loop]
           exact fi F
       | some e41 =>
         dsimp only at T
         obtain ⟨rfl, rfl, rfl, rfl⟩ := T
         right
         intro S e f n0 t0 H0 h
         obtain ⟨hb0, ha0⟩ := H0
         obtain ⟨w0, hB0⟩ := take_some hb0
         have hn0 := o_getBox_lt hB0
         replace F := aa ha0 <| aa hB0 <| aa hn0 <| aa h <| F
         unfold k_Q100
         rw [E_loop]
         exact fi F
     | some e38 =>
       dsimp only at T
       obtain ⟨rfl, rfl, rfl, rfl⟩ := T
       right
       intro S e f n0 t0 H0 h
       obtain ⟨hb0, ha0⟩ := H0
       obtain ⟨w0, hB0⟩ := take_some hb0
       have hn0 := o_getBox_lt hB0
       replace F := aa ha0 <| aa hB0 <| aa hn0 <| aa h <| F
       unfold k_Q100
       rw [E_loop]
       exact fi F
theorem At_Q65_1b_step (l31 : List Attr) (b32 : PBlocks) (g33 : Nat) (z34 : Bool) (o : Option Int) (r : List Attr) (b' : PBlocks) (b'_g2 : Nat) (b'_z2 : Bool) (T :
  ∃ (r48 : Bool) (y49 : PTokens), (R_Q67 b32.exprs.tokens [125] r48 y49) ∧
 ((r48 = true) →
  none = o ∧ l31 = r ∧ (PBlocks.mk (PExprs.mk y49 b32.exprs.out b32.exprs.deep)) = b' ∧ g33 = b'_g2 ∧ z34 = b'_z2) ∧
 (¬ (r48 = true) →
  ∃ (r50 : Token) (y51 : PTokens), (R_Q38 y49 r50 y51) ∧
  ∃ (r52 : Token) (y53 : PTokens), (R_Q38 y51 r52 y53) ∧
  ((r52.Kind = 3) →
   (l31.length < 9223372036854775808) ∧
   ∃ (pp54 : Attr → Bool), (∀ x, x ∈ l31 → R_Q100 x r50.Text (pp54 x)) ∧
   (((l31.any pp54) = true) →
    ∃ (o55 : Option Int) (y56 : PTokens), (R_Q42 y53 3 o55 y56) ∧
    (match o55 with
    | none => (False )
    | some e57 => (some e57 = o ∧ (PBlocks.mk (PExprs.mk y56 b32.exprs.out b32.exprs.deep)) = b' ∧ g33 = b'_g2 ∧ z34 = b'_z2))) ∧
   (¬ ((l31.any pp54) = true) →
    ∃ (o59 : Option Int) (r58 : List UInt8) (y60 : PTokens), (R_Q101 y53 o59 r58 y60) ∧
    (match o59 with
    | none => (∃ (o62 : Option Int) (y63 : PTokens), (R_Q66 y60 [61] o62 y63) ∧
     (match o62 with
     | none => (∃ (o66 : Option Int) (r65 : List Node) (y67 : PExprs) (g68 : Nat) (z69 : Bool), (R_Q41 (PExprs.mk y63 b32.exprs.out b32.exprs.deep) g33 z34 o66 r65 y67 g68 z69) ∧
      (match o66 with
      | none => ((bigRow (l31.length + 1) 40) ∧
       At_Q65_1b (l31 ++ [(Attr.mk r58 r65)]) (PBlocks.mk y67) g68 z69 o r b' b'_g2 b'_z2)
      | some e70 => (some e70 = o ∧ (PBlocks.mk y67) = b' ∧ g68 = b'_g2 ∧ z69 = b'_z2)))
     | some e64 => (some e64 = o ∧ (PBlocks.mk (PExprs.mk y63 b32.exprs.out b32.exprs.deep)) = b' ∧ g33 = b'_g2 ∧ z34 = b'_z2)))
    | some e61 => (some e61 = o ∧ (PBlocks.mk (PExprs.mk y60 b32.exprs.out b32.exprs.deep)) = b' ∧ g33 = b'_g2 ∧ z34 = b'_z2)))) ∧
  (¬ (r52.Kind = 3) →
   ∃ (o72 : Option Int) (r71 : List UInt8) (y73 : PTokens), (R_Q101 y53 o72 r71 y73) ∧
   (match o72 with
   | none => (∃ (o75 : Option Int) (y76 : PTokens), (R_Q66 y73 [61] o75 y76) ∧
    (match o75 with
    | none => (∃ (o79 : Option Int) (r78 : List Node) (y80 : PExprs) (g81 : Nat) (z82 : Bool), (R_Q41 (PExprs.mk y76 b32.exprs.out b32.exprs.deep) g33 z34 o79 r78 y80 g81 z82) ∧
     (match o79 with
     | none => ((bigRow (l31.length + 1) 40) ∧
      At_Q65_1b (l31 ++ [(Attr.mk r71 r78)]) (PBlocks.mk y80) g81 z82 o r b' b'_g2 b'_z2)
     | some e83 => (some e83 = o ∧ (PBlocks.mk y80) = b' ∧ g81 = b'_g2 ∧ z82 = b'_z2)))
    | some e77 => (some e77 = o ∧ (PBlocks.mk (PExprs.mk y76 b32.exprs.out b32.exprs.deep)) = b' ∧ g33 = b'_g2 ∧ z34 = b'_z2)))
   | some e74 => (some e74 = o ∧ (PBlocks.mk (PExprs.mk y73 b32.exprs.out b32.exprs.deep)) = b' ∧ g33 = b'_g2 ∧ z34 = b'_z2))))) : At_Q65_1b l31 b32 g33 z34 o r b' b'_g2 b'_z2 := by
 have F := U_Q65
 obtain ⟨r48, y49, q1, T⟩ := T
 simp only [R_Q67, le, List.cons_append, List.nil_append] at q1
 replace F := aa q1 <| F
 by_cases c2 : r48 = true
 · replace T := T.1 c2
   obtain ⟨rfl, rfl, rfl, rfl, rfl⟩ := T
   left
   intro S e f n0 t0 H0 h
   obtain ⟨hb0, ha0⟩ := H0
   obtain ⟨w0, hB0⟩ := take_some hb0
   have hn0 := o_getBox_lt hB0
   replace F := aa ha0 <| aa hB0 <| aa hn0 <| aa h <| F
   unfold k_Q100
   rw [E_loop]
   exact fi (aa c2 <| F)
 · replace T := T.2 c2
   replace c2 := Bool.eq_false_iff.2 c2
   obtain ⟨r50, y51, q3, r52, y53, q4, T⟩ := T
   simp only [R_Q38, le, List.cons_append, List.nil_append] at q3
   simp only [R_Q38, le, List.cons_append, List.nil_append] at q4
   replace F := aa c2 <| aa q3 <| aa q4 <| F
   by_cases c5 : r52.Kind = 3
   · replace T := T.1 c5
     obtain ⟨p6, pp54, q7, T⟩ := T
     have o7 := H_slices_ContainsFunc_api_Attr_api_Attr_parse_blocks_body_1  p6 q7
     try simp only [le] at o7
     replace F := aa (eq_true c5) <| aa p6 <| aa o7 <| F
     by_cases c8 : (l31.any pp54) = true
     · replace T := T.1 c8
       obtain ⟨o55, y56, q9, T⟩ := T
       simp only [R_Q42, le, List.cons_append, List.nil_append] at q9
       replace F := aa c8 <| aa q9 <| F
       cases o55 with
       | none => exact False.elim T
       | some e57 =>
         dsimp only at T
         obtain ⟨rfl, rfl, rfl, rfl⟩ := T
         right
         intro S e f n0 t0 H0 h
         obtain ⟨hb0, ha0⟩ := H0
         obtain ⟨w0, hB0⟩ := take_some hb0
         have hn0 := o_getBox_lt hB0
         replace F := aa ha0 <| aa hB0 <| aa hn0 <| aa h <| F
         unfold k_Q100
         rw [E_loop]
         exact fi F
     · replace T := T.2 c8
       replace c8 := Bool.eq_false_iff.2 c8
       obtain ⟨o59, r58, y60, q10, T⟩ := T
       simp only [R_Q101, le, List.cons_append, List.nil_append] at q10
       replace F := aa c8 <| aa q10 <| F
       cases o59 with
       | none =>
         dsimp only at T
         obtain ⟨o62, y63, q11, T⟩ := T
         simp only [R_Q66, le, List.cons_append, List.nil_append] at q11
         replace F := aa q11 <| F
         cases o62 with
         | none =>
           dsimp only at T
           obtain ⟨o66, r65, y67, g68, z69, q12, T⟩ := T
           simp only [R_Q41, le, List.cons_append, List.nil_append] at q12
           replace F := aa q12 <| F
           cases o66 with
           | none =>
             dsimp only at T
             obtain ⟨p13, T⟩ := T
             simp only [bigRow] at p13
             replace F := aa p13 <| F
             rcases T with T | T
             · left
               intro S e f n0 t0 H0 h
               obtain ⟨hb0, ha0⟩ := H0
               obtain ⟨w0, hB0⟩ := take_some hb0
               have hn0 := o_getBox_lt hB0
               replace F := aa ha0 <| aa hB0 <| aa hn0 <| aa h <| F
               unfold k_Q100
               rw [E_loop]
               try simp only [F, lw, lx, le, Nat.reduceMul, UInt8.reduceToNat, reduceIte, reduceCtorEq, Nat.reduceEqDiff, Nat.reduceAdd, Nat.reduceLeDiff, Nat.reduceSub, Nat.reduceLT, Int.reduceEq, Int.reduceLT, Int.reduceLE, Int.reduceToNat, Int.reduceAdd, Int.reduceSub, Int.reduceMul, Int.reduceNeg]
               refine (T _ _ _ n0 t0 ?_ ?_).trans ?_
               all_goals exact fi F
             · right
               intro S e f n0 t0 H0 h
               obtain ⟨hb0, ha0⟩ := H0
               obtain ⟨w0, hB0⟩ := take_some hb0
               have hn0 := o_getBox_lt hB0
               replace F := aa ha0 <| aa hB0 <| aa hn0 <| aa h <| F
               unfold k_Q100
               rw [E_loop]
               try simp only [F, lw, lx, le, Nat.reduceMul, UInt8.reduceToNat, reduceIte, reduceCtorEq, Nat.reduceEqDiff, Nat.reduceAdd, Nat.reduceLeDiff, Nat.reduceSub, Nat.reduceLT, Int.reduceEq, Int.reduceLT, Int.reduceLE, Int.reduceToNat, Int.reduceAdd, Int.reduceSub, Int.reduceMul, Int.reduceNeg]
               refine (T _ _ _ n0 t0 ?_ ?_).trans ?_
               all_goals exact fi F
           | some e70 =>
             dsimp only at T
             obtain ⟨rfl, rfl, rfl, rfl⟩ := T
             right
             intro S e f n0 t0 H0 h
             obtain ⟨hb0, ha0⟩ := H0
             obtain ⟨w0, hB0⟩ := take_some hb0
             have hn0 := o_getBox_lt hB0
             replace F := aa ha0 <| aa hB0 <| aa hn0 <| aa h <| F
             unfold k_Q100
             rw [E_loop]
             exact fi F
         | some e64 =>
           dsimp only at T
           obtain ⟨rfl, rfl, rfl, rfl⟩ := T
           right
           intro S e f n0 t0 H0 h
           obtain ⟨hb0, ha0⟩ := H0
           obtain ⟨w0, hB0⟩ := take_some hb0
           have hn0 := o_getBox_lt hB0
           replace F := aa ha0 <| aa hB0 <| aa hn0 <| aa h <| F
           unfold k_Q100
           rw [E_loop]
           exact fi F
       | some e61 =>
         dsimp only at T
         obtain ⟨rfl, rfl, rfl, rfl⟩ := T
         right
         intro S e f n0 t0 H0 h
         obtain ⟨hb0, ha0⟩ := H0
         obtain ⟨w0, hB0⟩ := take_some hb0
         have hn0 := o_getBox_lt hB0
         replace F := aa ha0 <| aa hB0 <| aa hn0 <| aa h <| F
         unfold k_Q100
         rw [E_loop]
         exact fi F
   · replace T := T.2 c5
     obtain ⟨o72, r71, y73, q14, T⟩ := T
     simp only [R_Q101, le, List.cons_append, List.nil_append] at q14
     replace F := aa (eq_false c5) <| aa q14 <| F
     cases o72 with
     | none =>
       dsimp only at T
       obtain ⟨o75, y76, q15, T⟩ := T
       simp only [R_Q66, le, List.cons_append, List.nil_append] at q15
       replace F := aa q15 <| F
       cases o75 with
       | none =>
         dsimp only at T
         obtain ⟨o79, r78, y80, g81, z82, q16, T⟩ := T
         simp only [R_Q41, le, List.cons_append, List.nil_append] at q16
         replace F := aa q16 <| F
         cases o79 with
         | none =>
           dsimp only at T
           obtain ⟨p17, T⟩ := T
           simp only [bigRow] at p17
           replace F := aa p17 <| F
           rcases T with T | T
           · left
             intro S e f n0 t0 H0 h
             obtain ⟨hb0, ha0⟩ := H0
             obtain ⟨w0, hB0⟩ := take_some hb0
             have hn0 := o_getBox_lt hB0
             replace F := aa ha0 <| aa hB0 <| aa hn0 <| aa h <| F
             unfold k_Q100
             rw [E_loop]
             try simp only [F, lw, lx, le, Nat.reduceMul, UInt8.reduceToNat, reduceIte, reduceCtorEq, Nat.reduceEqDiff, Nat.reduceAdd, Nat.reduceLeDiff, Nat.reduceSub, Nat.reduceLT, Int.reduceEq, Int.reduceLT, Int.reduceLE, Int.reduceToNat, Int.reduceAdd, Int.reduceSub, Int.reduceMul, Int.reduceNeg]
             refine (T _ _ _ n0 t0 ?_ ?_).trans ?_
             all_goals exact fi F
           · right
             intro S e f n0 t0 H0 h
             obtain ⟨hb0, ha0⟩ := H0
             obtain ⟨w0, hB0⟩ := take_some hb0
             have hn0 := o_getBox_lt hB0
             replace F := aa ha0 <| aa hB0 <| aa hn0 <| aa h <| F
             unfold k_Q100
             rw [E_loop]
             try simp only [F, lw, lx, le, Nat.reduceMul, UInt8.reduceToNat, reduceIte, reduceCtorEq, Nat.reduceEqDiff, Nat.reduceAdd, Nat.reduceLeDiff, Nat.reduceSub, Nat.reduceLT, Int.reduceEq, Int.reduceLT, Int.reduceLE, Int.reduceToNat, Int.reduceAdd, Int.reduceSub, Int.reduceMul, Int.reduceNeg]
             refine (T _ _ _ n0 t0 ?_ ?_).trans ?_
             all_goals exact fi F
         | some e83 =>
           dsimp only at T
           obtain ⟨rfl, rfl, rfl, rfl⟩ := T
           right
           intro S e f n0 t0 H0 h
           obtain ⟨hb0, ha0⟩ := H0
           obtain ⟨w0, hB0⟩ := take_some hb0
           have hn0 := o_getBox_lt hB0
           replace F := aa ha0 <| aa hB0 <| aa hn0 <| aa h <| F
           unfold k_Q100
           rw [E_loop]
           exact fi F
       | some e77 =>
         dsimp only at T
         obtain ⟨rfl, rfl, rfl, rfl⟩ := T
         right
         intro S e f n0 t0 H0 h
         obtain ⟨hb0, ha0⟩ := H0
         obtain ⟨w0, hB0⟩ := take_some hb0
         have hn0 := o_getBox_lt hB0
         replace F := aa ha0 <| aa hB0 <| aa hn0 <| aa h <| F
         unfold k_Q100
         rw [E_loop]
         exact fi F
     | some e74 =>
       dsimp only at T
       obtain ⟨rfl, rfl, rfl, rfl⟩ := T
       right
       intro S e f n0 t0 H0 h
       obtain ⟨hb0, ha0⟩ := H0
       obtain ⟨w0, hB0⟩ := take_some hb0
       have hn0 := o_getBox_lt hB0
       replace F := aa ha0 <| aa hB0 <| aa hn0 <| aa h <| F
       unfold k_Q100
       rw [E_loop]
       exact fi F
theorem Q65_tree (b : PBlocks) (b_g2 : Nat) (b_z2 : Bool) (o : Option Int) (r : List Attr) (b' : PBlocks) (b'_g2 : Nat) (b'_z2 : Bool) (T :
  ∃ (o1 : Option Int) (y2 : PTokens), (R_Q66 b.exprs.tokens [123] o1 y2) ∧
 (match o1 with
 | none => (At_Q100 [] (PBlocks.mk (PExprs.mk y2 b.exprs.out b.exprs.deep)) b_g2 b_z2 o r b' b'_g2 b'_z2)
 | some e3 => (some e3 = o ∧ (PBlocks.mk (PExprs.mk y2 b.exprs.out b.exprs.deep)) = b' ∧ b_g2 = b'_g2 ∧ b_z2 = b'_z2))) : R_Q65 b b_g2 b_z2 o r b' b'_g2 b'_z2 := by
 have F := U_Q65
 obtain ⟨o1, y2, q1, T⟩ := T
 simp only [R_Q66, le, List.cons_append, List.nil_append] at q1
 replace F := aa q1 <| F
 cases o1 with
 | none =>
   dsimp only at T
   rcases T with T | T
   · left
     intro S n0 t0 H0
     obtain ⟨hb0, ha0⟩ := H0
     obtain ⟨w0, hB0⟩ := take_some hb0
     have hn0 := o_getBox_lt hB0
     replace F := aa ha0 <| aa hB0 <| aa hn0 <| F
     rw [call_code sp_Q65 _ _ rfl]
     try simp only [F, lw, lx, le, Nat.reduceMul, UInt8.reduceToNat, reduceIte, reduceCtorEq, Nat.reduceEqDiff, Nat.reduceAdd, Nat.reduceLeDiff, Nat.reduceSub, Nat.reduceLT, Int.reduceEq, Int.reduceLT, Int.reduceLE, Int.reduceToNat, Int.reduceAdd, Int.reduceSub, Int.reduceMul, Int.reduceNeg]
     refine (T _ _ _ n0 t0 ?_ ?_).trans ?_
     all_goals exact fi F
   · right
     intro S n0 t0 H0
     obtain ⟨hb0, ha0⟩ := H0
     obtain ⟨w0, hB0⟩ := take_some hb0
     have hn0 := o_getBox_lt hB0
     replace F := aa ha0 <| aa hB0 <| aa hn0 <| F
     rw [call_code sp_Q65 _ _ rfl]
     try simp only [F, lw, lx, le, Nat.reduceMul, UInt8.reduceToNat, reduceIte, reduceCtorEq, Nat.reduceEqDiff, Nat.reduceAdd, Nat.reduceLeDiff, Nat.reduceSub, Nat.reduceLT, Int.reduceEq, Int.reduceLT, Int.reduceLE, Int.reduceToNat, Int.reduceAdd, Int.reduceSub, Int.reduceMul, Int.reduceNeg]
     refine (T _ _ _ n0 t0 ?_ ?_).trans ?_
     all_goals exact fi F
 | some e3 =>
   dsimp only at T
   obtain ⟨rfl, rfl, rfl, rfl⟩ := T
   right
   intro S n0 t0 H0
   obtain ⟨hb0, ha0⟩ := H0
   obtain ⟨w0, hB0⟩ := take_some hb0
   have hn0 := o_getBox_lt hB0
   replace F := aa ha0 <| aa hB0 <| aa hn0 <| F
   rw [call_code sp_Q65 _ _ rfl]
   exact fi F
theorem sp_Q63 : SP 63 = some (.code sc_Q63) := SPof_code rfl Tryz.func63 comp_Q63
theorem Q63_tree  (r : List (List UInt8)) (T :
  [[118, 97, 114, 105, 97, 98, 108, 101], [108, 111, 99, 97, 108, 115], [110, 111, 100, 101], [109, 111, 100, 117, 108, 101], [100, 101, 102, 105, 110, 101]] = r) : R_Q63  r := by
 intro S
 rw [call_code sp_Q63 _ _ rfl]
 have F := U_Q63
 obtain rfl := T
 exact fi F
theorem sp_Q39 : SP 39 = some (.code sc_Q39) := SPof_code rfl Tryz.func39 comp_Q39
def At_Q39_1 (r4 : Int) (r11 : List UInt8) (l20 : List Attr) (g21 : Nat) (l22 : List Block) (g23 : Nat) (b24 : PBlocks) (g25 : Nat) (z26 : Bool) (o : Option Int) (r : Block) (b' : PBlocks) (b'_g2 : Nat) (b'_z2 : Bool) : Prop := ∀ (S : Sto) (e : Nat → PV) (f : Fr) (n0 t0 : Nat), ((getBox S n0 t0).map (List.take 4) = some [.list 5 (b24.exprs.tokens.l.map eToken) false, .int .i64 b24.exprs.tokens.pos, .sl 0 (.cell t0 2) 0 b24.exprs.out.length b24.exprs.out.length g25 false, .int .i64 b24.exprs.deep] ∧ getArr S n0 (.cell t0 2) = some ⟨5, b24.exprs.out.map eNode, z26, g25⟩) → e 0 = .ptr (n0 + 1) t0 0 ∧ e 4 = .ptr 0 4 0 ∧ e 7 = .ptr 0 7 0 ∧ f.box 4 = some [.int .i64 0, .str [], .sl 0 (.cell 4 2) 0 0 0 0 false, .sl 0 (.cell 4 3) 0 0 0 0 false] ∧ f.box 7 = some [.int .i64 (1 + r4), .str r11, .sl 0 (.cell 7 2) 0 l20.length l20.length g21 false, .sl 0 (.cell 7 3) 0 l22.length l22.length g23 false] ∧ f.arr (.cell 4 2) = some ⟨2, [], false, 0⟩ ∧ f.arr (.cell 4 3) = some ⟨4, [], false, 0⟩ ∧ f.arr (.cell 7 2) = some ⟨2, l20.map eAttr, false, g21⟩ ∧ f.arr (.cell 7 3) = some ⟨4, l22.map eBlock, false, g23⟩ → k_Q39_1 SP (E SP (.loop b_Q39_1) ⟨e, f :: S⟩) = po 116 o (.v (.agg [.int .i64 r.Kind, .str r.Label, .list 2 (r.Attrs.map eAttr) false, .list 4 (r.Blocks.map eBlock) false])) (setArr (setBox S n0 t0 ([.list 5 (b'.exprs.tokens.l.map eToken) false, .int .i64 b'.exprs.tokens.pos, .sl 0 (.cell t0 2) 0 b'.exprs.out.length b'.exprs.out.length b'_g2 false, .int .i64 b'.exprs.deep] ++ ((getBox S n0 t0).getD []).drop 4)) n0 (.cell t0 2) ⟨5, b'.exprs.out.map eNode, b'_z2, b'_g2⟩)
theorem At_Q39_1_step (r4 : Int) (r11 : List UInt8) (l20 : List Attr) (g21 : Nat) (l22 : List Block) (g23 : Nat) (b24 : PBlocks) (g25 : Nat) (z26 : Bool) (o : Option Int) (r : Block) (b' : PBlocks) (b'_g2 : Nat) (b'_z2 : Bool) (T :
  ∃ (r48 : Bool) (y49 : PTokens), (R_Q67 b24.exprs.tokens [125] r48 y49) ∧
 ((r48 = true) →
  none = o ∧ (Block.mk (1 + r4) r11 l20 l22) = r ∧ (PBlocks.mk (PExprs.mk y49 b24.exprs.out b24.exprs.deep)) = b' ∧ g25 = b'_g2 ∧ z26 = b'_z2) ∧
 (¬ (r48 = true) →
  ∃ (o51 : Option Int) (r50 : Block) (y52 : PBlocks) (g53 : Nat) (z54 : Bool), (R_Q39 (PBlocks.mk (PExprs.mk y49 b24.exprs.out b24.exprs.deep)) g25 z26 true o51 r50 y52 g53 z54) ∧
  (match o51 with
  | none => ((bigRow (l22.length + 1) 72) ∧
   At_Q39_1 r4 r11 l20 g21 (l22 ++ [r50]) g23 y52 g53 z54 o r b' b'_g2 b'_z2)
  | some e55 => (some e55 = o ∧ y52 = b' ∧ g53 = b'_g2 ∧ z54 = b'_z2)))) : At_Q39_1 r4 r11 l20 g21 l22 g23 b24 g25 z26 o r b' b'_g2 b'_z2 := by
 intro S e f n0 t0 H0 h
 obtain ⟨hb0, ha0⟩ := H0
 obtain ⟨w0, hB0⟩ := take_some hb0
 have hn0 := o_getBox_lt hB0
 unfold k_Q39_1
 rw [E_loop]
 have F := U_Q39
 obtain ⟨r48, y49, q1, T⟩ := T
 simp only [R_Q67, le, List.cons_append, List.nil_append] at q1
 replace F := aa ha0 <| aa hB0 <| aa hn0 <| aa h <| aa q1 <| F
 by_cases c2 : r48 = true
 · replace T := T.1 c2
   obtain ⟨rfl, rfl, rfl, rfl, rfl⟩ := T
   exact fi (aa c2 <| F)
 · replace T := T.2 c2
   replace c2 := Bool.eq_false_iff.2 c2
   obtain ⟨o51, r50, y52, g53, z54, q3, T⟩ := T
   simp only [R_Q39, le, List.cons_append, List.nil_append] at q3
   replace F := aa c2 <| aa q3 <| F
   cases o51 with
   | none =>
     dsimp only at T
     obtain ⟨p4, T⟩ := T
     simp only [bigRow] at p4
     replace F := aa p4 <| F
     try simp only [F, lw, lx, le, Nat.reduceMul, UInt8.reduceToNat, reduceIte, reduceCtorEq, Nat.reduceEqDiff, Nat.reduceAdd, Nat.reduceLeDiff, Nat.reduceSub, Nat.reduceLT, Int.reduceEq, Int.reduceLT, Int.reduceLE, Int.reduceToNat, Int.reduceAdd, Int.reduceSub, Int.reduceMul, Int.reduceNeg]
     refine (T _ _ _ n0 t0 ?_ ?_).trans ?_
     all_goals exact fi F
   | some e55 =>
     dsimp only at T
     obtain ⟨rfl, rfl, rfl, rfl⟩ := T
     exact fi F
theorem Q39_tree (b : PBlocks) (b_g2 : Nat) (b_z2 : Bool) (within : Bool) (o : Option Int) (r : Block) (b' : PBlocks) (b'_g2 : Nat) (b'_z2 : Bool) (T :
  ∃ (r1 : Token) (y2 : PTokens), (R_Q38 b.exprs.tokens r1 y2) ∧
 ∃ (r3 : List (List UInt8)), (R_Q63 r3) ∧
 ∃ (r4 : Int), (R_slices_Index_string_string r3 r1.Text r4) ∧
 (I64 (1 + r4)) ∧
 ((r1.Kind = 3) →
  (((1 + r4) = 0) →
   ∃ (o5 : Option Int) (y6 : PTokens), (R_Q42 y2 5 o5 y6) ∧
   (match o5 with
   | none => (False )
   | some e7 => (some e7 = o ∧ (PBlocks.mk (PExprs.mk y6 b.exprs.out b.exprs.deep)) = b' ∧ b_g2 = b'_g2 ∧ b_z2 = b'_z2))) ∧
  (¬ ((1 + r4) = 0) →
   (((1 + r4) = 5) →
    ((within = true) →
     ∃ (o8 : Option Int) (y9 : PTokens), (R_Q42 y2 5 o8 y9) ∧
     (match o8 with
     | none => (False )
     | some e10 => (some e10 = o ∧ (PBlocks.mk (PExprs.mk y9 b.exprs.out b.exprs.deep)) = b' ∧ b_g2 = b'_g2 ∧ b_z2 = b'_z2))) ∧
    (¬ (within = true) →
     (I64 (y2.pos + 1)) ∧
     ∃ (o12 : Option Int) (r11 : List UInt8) (y13 : PBlocks) (g14 : Nat) (z15 : Bool), (R_Q64 (PBlocks.mk (PExprs.mk (PTokens.mk y2.l (y2.pos + 1)) b.exprs.out b.exprs.deep)) b_g2 b_z2 o12 r11 y13 g14 z15) ∧
     (match o12 with
     | none => (∃ (o17 : Option Int) (y18 : PTokens), (R_Q66 y13.exprs.tokens [123] o17 y18) ∧
      (match o17 with
      | none => (At_Q39_1 r4 r11 [] 1 [] 1 (PBlocks.mk (PExprs.mk y18 y13.exprs.out y13.exprs.deep)) g14 z15 o r b' b'_g2 b'_z2)
      | some e19 => (some e19 = o ∧ (PBlocks.mk (PExprs.mk y18 y13.exprs.out y13.exprs.deep)) = b' ∧ g14 = b'_g2 ∧ z15 = b'_z2)))
     | some e16 => (some e16 = o ∧ y13 = b' ∧ g14 = b'_g2 ∧ z15 = b'_z2)))) ∧
   (¬ ((1 + r4) = 5) →
    (I64 (y2.pos + 1)) ∧
    (((1 + r4) = 2) →
     ∃ (o28 : Option Int) (r27 : List Attr) (y29 : PBlocks) (g30 : Nat) (z31 : Bool), (R_Q65 (PBlocks.mk (PExprs.mk (PTokens.mk y2.l (y2.pos + 1)) b.exprs.out b.exprs.deep)) b_g2 b_z2 o28 r27 y29 g30 z31) ∧
     (match o28 with
     | none => ((none = o ∧ (Block.mk (1 + r4) [] r27 []) = r ∧ y29 = b' ∧ g30 = b'_g2 ∧ z31 = b'_z2) ∧
      (none = o ∧ (Block.mk (1 + r4) [] r27 []) = r ∧ y29 = b' ∧ g30 = b'_g2 ∧ z31 = b'_z2))
     | some e32 => (some e32 = o ∧ y29 = b' ∧ g30 = b'_g2 ∧ z31 = b'_z2))) ∧
    (¬ ((1 + r4) = 2) →
     ∃ (o34 : Option Int) (r33 : List UInt8) (y35 : PBlocks) (g36 : Nat) (z37 : Bool), (R_Q64 (PBlocks.mk (PExprs.mk (PTokens.mk y2.l (y2.pos + 1)) b.exprs.out b.exprs.deep)) b_g2 b_z2 o34 r33 y35 g36 z37) ∧
     (match o34 with
     | none => (∃ (o40 : Option Int) (r39 : List Attr) (y41 : PBlocks) (g42 : Nat) (z43 : Bool), (R_Q65 y35 g36 z37 o40 r39 y41 g42 z43) ∧
      (match o40 with
      | none => ((none = o ∧ (Block.mk (1 + r4) r33 r39 []) = r ∧ y41 = b' ∧ g42 = b'_g2 ∧ z43 = b'_z2) ∧
       (none = o ∧ (Block.mk (1 + r4) r33 r39 []) = r ∧ y41 = b' ∧ g42 = b'_g2 ∧ z43 = b'_z2))
      | some e44 => (some e44 = o ∧ y41 = b' ∧ g42 = b'_g2 ∧ z43 = b'_z2)))
     | some e38 => (some e38 = o ∧ y35 = b' ∧ g36 = b'_g2 ∧ z37 = b'_z2)))))) ∧
 (¬ (r1.Kind = 3) →
  ∃ (o45 : Option Int) (y46 : PTokens), (R_Q42 y2 5 o45 y46) ∧
  (match o45 with
  | none => (False )
  | some e47 => (some e47 = o ∧ (PBlocks.mk (PExprs.mk y46 b.exprs.out b.exprs.deep)) = b' ∧ b_g2 = b'_g2 ∧ b_z2 = b'_z2)))) : R_Q39 b b_g2 b_z2 within o r b' b'_g2 b'_z2 := by
 intro S n0 t0 H0
 obtain ⟨hb0, ha0⟩ := H0
 obtain ⟨w0, hB0⟩ := take_some hb0
 have hn0 := o_getBox_lt hB0
 rw [call_code sp_Q39 _ _ rfl]
 have F := U_Q39
 obtain ⟨r1, y2, q1, r3, q2, r4, q3, p4, T⟩ := T
 simp only [R_Q38, le, List.cons_append, List.nil_append] at q1
 simp only [R_Q63, le, List.cons_append, List.nil_append] at q2
 simp only [R_slices_Index_string_string, le, List.cons_append, List.nil_append] at q3
 replace F := aa ha0 <| aa hB0 <| aa hn0 <| aa q1 <| aa q2 <| aa q3 <| aa p4.wrap <| F
 by_cases c5 : r1.Kind = 3
 · replace T := T.1 c5
   replace F := aa (eq_true c5) <| F
   by_cases c6 : (1 + r4) = 0
   · replace T := T.1 c6
     obtain ⟨o5, y6, q7, T⟩ := T
     simp only [R_Q42, le, List.cons_append, List.nil_append] at q7
     replace F := aa (eq_true c6) <| aa q7 <| F
     cases o5 with
     | none => exact False.elim T
     | some e7 =>
       dsimp only at T
       obtain ⟨rfl, rfl, rfl, rfl⟩ := T
       exact fi F
   · replace T := T.2 c6
     replace F := aa (eq_false c6) <| F
     by_cases c8 : (1 + r4) = 5
     · replace T := T.1 c8
       replace F := aa (eq_true c8) <| F
       by_cases c9 : within = true
       · replace T := T.1 c9
         obtain ⟨o8, y9, q10, T⟩ := T
         simp only [R_Q42, le, List.cons_append, List.nil_append] at q10
         replace F := aa c9 <| aa q10 <| F
         cases o8 with
         | none => exact False.elim T
         | some e10 =>
           dsimp only at T
           obtain ⟨rfl, rfl, rfl, rfl⟩ := T
           exact fi F
       · replace T := T.2 c9
         replace c9 := Bool.eq_false_iff.2 c9
         obtain ⟨p11, o12, r11, y13, g14, z15, q13, T⟩ := T
         have d12 : ¬ ((1 + r4) = 2) := fun h => absurd (c8.symm.trans h) (by decide)
         simp only [R_Q64, le, List.cons_append, List.nil_append] at q13
         replace F := aa c9 <| aa p11.wrap <| aa (eq_false d12) <| aa q13 <| F
         cases o12 with
         | none =>
           dsimp only at T
           obtain ⟨o17, y18, q14, T⟩ := T
           simp only [R_Q66, le, List.cons_append, List.nil_append] at q14
           replace F := aa q14 <| F
           cases o17 with
           | none =>
             dsimp only at T
             try simp only [F, lw, lx, le, Nat.reduceMul, UInt8.reduceToNat, reduceIte, reduceCtorEq, Nat.reduceEqDiff, Nat.reduceAdd, Nat.reduceLeDiff, Nat.reduceSub, Nat.reduceLT, Int.reduceEq, Int.reduceLT, Int.reduceLE, Int.reduceToNat, Int.reduceAdd, Int.reduceSub, Int.reduceMul, Int.reduceNeg]
             refine (T _ _ _ n0 t0 ?_ ?_).trans ?_
             all_goals exact fi F
           | some e19 =>
             dsimp only at T
             obtain ⟨rfl, rfl, rfl, rfl⟩ := T
             exact fi F
         | some e16 =>
           dsimp only at T
           obtain ⟨rfl, rfl, rfl, rfl⟩ := T
           exact fi F
     · replace T := T.2 c8
       obtain ⟨p15, T⟩ := T
       replace F := aa (eq_false c8) <| aa p15.wrap <| F
       by_cases c16 : (1 + r4) = 2
       · replace T := T.1 c16
         obtain ⟨o28, r27, y29, g30, z31, q17, T⟩ := T
         simp only [R_Q65, le, List.cons_append, List.nil_append] at q17
         replace F := aa (eq_true c16) <| F
         cases o28 with
         | none =>
           dsimp only at T
           rcases q17 with q17 | q17
           · replace T := T.1
             obtain ⟨rfl, rfl, rfl, rfl, rfl⟩ := T
             exact fi (aa q17 <| F)
           · replace T := T.2
             obtain ⟨rfl, rfl, rfl, rfl, rfl⟩ := T
             exact fi (aa q17 <| F)
         | some e32 =>
           dsimp only at T
           rcases q17 with q17 | q17
           ·
             obtain ⟨rfl, rfl, rfl, rfl⟩ := T
             exact fi (aa q17 <| F)
           ·
             obtain ⟨rfl, rfl, rfl, rfl⟩ := T
             exact fi (aa q17 <| F)
       · replace T := T.2 c16
         obtain ⟨o34, r33, y35, g36, z37, q18, T⟩ := T
         simp only [R_Q64, le, List.cons_append, List.nil_append] at q18
         replace F := aa (eq_false c16) <| aa q18 <| F
         cases o34 with
         | none =>
           dsimp only at T
           obtain ⟨o40, r39, y41, g42, z43, q19, T⟩ := T
           simp only [R_Q65, le, List.cons_append, List.nil_append] at q19
           cases o40 with
           | none =>
             dsimp only at T
             rcases q19 with q19 | q19
             · replace T := T.1
               obtain ⟨rfl, rfl, rfl, rfl, rfl⟩ := T
               exact fi (aa q19 <| F)
             · replace T := T.2
               obtain ⟨rfl, rfl, rfl, rfl, rfl⟩ := T
               exact fi (aa q19 <| F)
           | some e44 =>
             dsimp only at T
             rcases q19 with q19 | q19
             ·
               obtain ⟨rfl, rfl, rfl, rfl⟩ := T
               exact fi (aa q19 <| F)
             ·
               obtain ⟨rfl, rfl, rfl, rfl⟩ := T
               exact fi (aa q19 <| F)
         | some e38 =>
           dsimp only at T
           obtain ⟨rfl, rfl, rfl, rfl⟩ := T
           exact fi F
 · replace T := T.2 c5
   obtain ⟨o45, y46, q20, T⟩ := T
   simp only [R_Q42, le, List.cons_append, List.nil_append] at q20
   replace F := aa (eq_false c5) <| aa q20 <| F
   cases o45 with
   | none => exact False.elim T
   | some e47 =>
     dsimp only at T
     obtain ⟨rfl, rfl, rfl, rfl⟩ := T
     exact fi F
def idxI : Option Nat → Int
 | some i => (i : Int)
 | none => -1
theorem r_Index_loop (s : List (List UInt8)) (v : List UInt8) (hs : s.length ≤ 1000) : ∀ (l : List (List UInt8)) (i : Nat), s.drop i = l → i + l.length = s.length → At_slices_Index_string_string_1 s v (i : Nat) (idxI (idxS v l i))
 | [], i, h, hi => by
  refine At_slices_Index_string_string_1_step _ _ _ _ ⟨fun hf => ?_, fun _ => rfl⟩
  simp at hi
  omega
 | u :: l, i, h, hi => by
  have hlt : i < s.length := by simp at hi; omega
  have hg : s[i]? = some u := by
   have := congrArg List.head? h
   rw [List.head?_drop] at this
   simpa using this
  refine At_slices_Index_string_string_1_step _ _ _ _ ⟨fun _ => ⟨by omega, u, by simpa using hg, fun he => ?_, fun he => ⟨⟨by omega, by omega⟩, ?_⟩⟩, fun hf => absurd (by omega) hf⟩
  ·simp [idxS, he, idxI]
  ·have := r_Index_loop s v hs l (i + 1) (by rw [← List.drop_drop, h]; rfl) (by simp at hi ⊢; omega)
   simp only [idxS, if_neg he]
   exact this
theorem r_IndexS (s : List (List UInt8)) (v : List UInt8) (hs : s.length ≤ 1000) : R_slices_Index_string_string s v (idxI (idxS v s 0)) :=
 slices_Index_string_string_tree _ _ _ (r_Index_loop s v hs s 0 rfl (by simp))
theorem r_two (rank : Nat) (hr : rank < 5) (s : List UInt8) : ∃ k, R_Q143 (rank : Int) s k (opS rank s).isSome ∧ ∀ q, opS rank s = some q → k = q := by
 have key : ∀ (l : List (List UInt8)) (f : Int), ([[[124, 124]], [[38, 38]], [[61, 61], [33, 61], [60], [60, 61], [62], [62, 61]], [[43], [45]], [[42], [47], [37]]] : List (List (List UInt8)))[rank]? = some l → ([11, 12, 13, 19, 21] : List Int)[rank]? = some f → l.length ≤ 6 → 0 ≤ f → f ≤ 30 → signsS rank = l → firstS rank = f → ∃ k, R_Q143 (rank : Int) s k (opS rank s).isSome ∧ ∀ q, opS rank s = some q → k = q := by
  intro l f h1 h2 h3 h4 h5 h6 h7
  have hb : -1 ≤ idxI (idxS s l 0) ∧ idxI (idxS s l 0) ≤ 6 := by
   have gen : ∀ (l : List (List UInt8)) (i : Nat), -1 ≤ idxI (idxS s l i) ∧ idxI (idxS s l i) ≤ i + l.length := by
    intro l
    induction l with
    | nil => intro i; simp [idxS, idxI]
    | cons u l ih =>
     intro i
     simp only [idxS]
     split
     ·simp only [idxI, List.length_cons]; omega
     ·have := ih (i + 1)
      simp only [List.length_cons]
      omega
   have := gen l 0
   omega
  refine ⟨f + idxI (idxS s l 0), Q143_tree _ _ _ _ ⟨by omega, l, by simpa using h1, idxI (idxS s l 0), r_IndexS l s (by omega), by omega, f, by simpa using h2, ⟨by omega, by omega⟩, rfl, ?_⟩, ?_⟩
  ·simp only [opS, h6]
   cases idxS s l 0 with
   | none => simp [idxI]
   | some i => simp [idxI]
  ·intro q hq
   simp only [opS, h6, h7] at hq
   cases hi : idxS s l 0 with
   | none => rw [hi] at hq; cases hq
   | some i => rw [hi] at hq; simpa [idxI] using hq
 match rank, hr with
 | 0, _ => exact key _ _ rfl rfl (by decide) (by decide) (by decide) rfl rfl
 | 1, _ => exact key _ _ rfl rfl (by decide) (by decide) (by decide) rfl rfl
 | 2, _ => exact key _ _ rfl rfl (by decide) (by decide) (by decide) rfl rfl
 | 3, _ => exact key _ _ rfl rfl (by decide) (by decide) (by decide) rfl rfl
 | 4, _ => exact key _ _ rfl rfl (by decide) (by decide) (by decide) rfl rfl
theorem r_is1 {L ts : List Token} (h : ts <:+ L) {s : List UInt8} (hi : isS s ts = true) : R_Q102 (pt L ts) s true (pt L ts) := by
 have := r_is h (fun e => by subst e; cases hi) s
 rw [hi] at this
 exact this
theorem r_is0 {L ts : List Token} (h : ts <:+ L) (hne : ts ≠ []) {s : List UInt8} (hi : isS s ts = false) : R_Q102 (pt L ts) s false (pt L ts) := by
 have := r_is h hne s
 rw [hi] at this
 exact this
def OkE {α : Type} (L ts : List Token) (out : List Node) (d d' g c m n : Nat) (R : PExprs → Nat → Bool → Option Int → α → PExprs → Nat → Bool → Prop) : PR α → Prop
 | .ok a ts' out' => ts' <:+ L ∧ W ts' ∧ ts'.length + c ≤ ts.length ∧ out'.length + ts'.length ≤ out.length + ts.length ∧ R (pe L ts out d) g false none a (pe L ts' out' d') g false
 | .er e => ∃ a x' g' z', R (pe L ts out d) g false (some e) a x' g' z'
 | .no => n ≤ m
structure Sp (n : Nat) (L ts : List Token) (out : List Node) (d g : Nat) : Prop where
 expr : OkE L ts out d d g 1 (20 * ts.length + 9) n R_Q68 (exprS n d ts out)
 chain : ∀ rank : Nat, rank ≤ 5 → OkE L ts out d d g 1 (20 * ts.length + 8 - rank) n (fun x g z => R_Q103 x g z (rank : Int)) (chainS n rank d ts out)
 loop : ∀ (rank : Nat) (a : Int), rank < 5 → OkE L ts out d d g 0 (20 * ts.length) n (At_Q103_1 (rank : Int) a) (loopS n rank d a ts out)
 un : OkE L ts out d d g 1 (20 * ts.length + 2) n R_Q142 (unS n d ts out)
 post : OkE L ts out d d g 1 (20 * ts.length + 1) n R_Q167 (postS n d ts out)
 postl : ∀ a : Int, OkE L ts out d d g 0 (20 * ts.length) n (At_Q167_1 a) (postL n d a ts out)
 many : ∀ e : List UInt8, d + 1 ≤ 64 → OkE L ts out (d + 1) d g 1 (20 * ts.length + 10) n (fun x g z => R_Q203 x g z e) (manyS n (d + 1) e ts out)
 manyl : ∀ (e : List UInt8) (l : List Int), l.length + ts.length ≤ 1000000 → d + 1 ≤ 64 → OkE L ts out (d + 1) d g 1 (20 * ts.length) n (At_Q203_1 e l) (manyL n (d + 1) e l ts out)
 prim : OkE L ts out d d g 1 (20 * ts.length) n R_Q180 (primS n d ts out)
 manyn : ∀ e : List UInt8, d + 1 ≤ 64 → ∀ b ts2 out2, manyS n (d + 1) e ts out = .ok b ts2 out2 → b.length ≤ ts.length
 manyln : ∀ (e : List UInt8) (l : List Int), d + 1 ≤ 64 → ∀ b ts2 out2, manyL n (d + 1) e l ts out = .ok b ts2 out2 → b.length ≤ l.length + ts.length
def SpA (n : Nat) : Prop := ∀ (L : List Token), L.length ≤ 1000000 → (∀ t ∈ L, t.Text.length ≤ 1000000) → ∀ (ts : List Token), ts <:+ L → W ts → ∀ (out : List Node), out.length + ts.length ≤ 1000000 → ∀ (d : Nat), d ≤ 64 → ∀ (g : Nat), Sp n L ts out d g
theorem sp_zero : SpA 0 := fun L hL hT ts hs hw out ho d hd g => by
 constructor
 iterate 9 (intros; simp only [exprS, chainS, loopS, unS, postS, postL, manyS, manyL, primS, OkE]; exact Nat.zero_le _)
 ·intro e h b ts2 out2 hb; simp [manyS] at hb
 ·intro e l h b ts2 out2 hb; simp [manyL] at hb
section
variable {n : Nat} (ih : SpA n) {L ts : List Token} (hL : L.length ≤ 1000000) (hT : ∀ t ∈ L, t.Text.length ≤ 1000000) (hs : ts <:+ L) (hw : W ts) {out : List Node} (ho : out.length + ts.length ≤ 1000000) {d : Nat} (hd : d ≤ 64) (g : Nat)
include ih hL hT hs hw ho hd
theorem sp_expr : OkE L ts out d d g 1 (20 * ts.length + 9) (n + 1) R_Q68 (exprS (n + 1) d ts out) := by
 have h1 := (ih L hL hT ts hs hw out ho d hd g).chain 0 (by omega)
 simp only [exprS]
 cases hc : chainS n 0 d ts out with
 | no => rw [hc] at h1; simp only [PR.bind, OkE] at h1 ⊢; omega
 | er e =>
  rw [hc] at h1
  obtain ⟨a, x', g', z', q⟩ := h1
  exact ⟨0, x', g', z', Q68_tree _ _ _ _ _ _ _ _ ⟨some e, a, x', g', z', q, rfl, rfl, rfl, rfl⟩⟩
 | ok a ts1 out1 =>
  rw [hc] at h1
  obtain ⟨s1, w1, l1, o1, q1⟩ := h1
  simp only [PR.bind]
  by_cases hi : isS [63] ts1 = true
  ·rw [if_pos hi]
   simp only [openS, if_pos hi]
   have hlen := len_shift hi
   by_cases h64 : 64 ≤ d
   ·rw [if_pos h64]
    obtain ⟨x', g', z', q⟩ := r_open6 s1 w1.ne hi h64 out1 g false
    exact ⟨0, x', g', z', Q68_tree _ _ _ _ _ _ _ _ ⟨none, a, _, _, _, q1, true, _, r_is1 s1 hi, fun _ => ⟨some 6, x', g', z', q, rfl, rfl, rfl, rfl⟩, fun hf => absurd rfl hf⟩⟩
   ·rw [if_neg h64]
    have q2 := r_open1 s1 hL hi h64 out1 g false
    have h3 := (ih L hL hT ts1.tail (suf_shift s1) (w1.shift hi) out1 (by omega) (d + 1) (by omega) g).expr
    cases hb : exprS n (d + 1) ts1.tail out1 with
    | no => rw [hb] at h3; simp only [OkE] at h3 ⊢; omega
    | er e =>
     rw [hb] at h3
     obtain ⟨b, x', g', z', q3⟩ := h3
     exact ⟨0, x', g', z', Q68_tree _ _ _ _ _ _ _ _ ⟨none, a, _, _, _, q1, true, _, r_is1 s1 hi, fun _ => ⟨none, _, _, _, q2, some e, b, x', g', z', q3, rfl, rfl, rfl, rfl⟩, fun hf => absurd rfl hf⟩⟩
    | ok b ts2 out2 =>
     rw [hb] at h3
     obtain ⟨s2, w2, l2, o2, q3⟩ := h3
     simp only [needS]
     by_cases hi2 : isS [58] ts2 = true
     ·rw [if_pos hi2]
      have hlen2 := len_shift hi2
      have h4 := (ih L hL hT ts2.tail (suf_shift s2) (w2.shift hi2) out2 (by omega) (d + 1) (by omega) g).expr
      cases hc3 : exprS n (d + 1) ts2.tail out2 with
      | no => rw [hc3] at h4; simp only [OkE] at h4 ⊢; omega
      | er e =>
       rw [hc3] at h4
       obtain ⟨c, x', g', z', q4⟩ := h4
       exact ⟨0, x', g', z', Q68_tree _ _ _ _ _ _ _ _ ⟨none, a, _, _, _, q1, true, _, r_is1 s1 hi, fun _ => ⟨none, _, _, _, q2, none, b, _, _, _, q3, none, _, r_need1 s2 hL hi2, some e, c, x', g', z', q4, rfl, rfl, rfl, rfl⟩, fun hf => absurd rfl hf⟩⟩
      | ok c ts3 out3 =>
       rw [hc3] at h4
       obtain ⟨s3, w3, l3, o3, q4⟩ := h4
       refine ⟨s3, w3, by omega, by simp; omega, Q68_tree _ _ _ _ _ _ _ _ ⟨none, a, _, _, _, q1, true, _, r_is1 s1 hi, fun _ => ⟨none, _, _, _, q2, none, b, _, _, _, q3, none, _, r_need1 s2 hL hi2, none, c, _, _, _, q4, ⟨by simp only [pe]; omega, by simp only [pe]; omega⟩, _, _, _, _, r_put _ out3 _ g false 10 [] [a, b, c] (by simp) (by omega), rfl, rfl, ?_, rfl, rfl⟩, fun hf => absurd rfl hf⟩⟩
       simp only [pe]
       congr 1
       omega
     ·rw [if_neg hi2]
      exact ⟨0, _, _, _, Q68_tree _ _ _ _ _ _ _ _ ⟨none, a, _, _, _, q1, true, _, r_is1 s1 hi, fun _ => ⟨none, _, _, _, q2, none, b, _, _, _, q3, some 5, _, r_need0 s2 w2.ne (by simpa using hi2), rfl, rfl, rfl, rfl⟩, fun hf => absurd rfl hf⟩⟩
  ·rw [if_neg hi]
   exact ⟨s1, w1, l1, o1, Q68_tree _ _ _ _ _ _ _ _ ⟨none, a, _, _, _, q1, false, _, r_is0 s1 w1.ne (by simpa using hi), fun hf => (by cases hf), fun _ => ⟨rfl, rfl, rfl, rfl, rfl⟩⟩⟩
theorem sp_chain (rank : Nat) (hr : rank ≤ 5) : OkE L ts out d d g 1 (20 * ts.length + 8 - rank) (n + 1) (fun x g z => R_Q103 x g z (rank : Int)) (chainS (n + 1) rank d ts out) := by
 simp only [chainS]
 by_cases h5 : rank = 5
 ·subst h5
  have h1 := (ih L hL hT ts hs hw out ho d hd g).un
  rw [if_pos rfl]
  cases hc : unS n d ts out with
  | no => rw [hc] at h1; simp only [OkE] at h1 ⊢; omega
  | er e =>
   rw [hc] at h1
   obtain ⟨a, x', g', z', q⟩ := h1
   exact ⟨a, x', g', z', Q103_tree _ _ _ _ _ _ _ _ _ ⟨fun _ => ⟨some e, a, x', g', z', q, rfl, rfl, rfl, rfl⟩, fun hf => absurd rfl hf⟩⟩
  | ok a ts1 out1 =>
   rw [hc] at h1
   obtain ⟨s1, w1, l1, o1, q1⟩ := h1
   exact ⟨s1, w1, l1, o1, Q103_tree _ _ _ _ _ _ _ _ _ ⟨fun _ => ⟨none, a, _, _, _, q1, rfl, rfl, rfl, rfl, rfl⟩, fun hf => absurd rfl hf⟩⟩
 ·rw [if_neg h5]
  have h5' : ¬ ((rank : Nat) : Int) = 5 := by omega
  have h1 := (ih L hL hT ts hs hw out ho d hd g).chain (rank + 1) (by omega)
  cases hc : chainS n (rank + 1) d ts out with
  | no => rw [hc] at h1; simp only [PR.bind, OkE] at h1 ⊢; omega
  | er e =>
   rw [hc] at h1
   obtain ⟨a, x', g', z', q⟩ := h1
   exact ⟨a, x', g', z', Q103_tree _ _ _ _ _ _ _ _ _ ⟨fun hf => absurd hf h5', fun _ => ⟨⟨by omega, by omega⟩, some e, a, x', g', z', q, rfl, rfl, rfl, rfl⟩⟩⟩
  | ok a ts1 out1 =>
   rw [hc] at h1
   obtain ⟨s1, w1, l1, o1, q1⟩ := h1
   simp only [PR.bind]
   have h2 := (ih L hL hT ts1 s1 w1 out1 (by omega) d hd g).loop rank a (by omega)
   cases hl : loopS n rank d a ts1 out1 with
   | no => rw [hl] at h2; simp only [OkE] at h2 ⊢; omega
   | er e =>
    rw [hl] at h2
    obtain ⟨b, x', g', z', q⟩ := h2
    exact ⟨b, x', g', z', Q103_tree _ _ _ _ _ _ _ _ _ ⟨fun hf => absurd hf h5', fun _ => ⟨⟨by omega, by omega⟩, none, a, _, _, _, q1, q⟩⟩⟩
   | ok b ts2 out2 =>
    rw [hl] at h2
    obtain ⟨s2, w2, l2, o2, q2⟩ := h2
    exact ⟨s2, w2, by omega, by omega, Q103_tree _ _ _ _ _ _ _ _ _ ⟨fun hf => absurd hf h5', fun _ => ⟨⟨by omega, by omega⟩, none, a, _, _, _, q1, q2⟩⟩⟩
theorem sp_loop (rank : Nat) (a : Int) (hr : rank < 5) : OkE L ts out d d g 0 (20 * ts.length) (n + 1) (At_Q103_1 (rank : Int) a) (loopS (n + 1) rank d a ts out) := by
 cases ts with
 | nil => exact hw.elim
 | cons t ts =>
  simp only [loopS]
  by_cases hk : t.Kind = 4
  ·rw [if_pos hk]
   obtain ⟨k, hk2, hkq⟩ := r_two rank hr t.Text
   cases hop : opS rank t.Text with
   | none =>
    rw [hop] at hk2
    exact ⟨hs, hw, by simp, by simp, At_Q103_1_step _ _ _ _ _ _ _ _ _ _ ⟨t, _, r_now hs, fun _ => ⟨t, _, r_now hs, k, false, hk2, fun hf => (by cases hf), fun _ => ⟨rfl, rfl, rfl, rfl, rfl⟩⟩, fun hf => absurd hk hf⟩⟩
   | some kind =>
    rw [hop] at hk2
    obtain rfl := hkq kind hop
    simp only
    have hk0 : t.Kind ≠ 0 := by rw [hk]; decide
    have hp := suf_len hs
    have h1 := (ih L hL hT ts (suf_tail hs) (hw.tail hk0) out (by simp at ho; omega) d hd g).chain (rank + 1) (by omega)
    have hI : I64 ((pt L (t :: ts)).pos + 1) := by simp only [pt, I64]; omega
    have hI2 : I64 (((rank : Nat) : Int) + 1) := ⟨by omega, by omega⟩
    have e1 : (PExprs.mk (PTokens.mk (pt L (t :: ts)).l ((pt L (t :: ts)).pos + 1)) (pe L (t :: ts) out d).out (pe L (t :: ts) out d).deep) = pe L ts out d := by rw [pt_next hs]; rfl
    cases hc : chainS n (rank + 1) d ts out with
    | no => rw [hc] at h1; simp only [PR.bind, OkE, List.length_cons] at h1 ⊢; omega
    | er e =>
     rw [hc] at h1
     obtain ⟨b, x', g', z', q⟩ := h1
     exact ⟨b, x', g', z', At_Q103_1_step _ _ _ _ _ _ _ _ _ _ ⟨t, _, r_now hs, fun _ => ⟨t, _, r_now hs, k, true, hk2, fun _ => ⟨hI, hI2, some e, b, x', g', z', e1 ▸ q, rfl, rfl, rfl, rfl⟩, fun hf => absurd rfl hf⟩, fun hf => absurd hk hf⟩⟩
    | ok b ts1 out1 =>
     rw [hc] at h1
     obtain ⟨s1, w1, l1, o1, q1⟩ := h1
     simp only [PR.bind]
     simp only [List.length_cons] at ho hp
     by_cases h2 : rank = 2
     ·subst h2
      rw [if_pos rfl]
      exact ⟨s1, w1, by simp; omega, by simp; omega, At_Q103_1_step _ _ _ _ _ _ _ _ _ _ ⟨t, _, r_now hs, fun _ => ⟨t, _, r_now hs, k, true, hk2, fun _ => ⟨hI, hI2, none, b, _, _, _, e1 ▸ q1, _, _, _, _, r_put _ out1 _ g false k [] [a, b] (by simp) (by omega), fun _ => ⟨rfl, rfl, rfl, rfl, rfl⟩, fun hf => absurd rfl hf⟩, fun hf => absurd rfl hf⟩, fun hf => absurd hk hf⟩⟩
     ·rw [if_neg h2]
      have h2' : ¬ ((rank : Nat) : Int) = 2 := by omega
      have h3 := (ih L hL hT ts1 s1 w1 (out1 ++ [nd k [] [a, b]]) (by simp; omega) d hd g).loop rank (out1.length : Nat) hr
      cases hl : loopS n rank d (out1.length : Nat) ts1 (out1 ++ [nd k [] [a, b]]) with
      | no => rw [hl] at h3; simp only [OkE, List.length_cons] at h3 ⊢; omega
      | er e =>
       rw [hl] at h3
       obtain ⟨c, x', g', z', q⟩ := h3
       exact ⟨c, x', g', z', At_Q103_1_step _ _ _ _ _ _ _ _ _ _ ⟨t, _, r_now hs, fun _ => ⟨t, _, r_now hs, k, true, hk2, fun _ => ⟨hI, hI2, none, b, _, _, _, e1 ▸ q1, _, _, _, _, r_put _ out1 _ g false k [] [a, b] (by simp) (by omega), fun hf => absurd hf h2', fun _ => q⟩, fun hf => absurd rfl hf⟩, fun hf => absurd hk hf⟩⟩
      | ok c ts2 out2 =>
       rw [hl] at h3
       obtain ⟨s2, w2, l2, o2, q2⟩ := h3
       simp only [List.length_append, List.length_cons, List.length_nil] at o2
       exact ⟨s2, w2, by simp; omega, by simp; omega, At_Q103_1_step _ _ _ _ _ _ _ _ _ _ ⟨t, _, r_now hs, fun _ => ⟨t, _, r_now hs, k, true, hk2, fun _ => ⟨hI, hI2, none, b, _, _, _, e1 ▸ q1, _, _, _, _, r_put _ out1 _ g false k [] [a, b] (by simp) (by omega), fun hf => absurd hf h2', fun _ => q2⟩, fun hf => absurd rfl hf⟩, fun hf => absurd hk hf⟩⟩
  ·rw [if_neg hk]
   exact ⟨hs, hw, by simp, by simp, At_Q103_1_step _ _ _ _ _ _ _ _ _ _ ⟨t, _, r_now hs, fun hf => absurd hf hk, fun _ => ⟨rfl, rfl, rfl, rfl, rfl⟩⟩⟩
theorem sp_un : OkE L ts out d d g 1 (20 * ts.length + 2) (n + 1) R_Q142 (unS (n + 1) d ts out) := by
 simp only [unS]
 by_cases hi : isS [45] ts = true
 ·rw [if_pos hi]
  simp only [openS, if_pos hi]
  have hlen := len_shift hi
  by_cases h64 : 64 ≤ d
  ·rw [if_pos h64]
   obtain ⟨x', g', z', q⟩ := r_open6 hs hw.ne hi h64 out g false
   exact ⟨0, x', g', z', Q142_tree _ _ _ _ _ _ _ _ ⟨true, _, r_is1 hs hi, fun _ => ⟨some 6, x', g', z', q, rfl, rfl, rfl, rfl⟩, fun hf => absurd rfl hf⟩⟩
  ·rw [if_neg h64]
   have q2 := r_open1 hs hL hi h64 out g false
   have h3 := (ih L hL hT ts.tail (suf_shift hs) (hw.shift hi) out (by omega) (d + 1) (by omega) g).un
   cases hb : unS n (d + 1) ts.tail out with
   | no => rw [hb] at h3; simp only [PR.bind, OkE] at h3 ⊢; omega
   | er e =>
    rw [hb] at h3
    obtain ⟨b, x', g', z', q3⟩ := h3
    exact ⟨0, x', g', z', Q142_tree _ _ _ _ _ _ _ _ ⟨true, _, r_is1 hs hi, fun _ => ⟨none, _, _, _, q2, some e, b, x', g', z', q3, rfl, rfl, rfl, rfl⟩, fun hf => absurd rfl hf⟩⟩
   | ok b ts2 out2 =>
    rw [hb] at h3
    obtain ⟨s2, w2, l2, o2, q3⟩ := h3
    simp only [PR.bind]
    refine ⟨s2, w2, by omega, by simp; omega, Q142_tree _ _ _ _ _ _ _ _ ⟨true, _, r_is1 hs hi, fun _ => ⟨none, _, _, _, q2, none, b, _, _, _, q3, ⟨by simp only [pe]; omega, by simp only [pe]; omega⟩, _, _, _, _, r_put _ out2 _ g false 9 [] [b] (by simp) (by omega), rfl, rfl, ?_, rfl, rfl⟩, fun hf => absurd rfl hf⟩⟩
    simp only [pe]
    congr 1
    omega
 ·rw [if_neg hi]
  have hi0 : isS [45] ts = false := by simpa using hi
  clear hi
  by_cases hi : isS [33] ts = true
  ·rw [if_pos hi]
   simp only [openS, if_pos hi]
   have hlen := len_shift hi
   by_cases h64 : 64 ≤ d
   ·rw [if_pos h64]
    obtain ⟨x', g', z', q⟩ := r_open6 hs hw.ne hi h64 out g false
    exact ⟨0, x', g', z', Q142_tree _ _ _ _ _ _ _ _ ⟨false, _, r_is0 hs hw.ne hi0, fun hf => (by cases hf), fun _ => ⟨true, _, r_is1 hs hi, fun _ => ⟨some 6, x', g', z', q, rfl, rfl, rfl, rfl⟩, fun hf => absurd rfl hf⟩⟩⟩
   ·rw [if_neg h64]
    have q2 := r_open1 hs hL hi h64 out g false
    have h3 := (ih L hL hT ts.tail (suf_shift hs) (hw.shift hi) out (by omega) (d + 1) (by omega) g).un
    cases hb : unS n (d + 1) ts.tail out with
    | no => rw [hb] at h3; simp only [PR.bind, OkE] at h3 ⊢; omega
    | er e =>
     rw [hb] at h3
     obtain ⟨b, x', g', z', q3⟩ := h3
     exact ⟨0, x', g', z', Q142_tree _ _ _ _ _ _ _ _ ⟨false, _, r_is0 hs hw.ne hi0, fun hf => (by cases hf), fun _ => ⟨true, _, r_is1 hs hi, fun _ => ⟨none, _, _, _, q2, some e, b, x', g', z', q3, rfl, rfl, rfl, rfl⟩, fun hf => absurd rfl hf⟩⟩⟩
    | ok b ts2 out2 =>
     rw [hb] at h3
     obtain ⟨s2, w2, l2, o2, q3⟩ := h3
     simp only [PR.bind]
     refine ⟨s2, w2, by omega, by simp; omega, Q142_tree _ _ _ _ _ _ _ _ ⟨false, _, r_is0 hs hw.ne hi0, fun hf => (by cases hf), fun _ => ⟨true, _, r_is1 hs hi, fun _ => ⟨none, _, _, _, q2, none, b, _, _, _, q3, ⟨by simp only [pe]; omega, by simp only [pe]; omega⟩, _, _, _, _, r_put _ out2 _ g false 8 [] [b] (by simp) (by omega), rfl, rfl, ?_, rfl, rfl⟩, fun hf => absurd rfl hf⟩⟩⟩
     simp only [pe]
     congr 1
     omega
  ·rw [if_neg hi]
   have h1 := (ih L hL hT ts hs hw out ho d hd g).post
   cases hc : postS n d ts out with
   | no => rw [hc] at h1; simp only [OkE] at h1 ⊢; omega
   | er e =>
    rw [hc] at h1
    obtain ⟨a, x', g', z', q⟩ := h1
    exact ⟨a, x', g', z', Q142_tree _ _ _ _ _ _ _ _ ⟨false, _, r_is0 hs hw.ne hi0, fun hf => (by cases hf), fun _ => ⟨false, _, r_is0 hs hw.ne (by simpa using hi), fun hf => (by cases hf), fun _ => ⟨some e, a, x', g', z', q, rfl, rfl, rfl, rfl⟩⟩⟩⟩
   | ok a ts1 out1 =>
    rw [hc] at h1
    obtain ⟨s1, w1, l1, o1, q1⟩ := h1
    exact ⟨s1, w1, l1, o1, Q142_tree _ _ _ _ _ _ _ _ ⟨false, _, r_is0 hs hw.ne hi0, fun hf => (by cases hf), fun _ => ⟨false, _, r_is0 hs hw.ne (by simpa using hi), fun hf => (by cases hf), fun _ => ⟨none, a, _, _, _, q1, rfl, rfl, rfl, rfl, rfl⟩⟩⟩⟩
theorem sp_post : OkE L ts out d d g 1 (20 * ts.length + 1) (n + 1) R_Q167 (postS (n + 1) d ts out) := by
 simp only [postS]
 have h1 := (ih L hL hT ts hs hw out ho d hd g).prim
 cases hc : primS n d ts out with
 | no => rw [hc] at h1; simp only [PR.bind, OkE] at h1 ⊢; omega
 | er e =>
  rw [hc] at h1
  obtain ⟨a, x', g', z', q⟩ := h1
  exact ⟨a, x', g', z', Q167_tree _ _ _ _ _ _ _ _ ⟨some e, a, x', g', z', q, rfl, rfl, rfl, rfl⟩⟩
 | ok a ts1 out1 =>
  rw [hc] at h1
  obtain ⟨s1, w1, l1, o1, q1⟩ := h1
  simp only [PR.bind]
  have h2 := (ih L hL hT ts1 s1 w1 out1 (by omega) d hd g).postl a
  cases hl : postL n d a ts1 out1 with
  | no => rw [hl] at h2; simp only [OkE] at h2 ⊢; omega
  | er e =>
   rw [hl] at h2
   obtain ⟨b, x', g', z', q⟩ := h2
   exact ⟨b, x', g', z', Q167_tree _ _ _ _ _ _ _ _ ⟨none, a, _, _, _, q1, q⟩⟩
  | ok b ts2 out2 =>
   rw [hl] at h2
   obtain ⟨s2, w2, l2, o2, q2⟩ := h2
   exact ⟨s2, w2, by omega, by omega, Q167_tree _ _ _ _ _ _ _ _ ⟨none, a, _, _, _, q1, q2⟩⟩
theorem sp_postl (a : Int) : OkE L ts out d d g 0 (20 * ts.length) (n + 1) (At_Q167_1 a) (postL (n + 1) d a ts out) := by
 simp only [postL]
 by_cases hi : isS [91] ts = true
 ·rw [if_pos hi]
  simp only [openS, if_pos hi]
  have hlen := len_shift hi
  by_cases h64 : 64 ≤ d
  ·rw [if_pos h64]
   obtain ⟨x', g', z', q⟩ := r_open6 hs hw.ne hi h64 out g false
   exact ⟨0, x', g', z', At_Q167_1_step _ _ _ _ _ _ _ _ _ ⟨true, _, r_is1 hs hi, fun _ => ⟨some 6, x', g', z', q, rfl, rfl, rfl, rfl⟩, fun hf => absurd rfl hf⟩⟩
  ·rw [if_neg h64]
   have q2 := r_open1 hs hL hi h64 out g false
   have h3 := (ih L hL hT ts.tail (suf_shift hs) (hw.shift hi) out (by omega) (d + 1) (by omega) g).expr
   cases hb : exprS n (d + 1) ts.tail out with
   | no => rw [hb] at h3; simp only [PR.bind, OkE] at h3 ⊢; omega
   | er e =>
    rw [hb] at h3
    obtain ⟨b, x', g', z', q3⟩ := h3
    exact ⟨0, x', g', z', At_Q167_1_step _ _ _ _ _ _ _ _ _ ⟨true, _, r_is1 hs hi, fun _ => ⟨none, _, _, _, q2, some e, b, x', g', z', q3, rfl, rfl, rfl, rfl⟩, fun hf => absurd rfl hf⟩⟩
   | ok b ts2 out2 =>
    rw [hb] at h3
    obtain ⟨s2, w2, l2, o2, q3⟩ := h3
    simp only [PR.bind, needS]
    by_cases hi2 : isS [93] ts2 = true
    ·rw [if_pos hi2]
     have hlen2 := len_shift hi2
     have q4 := r_shut1 s2 hL hi2 (d := d) (by omega) out2 g false
     have h4 := (ih L hL hT ts2.tail (suf_shift s2) (w2.shift hi2) (out2 ++ [nd 7 [] [a, b]]) (by simp; omega) d hd g).postl (out2.length : Nat)
     cases hl : postL n d (out2.length : Nat) ts2.tail (out2 ++ [nd 7 [] [a, b]]) with
     | no => rw [hl] at h4; simp only [OkE] at h4 ⊢; omega
     | er e =>
      rw [hl] at h4
      obtain ⟨c, x', g', z', q⟩ := h4
      exact ⟨c, x', g', z', At_Q167_1_step _ _ _ _ _ _ _ _ _ ⟨true, _, r_is1 hs hi, fun _ => ⟨none, _, _, _, q2, none, b, _, _, _, q3, none, _, _, _, q4, _, _, _, _, r_put _ out2 _ g false 7 [] [a, b] (by simp) (by omega), q⟩, fun hf => absurd rfl hf⟩⟩
     | ok c ts3 out3 =>
      rw [hl] at h4
      obtain ⟨s3, w3, l3, o3, q⟩ := h4
      simp only [List.length_append, List.length_cons, List.length_nil] at o3
      exact ⟨s3, w3, by omega, by omega, At_Q167_1_step _ _ _ _ _ _ _ _ _ ⟨true, _, r_is1 hs hi, fun _ => ⟨none, _, _, _, q2, none, b, _, _, _, q3, none, _, _, _, q4, _, _, _, _, r_put _ out2 _ g false 7 [] [a, b] (by simp) (by omega), q⟩, fun hf => absurd rfl hf⟩⟩
    ·rw [if_neg hi2]
     obtain ⟨x', g', z', q⟩ := r_shut5 s2 w2.ne (by simpa using hi2) (d + 1) out2 g false
     exact ⟨0, x', g', z', At_Q167_1_step _ _ _ _ _ _ _ _ _ ⟨true, _, r_is1 hs hi, fun _ => ⟨none, _, _, _, q2, none, b, _, _, _, q3, some 5, x', g', z', q, rfl, rfl, rfl, rfl⟩, fun hf => absurd rfl hf⟩⟩
 ·rw [if_neg hi]
  exact ⟨hs, hw, by omega, by omega, At_Q167_1_step _ _ _ _ _ _ _ _ _ ⟨false, _, r_is0 hs hw.ne (by simpa using hi), fun hf => (by cases hf), fun _ => ⟨rfl, rfl, rfl, rfl, rfl⟩⟩⟩
theorem sp_many (e : List UInt8) (h65 : d + 1 ≤ 64) : OkE L ts out (d + 1) d g 1 (20 * ts.length + 10) (n + 1) (fun x g z => R_Q203 x g z e) (manyS (n + 1) (d + 1) e ts out) := by
 simp only [manyS]
 by_cases hi : isS e ts = true
 ·rw [if_pos hi]
  have hlen := len_shift hi
  exact ⟨suf_shift hs, hw.shift hi, by omega, by omega, Q203_tree _ _ _ _ _ _ _ _ _ ⟨true, _, r_is1 hs hi, fun _ => ⟨none, _, _, _, r_shut1 hs hL hi (d := d) (by omega) out g false, rfl, rfl, rfl, rfl, rfl⟩, fun hf => absurd rfl hf⟩⟩
 ·rw [if_neg hi]
  have hi0 : isS e ts = false := by simpa using hi
  ·have h1 := (ih L hL hT ts hs hw out ho (d + 1) h65 g).expr
   cases hc : exprS n (d + 1) ts out with
   | no => rw [hc] at h1; simp only [PR.bind, OkE] at h1 ⊢; omega
   | er e' =>
    rw [hc] at h1
    obtain ⟨a, x', g', z', q⟩ := h1
    exact ⟨[], x', g', z', Q203_tree _ _ _ _ _ _ _ _ _ ⟨false, _, r_is0 hs hw.ne hi0, fun hf => (by cases hf), fun _ => ⟨some e', a, x', g', z', q, rfl, rfl, rfl, rfl⟩⟩⟩
   | ok a ts1 out1 =>
    rw [hc] at h1
    obtain ⟨s1, w1, l1, o1, q1⟩ := h1
    simp only [PR.bind]
    have h2 := (ih L hL hT ts1 s1 w1 out1 (by omega) d hd g).manyl e [a] (by have := suf_len s1; simp; omega) h65
    cases hl : manyL n (d + 1) e [a] ts1 out1 with
    | no => rw [hl] at h2; simp only [OkE] at h2 ⊢; omega
    | er e' =>
     rw [hl] at h2
     obtain ⟨b, x', g', z', q⟩ := h2
     exact ⟨b, x', g', z', Q203_tree _ _ _ _ _ _ _ _ _ ⟨false, _, r_is0 hs hw.ne hi0, fun hf => (by cases hf), fun _ => ⟨none, a, _, _, _, q1, q⟩⟩⟩
    | ok b ts2 out2 =>
     rw [hl] at h2
     obtain ⟨s2, w2, l2, o2, q2⟩ := h2
     exact ⟨s2, w2, by omega, by omega, Q203_tree _ _ _ _ _ _ _ _ _ ⟨false, _, r_is0 hs hw.ne hi0, fun hf => (by cases hf), fun _ => ⟨none, a, _, _, _, q1, q2⟩⟩⟩
theorem sp_manyl (e : List UInt8) (l : List Int) (hl : l.length + ts.length ≤ 1000000) (h65 : d + 1 ≤ 64) : OkE L ts out (d + 1) d g 1 (20 * ts.length) (n + 1) (At_Q203_1 e l) (manyL (n + 1) (d + 1) e l ts out) := by
 simp only [manyL]
 by_cases hi : isS [44] ts = true
 ·rw [if_pos hi]
  have hlen := len_shift hi
  ·have h1 := (ih L hL hT ts.tail (suf_shift hs) (hw.shift hi) out (by omega) (d + 1) h65 g).expr
   cases hc : exprS n (d + 1) ts.tail out with
   | no => rw [hc] at h1; simp only [PR.bind, OkE] at h1 ⊢; omega
   | er e' =>
    rw [hc] at h1
    obtain ⟨a, x', g', z', q⟩ := h1
    exact ⟨[], x', g', z', At_Q203_1_step _ _ _ _ _ _ _ _ _ _ ⟨true, _, r_may1 hs hL hi, fun _ => ⟨some e', a, x', g', z', q, rfl, rfl, rfl, rfl⟩, fun hf => absurd rfl hf⟩⟩
   | ok a ts1 out1 =>
    rw [hc] at h1
    obtain ⟨s1, w1, l1, o1, q1⟩ := h1
    simp only [PR.bind]
    have h2 := (ih L hL hT ts1 s1 w1 out1 (by omega) d hd g).manyl e (l ++ [a]) (by simp; omega) h65
    have hb : bigRow (l.length + 1) 8 := by simp only [bigRow]; omega
    cases hl2 : manyL n (d + 1) e (l ++ [a]) ts1 out1 with
    | no => rw [hl2] at h2; simp only [OkE] at h2 ⊢; omega
    | er e' =>
     rw [hl2] at h2
     obtain ⟨b, x', g', z', q⟩ := h2
     exact ⟨b, x', g', z', At_Q203_1_step _ _ _ _ _ _ _ _ _ _ ⟨true, _, r_may1 hs hL hi, fun _ => ⟨none, a, _, _, _, q1, hb, q⟩, fun hf => absurd rfl hf⟩⟩
    | ok b ts2 out2 =>
     rw [hl2] at h2
     obtain ⟨s2, w2, l2, o2, q2⟩ := h2
     exact ⟨s2, w2, by omega, by omega, At_Q203_1_step _ _ _ _ _ _ _ _ _ _ ⟨true, _, r_may1 hs hL hi, fun _ => ⟨none, a, _, _, _, q1, hb, q2⟩, fun hf => absurd rfl hf⟩⟩
 ·rw [if_neg hi]
  have hi0 : isS [44] ts = false := by simpa using hi
  simp only [needS]
  by_cases hi2 : isS e ts = true
  ·rw [if_pos hi2]
   have hlen := len_shift hi2
   exact ⟨suf_shift hs, hw.shift hi2, by omega, by omega, At_Q203_1_step _ _ _ _ _ _ _ _ _ _ ⟨false, _, r_may0 hs hw.ne hi0, fun hf => (by cases hf), fun _ => ⟨none, _, _, _, r_shut1 hs hL hi2 (d := d) (by omega) out g false, rfl, rfl, rfl, rfl, rfl⟩⟩⟩
  ·rw [if_neg hi2]
   obtain ⟨x', g', z', q⟩ := r_shut5 hs hw.ne (by simpa using hi2) (d + 1) out g false
   exact ⟨[], x', g', z', At_Q203_1_step _ _ _ _ _ _ _ _ _ _ ⟨false, _, r_may0 hs hw.ne hi0, fun hf => (by cases hf), fun _ => ⟨some 5, x', g', z', q, rfl, rfl, rfl, rfl⟩⟩⟩
theorem sp_manyn (e : List UInt8) (h65 : d + 1 ≤ 64) : ∀ b ts2 out2, manyS (n + 1) (d + 1) e ts out = .ok b ts2 out2 → b.length ≤ ts.length := by
 intro b ts2 out2 hb
 simp only [manyS] at hb
 by_cases hi : isS e ts = true
 ·rw [if_pos hi] at hb
  cases hb
  simp
 ·rw [if_neg hi] at hb
  have h1 := (ih L hL hT ts hs hw out ho (d + 1) h65 0).expr
  cases hc : exprS n (d + 1) ts out with
  | no => rw [hc] at hb; cases hb
  | er e' => rw [hc] at hb; cases hb
  | ok a ts1 out1 =>
   rw [hc] at hb h1
   obtain ⟨s1, w1, l1, o1, _⟩ := h1
   have := (ih L hL hT ts1 s1 w1 out1 (by omega) d hd 0).manyln e [a] h65 b ts2 out2 hb
   simp at this
   omega
theorem sp_manyln (e : List UInt8) (l : List Int) (h65 : d + 1 ≤ 64) : ∀ b ts2 out2, manyL (n + 1) (d + 1) e l ts out = .ok b ts2 out2 → b.length ≤ l.length + ts.length := by
 intro b ts2 out2 hb
 simp only [manyL] at hb
 by_cases hi : isS [44] ts = true
 ·rw [if_pos hi] at hb
  have hlen := len_shift hi
  have h1 := (ih L hL hT ts.tail (suf_shift hs) (hw.shift hi) out (by omega) (d + 1) h65 0).expr
  cases hc : exprS n (d + 1) ts.tail out with
  | no => rw [hc] at hb; cases hb
  | er e' => rw [hc] at hb; cases hb
  | ok a ts1 out1 =>
   rw [hc] at hb h1
   obtain ⟨s1, w1, l1, o1, _⟩ := h1
   have := (ih L hL hT ts1 s1 w1 out1 (by omega) d hd 0).manyln e (l ++ [a]) h65 b ts2 out2 hb
   simp at this
   omega
 ·rw [if_neg hi] at hb
  simp only [needS] at hb
  split at hb
  ·cases hb; omega
  ·cases hb
omit hs hw ho in
theorem sp_word {t : Token} {ts : List Token} (hs : (t :: ts) <:+ L) (hw : W (t :: ts)) (ho : out.length + (t :: ts).length ≤ 1000000) (hk : t.Kind = 3) : OkE L (t :: ts) out d d g 1 (20 * (t :: ts).length) (n + 1) R_Q201 (primS (n + 1) d (t :: ts) out) := by
 have hk0 : t.Kind ≠ 0 := by rw [hk]; decide
 have hs1 := suf_tail hs
 have hw1 := hw.tail hk0
 have q0 := r_name1 hs hL hk
 have hT1 : t.Text.length + 1 ≤ maxInt := by have := hT t (hs.mem (by simp)); simp only [maxInt]; omega
 simp only [List.length_cons] at ho
 simp only [primS, if_pos hk]
 by_cases h1 : t.Text = [116, 114, 117, 101]
 ·rw [if_pos h1]
  exact ⟨hs1, hw1, by simp, by simp; omega, Q201_tree _ _ _ _ _ _ _ _ ⟨none, _, _, q0, fun _ => ⟨_, _, _, _, r_num _ out _ g 3 1 (by omega), rfl, rfl, rfl, rfl, rfl⟩, fun hf => absurd h1 hf⟩⟩
 rw [if_neg h1]
 by_cases h2 : t.Text = [102, 97, 108, 115, 101]
 ·rw [if_pos h2]
  exact ⟨hs1, hw1, by simp, by simp; omega, Q201_tree _ _ _ _ _ _ _ _ ⟨none, _, _, q0, fun hf => absurd hf h1, fun _ => ⟨fun _ => ⟨_, _, _, _, r_num _ out _ g 3 0 (by omega), rfl, rfl, rfl, rfl, rfl⟩, fun hf => absurd h2 hf⟩⟩⟩
 rw [if_neg h2]
 by_cases hi : isS [46] ts = true
 ·rw [if_pos hi]
  have hlen := len_shift hi
  have hs2 := suf_shift hs1
  have hw2 := hw1.shift hi
  have q1 := r_may1 hs1 hL hi
  cases he : ts.tail with
  | nil => rw [he] at hw2; exact hw2.elim
  | cons u us =>
   rw [he] at hs2 hw2 q1 hlen
   simp only [List.length_cons] at hlen
   have hT2 : t.Text.length + 1 + u.Text.length ≤ maxInt := by have := hT t (hs.mem (by simp)); have := hT u (hs2.mem (by simp)); simp only [maxInt]; omega
   by_cases hu : u.Kind = 3
   ·simp only [if_pos hu]
    have hu0 : u.Kind ≠ 0 := by rw [hu]; decide
    exact ⟨suf_tail hs2, hw2.tail hu0, by simp; omega, by simp; omega, Q201_tree _ _ _ _ _ _ _ _ ⟨none, _, _, q0, fun hf => absurd hf h1, fun _ => ⟨fun hf => absurd hf h2, fun _ => ⟨true, _, q1, fun _ => ⟨hT1, none, _, _, r_name1 hs2 hL hu, hT2, _, _, _, _, r_put _ out _ g false 4 _ [] (by simp) (by omega), rfl, rfl, rfl, rfl, rfl⟩, fun hf => absurd rfl hf⟩⟩⟩⟩
   ·simp only [if_neg hu]
    exact ⟨0, _, _, _, Q201_tree _ _ _ _ _ _ _ _ ⟨none, _, _, q0, fun hf => absurd hf h1, fun _ => ⟨fun hf => absurd hf h2, fun _ => ⟨true, _, q1, fun _ => ⟨hT1, some 5, [], _, r_name0 hs2 hu [], rfl, rfl, rfl, rfl⟩, fun hf => absurd rfl hf⟩⟩⟩⟩
 rw [if_neg hi]
 have hi0 : isS [46] ts = false := by simpa using hi
 have q1 := r_may0 hs1 hw1.ne hi0
 simp only [openS]
 by_cases hp : isS [40] ts = true
 ·rw [if_pos hp]
  have hlen := len_shift hp
  by_cases h64 : 64 ≤ d
  ·rw [if_pos h64]
   obtain ⟨x', g', z', q⟩ := r_open6 hs1 hw1.ne hp h64 out g false
   exact ⟨0, x', g', z', Q201_tree _ _ _ _ _ _ _ _ ⟨none, _, _, q0, fun hf => absurd hf h1, fun _ => ⟨fun hf => absurd hf h2, fun _ => ⟨false, _, q1, fun hf => (by cases hf), fun _ => ⟨some 6, x', g', z', q, rfl, rfl, rfl, rfl⟩⟩⟩⟩⟩
  ·rw [if_neg h64]
   have q2 := r_open1 hs1 hL hp h64 out g false
   have h3 := (ih L hL hT ts.tail (suf_shift hs1) (hw1.shift hp) out (by omega) d hd g).many [41] (by omega)
   cases hb : manyS n (d + 1) [41] ts.tail out with
   | no => rw [hb] at h3; simp only [PR.bind, OkE, List.length_cons] at h3 ⊢; omega
   | er e =>
    rw [hb] at h3
    obtain ⟨b, x', g', z', q3⟩ := h3
    exact ⟨0, x', g', z', Q201_tree _ _ _ _ _ _ _ _ ⟨none, _, _, q0, fun hf => absurd hf h1, fun _ => ⟨fun hf => absurd hf h2, fun _ => ⟨false, _, q1, fun hf => (by cases hf), fun _ => ⟨none, _, _, _, q2, some e, b, x', g', z', q3, rfl, rfl, rfl, rfl⟩⟩⟩⟩⟩
   | ok b ts2 out2 =>
    rw [hb] at h3
    obtain ⟨s2, w2, l2, o2, q3⟩ := h3
    simp only [PR.bind]
    have hbl : b.length ≤ 1000000 := by
     have := (ih L hL hT ts.tail (suf_shift hs1) (hw1.shift hp) out (by omega) d hd g).manyn [41] (by omega) b ts2 out2 hb
     omega
    exact ⟨s2, w2, by simp; omega, by simp; omega, Q201_tree _ _ _ _ _ _ _ _ ⟨none, _, _, q0, fun hf => absurd hf h1, fun _ => ⟨fun hf => absurd hf h2, fun _ => ⟨false, _, q1, fun hf => (by cases hf), fun _ => ⟨none, _, _, _, q2, none, b, _, _, _, q3, _, _, _, _, r_put _ out2 _ g false 5 t.Text b hbl (by omega), rfl, rfl, rfl, rfl, rfl⟩⟩⟩⟩⟩
 ·rw [if_neg hp]
  obtain ⟨x', g', z', q⟩ := r_open5 hs1 hw1.ne (by simpa using hp) d out g false
  exact ⟨0, x', g', z', Q201_tree _ _ _ _ _ _ _ _ ⟨none, _, _, q0, fun hf => absurd hf h1, fun _ => ⟨fun hf => absurd hf h2, fun _ => ⟨false, _, q1, fun hf => (by cases hf), fun _ => ⟨some 5, x', g', z', q, rfl, rfl, rfl, rfl⟩⟩⟩⟩⟩
theorem sp_prim : OkE L ts out d d g 1 (20 * ts.length) (n + 1) R_Q180 (primS (n + 1) d ts out) := by
 cases ts with
 | nil => exact hw.elim
 | cons t ts =>
  by_cases hk : t.Kind = 3
  ·have h := sp_word ih hL hT hd g hs hw ho hk
   cases hc : primS (n + 1) d (t :: ts) out with
   | no => rw [hc] at h; exact h
   | er e =>
    rw [hc] at h
    obtain ⟨a, x', g', z', q⟩ := h
    exact ⟨a, x', g', z', Q180_tree _ _ _ _ _ _ _ _ ⟨t, _, r_now hs, fun _ => ⟨some e, a, x', g', z', q, rfl, rfl, rfl, rfl⟩, fun hf => absurd hk hf⟩⟩
   | ok a ts1 out1 =>
    rw [hc] at h
    obtain ⟨s1, w1, l1, o1, q⟩ := h
    exact ⟨s1, w1, l1, o1, Q180_tree _ _ _ _ _ _ _ _ ⟨t, _, r_now hs, fun _ => ⟨none, a, _, _, _, q, rfl, rfl, rfl, rfl, rfl⟩, fun hf => absurd hk hf⟩⟩
  ·have hI : I64 ((pt L (t :: ts)).pos + 1) := by simp only [pt, I64]; omega
   have ho1 : out.length ≤ 1000000 := by omega
   have hlc : (t :: ts).length = ts.length + 1 := rfl
   simp only [primS, if_neg hk]
   by_cases h1 : t.Kind = 1
   ·rw [if_pos h1]
    have hk0 : t.Kind ≠ 0 := by rw [h1]; decide
    refine ⟨suf_tail hs, hw.tail hk0, by simp, by simp; omega, Q180_tree _ _ _ _ _ _ _ _ ⟨t, _, r_now hs, fun hf => absurd hf hk, fun _ => ⟨fun _ => ⟨hI, _, _, _, _, r_num _ out _ g 1 t.Num ho1, rfl, rfl, ?_, rfl, rfl⟩, fun hf => absurd h1 hf⟩⟩⟩
    rw [pt_next hs]
    rfl
   rw [if_neg h1]
   by_cases h2 : t.Kind = 2
   ·rw [if_pos h2]
    have hk0 : t.Kind ≠ 0 := by rw [h2]; decide
    refine ⟨suf_tail hs, hw.tail hk0, by simp, by simp; omega, Q180_tree _ _ _ _ _ _ _ _ ⟨t, _, r_now hs, fun hf => absurd hf hk, fun _ => ⟨fun hf => absurd hf h1, fun _ => ⟨fun _ => ⟨hI, _, _, _, _, r_put _ out _ g false 2 [] [] (by simp) ho1, by omega, by simp, rfl, nd 2 [] [], by simp, rfl, rfl, ?_, rfl, rfl⟩, fun hf => absurd h2 hf⟩⟩⟩⟩
    rw [pt_next hs]
    simp [pe, nd]
   rw [if_neg h2]
   by_cases hi : isS [91] (t :: ts) = true
   ·rw [if_pos hi]
    simp only [openS, if_pos hi]
    have hlen := len_shift hi
    by_cases h64 : 64 ≤ d
    ·rw [if_pos h64]
     obtain ⟨x', g', z', q⟩ := r_open6 hs hw.ne hi h64 out g false
     exact ⟨0, x', g', z', Q180_tree _ _ _ _ _ _ _ _ ⟨t, _, r_now hs, fun hf => absurd hf hk, fun _ => ⟨fun hf => absurd hf h1, fun _ => ⟨fun hf => absurd hf h2, fun _ => ⟨true, _, r_is1 hs hi, fun _ => ⟨some 6, x', g', z', q, rfl, rfl, rfl, rfl⟩, fun hf => absurd rfl hf⟩⟩⟩⟩⟩
    ·rw [if_neg h64]
     have q2 := r_open1 hs hL hi h64 out g false
     have h3 := (ih L hL hT (t :: ts).tail (suf_shift hs) (hw.shift hi) out (by omega) d hd g).many [93] (by omega)
     cases hb : manyS n (d + 1) [93] (t :: ts).tail out with
     | no => rw [hb] at h3; simp only [PR.bind, OkE] at h3 ⊢; omega
     | er e =>
      rw [hb] at h3
      obtain ⟨b, x', g', z', q3⟩ := h3
      exact ⟨0, x', g', z', Q180_tree _ _ _ _ _ _ _ _ ⟨t, _, r_now hs, fun hf => absurd hf hk, fun _ => ⟨fun hf => absurd hf h1, fun _ => ⟨fun hf => absurd hf h2, fun _ => ⟨true, _, r_is1 hs hi, fun _ => ⟨none, _, _, _, q2, some e, b, x', g', z', q3, rfl, rfl, rfl, rfl⟩, fun hf => absurd rfl hf⟩⟩⟩⟩⟩
     | ok b ts2 out2 =>
      have hbl : b.length ≤ 1000000 := by
       have := (ih L hL hT (t :: ts).tail (suf_shift hs) (hw.shift hi) out (by omega) d hd 0).manyn [93] (by omega) b ts2 out2 hb
       omega
      rw [hb] at h3
      obtain ⟨s2, w2, l2, o2, q3⟩ := h3
      simp only [PR.bind]
      exact ⟨s2, w2, by omega, by simp only [List.length_append, List.length_cons, List.length_nil] at *; omega, Q180_tree _ _ _ _ _ _ _ _ ⟨t, _, r_now hs, fun hf => absurd hf hk, fun _ => ⟨fun hf => absurd hf h1, fun _ => ⟨fun hf => absurd hf h2, fun _ => ⟨true, _, r_is1 hs hi, fun _ => ⟨none, _, _, _, q2, none, b, _, _, _, q3, _, _, _, _, r_put _ out2 _ g false 6 [] b hbl (by omega), rfl, rfl, rfl, rfl, rfl⟩, fun hf => absurd rfl hf⟩⟩⟩⟩⟩
   ·rw [if_neg hi]
    have hi0 : isS [91] (t :: ts) = false := by simpa using hi
    simp only [openS]
    by_cases hp : isS [40] (t :: ts) = true
    ·rw [if_pos hp]
     have hlen := len_shift hp
     by_cases h64 : 64 ≤ d
     ·rw [if_pos h64]
      obtain ⟨x', g', z', q⟩ := r_open6 hs hw.ne hp h64 out g false
      exact ⟨0, x', g', z', Q180_tree _ _ _ _ _ _ _ _ ⟨t, _, r_now hs, fun hf => absurd hf hk, fun _ => ⟨fun hf => absurd hf h1, fun _ => ⟨fun hf => absurd hf h2, fun _ => ⟨false, _, r_is0 hs hw.ne hi0, fun hf => (by cases hf), fun _ => ⟨some 6, x', g', z', q, rfl, rfl, rfl, rfl⟩⟩⟩⟩⟩⟩
     ·rw [if_neg h64]
      have q2 := r_open1 hs hL hp h64 out g false
      have h3 := (ih L hL hT (t :: ts).tail (suf_shift hs) (hw.shift hp) out (by omega) (d + 1) (by omega) g).expr
      cases hb : exprS n (d + 1) (t :: ts).tail out with
      | no => rw [hb] at h3; simp only [PR.bind, OkE] at h3 ⊢; omega
      | er e =>
       rw [hb] at h3
       obtain ⟨b, x', g', z', q3⟩ := h3
       exact ⟨0, x', g', z', Q180_tree _ _ _ _ _ _ _ _ ⟨t, _, r_now hs, fun hf => absurd hf hk, fun _ => ⟨fun hf => absurd hf h1, fun _ => ⟨fun hf => absurd hf h2, fun _ => ⟨false, _, r_is0 hs hw.ne hi0, fun hf => (by cases hf), fun _ => ⟨none, _, _, _, q2, some e, b, x', g', z', q3, rfl, rfl, rfl, rfl⟩⟩⟩⟩⟩⟩
      | ok b ts2 out2 =>
       rw [hb] at h3
       obtain ⟨s2, w2, l2, o2, q3⟩ := h3
       simp only [PR.bind, needS]
       by_cases hi2 : isS [41] ts2 = true
       ·rw [if_pos hi2]
        have hlen2 := len_shift hi2
        exact ⟨suf_shift s2, w2.shift hi2, by omega, by omega, Q180_tree _ _ _ _ _ _ _ _ ⟨t, _, r_now hs, fun hf => absurd hf hk, fun _ => ⟨fun hf => absurd hf h1, fun _ => ⟨fun hf => absurd hf h2, fun _ => ⟨false, _, r_is0 hs hw.ne hi0, fun hf => (by cases hf), fun _ => ⟨none, _, _, _, q2, none, b, _, _, _, q3, none, _, _, _, r_shut1 s2 hL hi2 (d := d) (by omega) out2 g false, rfl, rfl, rfl, rfl, rfl⟩⟩⟩⟩⟩⟩
       ·rw [if_neg hi2]
        obtain ⟨x', g', z', q⟩ := r_shut5 s2 w2.ne (by simpa using hi2) (d + 1) out2 g false
        exact ⟨0, x', g', z', Q180_tree _ _ _ _ _ _ _ _ ⟨t, _, r_now hs, fun hf => absurd hf hk, fun _ => ⟨fun hf => absurd hf h1, fun _ => ⟨fun hf => absurd hf h2, fun _ => ⟨false, _, r_is0 hs hw.ne hi0, fun hf => (by cases hf), fun _ => ⟨none, _, _, _, q2, none, b, _, _, _, q3, some 5, x', g', z', q, rfl, rfl, rfl, rfl⟩⟩⟩⟩⟩⟩
    ·rw [if_neg hp]
     obtain ⟨x', g', z', q⟩ := r_open5 hs hw.ne (by simpa using hp) d out g false
     exact ⟨0, x', g', z', Q180_tree _ _ _ _ _ _ _ _ ⟨t, _, r_now hs, fun hf => absurd hf hk, fun _ => ⟨fun hf => absurd hf h1, fun _ => ⟨fun hf => absurd hf h2, fun _ => ⟨false, _, r_is0 hs hw.ne hi0, fun hf => (by cases hf), fun _ => ⟨some 5, x', g', z', q, rfl, rfl, rfl, rfl⟩⟩⟩⟩⟩⟩
end
theorem sp_all : ∀ n, SpA n
 | 0 => sp_zero
 | n + 1 => fun L hL hT ts hs hw out ho d hd g =>
  have ih := sp_all n
  ⟨sp_expr ih hL hT hs hw ho hd g, sp_chain ih hL hT hs hw ho hd g, sp_loop ih hL hT hs hw ho hd g, sp_un ih hL hT hs hw ho hd g, sp_post ih hL hT hs hw ho hd g, sp_postl ih hL hT hs hw ho hd g, sp_many ih hL hT hs hw ho hd g, sp_manyl ih hL hT hs hw ho hd g, sp_prim ih hL hT hs hw ho hd g, sp_manyn ih hL hT hs hw ho hd, sp_manyln ih hL hT hs hw ho hd⟩
theorem sp_Q37 : SP 37 = some (.code sc_Q37) := SPof_code rfl Tryz.func37 comp_Q37
def At_Q37_1 (b1 : PBlocks) (g2 : Nat) (z3 : Bool) (c0_4 : List Block) (g5 : Nat) (z6 : Bool) (o : Option Int) (b' : PBlocks) (b'_g2 : Nat) (b'_z2 : Bool) (c0_' : List Block) (c0_'_g0 : Nat) (c0_'_z0 : Bool) : Prop := ∀ (S : Sto) (e : Nat → PV) (f : Fr) (n0 t0 : Nat) (n1 t1 : Nat), ((getBox S n0 t0).map (List.take 4) = some [.list 5 (b1.exprs.tokens.l.map eToken) false, .int .i64 b1.exprs.tokens.pos, .sl 0 (.cell t0 2) 0 b1.exprs.out.length b1.exprs.out.length g2 false, .int .i64 b1.exprs.deep] ∧ getArr S n0 (.cell t0 2) = some ⟨5, b1.exprs.out.map eNode, z3, g2⟩) → ((getBox S n1 t1).map (List.take 1) = some [.sl 0 (.cell t1 0) 0 c0_4.length c0_4.length g5 false] ∧ getArr S n1 (.cell t1 0) = some ⟨4, c0_4.map eBlock, z6, g5⟩) → (n0 ≠ n1) → e 0 = .ptr (n0 + 1) t0 0 ∧ e 1 = .ptr (n1 + 1) t1 0 → k_Q37_1 SP (E SP (.loop b_Q37_1) ⟨e, f :: S⟩) = po 116 o (.v (.tup [])) (setArr (setBox (setArr (setBox S n0 t0 ([.list 5 (b'.exprs.tokens.l.map eToken) false, .int .i64 b'.exprs.tokens.pos, .sl 0 (.cell t0 2) 0 b'.exprs.out.length b'.exprs.out.length b'_g2 false, .int .i64 b'.exprs.deep] ++ ((getBox S n0 t0).getD []).drop 4)) n0 (.cell t0 2) ⟨5, b'.exprs.out.map eNode, b'_z2, b'_g2⟩) n1 t1 ([.sl 0 (.cell t1 0) 0 c0_'.length c0_'.length c0_'_g0 false] ++ ((getBox (setArr (setBox S n0 t0 ([.list 5 (b'.exprs.tokens.l.map eToken) false, .int .i64 b'.exprs.tokens.pos, .sl 0 (.cell t0 2) 0 b'.exprs.out.length b'.exprs.out.length b'_g2 false, .int .i64 b'.exprs.deep] ++ ((getBox S n0 t0).getD []).drop 4)) n0 (.cell t0 2) ⟨5, b'.exprs.out.map eNode, b'_z2, b'_g2⟩) n1 t1).getD []).drop 1)) n1 (.cell t1 0) ⟨4, c0_'.map eBlock, c0_'_z0, c0_'_g0⟩)
theorem At_Q37_1_step (b1 : PBlocks) (g2 : Nat) (z3 : Bool) (c0_4 : List Block) (g5 : Nat) (z6 : Bool) (o : Option Int) (b' : PBlocks) (b'_g2 : Nat) (b'_z2 : Bool) (c0_' : List Block) (c0_'_g0 : Nat) (c0_'_z0 : Bool) (T :
  ∃ (r7 : Token) (y8 : PTokens), (R_Q38 b1.exprs.tokens r7 y8) ∧
 ((r7.Kind = 0) →
  none = o ∧ (PBlocks.mk (PExprs.mk y8 b1.exprs.out b1.exprs.deep)) = b' ∧ g2 = b'_g2 ∧ z3 = b'_z2 ∧ c0_4 = c0_' ∧ g5 = c0_'_g0 ∧ z6 = c0_'_z0) ∧
 (¬ (r7.Kind = 0) →
  ∃ (o10 : Option Int) (r9 : Block) (y11 : PBlocks) (g12 : Nat) (z13 : Bool), (R_Q39 (PBlocks.mk (PExprs.mk y8 b1.exprs.out b1.exprs.deep)) g2 z3 false o10 r9 y11 g12 z13) ∧
  (match o10 with
  | none => ((bigRow (c0_4.length + 1) 72) ∧
   (c0_4.length < c0_4.length + 1) ∧
   (z6 = false) ∧
   ∃ (v15 : Block), ((c0_4 ++ [(Block.mk 0 [] [] [])])[c0_4.length]? = some v15) ∧
   At_Q37_1 y11 g12 z13 ((c0_4 ++ [(Block.mk 0 [] [] [])]).set c0_4.length r9) g5 z6 o b' b'_g2 b'_z2 c0_' c0_'_g0 c0_'_z0)
  | some e14 => (some e14 = o ∧ y11 = b' ∧ g12 = b'_g2 ∧ z13 = b'_z2 ∧ c0_4 = c0_' ∧ g5 = c0_'_g0 ∧ z6 = c0_'_z0)))) : At_Q37_1 b1 g2 z3 c0_4 g5 z6 o b' b'_g2 b'_z2 c0_' c0_'_g0 c0_'_z0 := by
 intro S e f n0 t0 n1 t1 H0 H1 Hn h
 obtain ⟨hb0, ha0⟩ := H0
 have hne := two_ne Hn
 obtain ⟨w0, hB0⟩ := take_some hb0
 have hn0 := o_getBox_lt hB0
 obtain ⟨hb1, ha1⟩ := H1
 obtain ⟨w1, hB1⟩ := take_some hb1
 have hn1 := o_getBox_lt hB1
 unfold k_Q37_1
 rw [E_loop]
 have F := U_Q37
 obtain ⟨r7, y8, q1, T⟩ := T
 simp only [R_Q38, le, List.cons_append, List.nil_append] at q1
 replace F := aa ha0 <| aa hne <| aa hB0 <| aa hn0 <| aa ha1 <| aa hB1 <| aa hn1 <| aa h <| aa q1 <| F
 by_cases c2 : r7.Kind = 0
 · replace T := T.1 c2
   obtain ⟨rfl, rfl, rfl, rfl, rfl, rfl, rfl⟩ := T
   exact fi (aa (eq_true c2) <| F)
 · replace T := T.2 c2
   obtain ⟨o10, r9, y11, g12, z13, q3, T⟩ := T
   simp only [R_Q39, le, List.cons_append, List.nil_append] at q3
   replace F := aa (eq_false c2) <| aa q3 <| F
   cases o10 with
   | none =>
     dsimp only at T
     obtain ⟨p4, p5, p6, v15, q7, T⟩ := T
     simp only [bigRow] at p4
     replace q7 := congrArg (Option.map eBlock) q7
     rw [← List.getElem?_map] at q7
     simp only [le, List.map_append, Option.map_some] at q7
     replace F := aa p4 <| aa p5 <| aa p6 <| aa q7 <| F
     try simp only [F, lw, lx, le, Nat.reduceMul, UInt8.reduceToNat, reduceIte, reduceCtorEq, Nat.reduceEqDiff, Nat.reduceAdd, Nat.reduceLeDiff, Nat.reduceSub, Nat.reduceLT, Int.reduceEq, Int.reduceLT, Int.reduceLE, Int.reduceToNat, Int.reduceAdd, Int.reduceSub, Int.reduceMul, Int.reduceNeg]
     refine (T _ _ _ n0 t0 n1 t1 ?_ ?_ Hn ?_).trans ?_
     all_goals exact fi F
   | some e14 =>
     dsimp only at T
     obtain ⟨rfl, rfl, rfl, rfl, rfl, rfl, rfl⟩ := T
     exact fi F
theorem Q37_tree (b : PBlocks) (b_g2 : Nat) (b_z2 : Bool) (c0_ : List Block) (c0__g0 : Nat) (c0__z0 : Bool) (o : Option Int) (b' : PBlocks) (b'_g2 : Nat) (b'_z2 : Bool) (c0_' : List Block) (c0_'_g0 : Nat) (c0_'_z0 : Bool) (T :
  At_Q37_1 b b_g2 b_z2 c0_ c0__g0 c0__z0 o b' b'_g2 b'_z2 c0_' c0_'_g0 c0_'_z0) : R_Q37 b b_g2 b_z2 c0_ c0__g0 c0__z0 o b' b'_g2 b'_z2 c0_' c0_'_g0 c0_'_z0 := by
 intro S n0 t0 n1 t1 H0 H1 Hn
 obtain ⟨hb0, ha0⟩ := H0
 have hne := two_ne Hn
 obtain ⟨w0, hB0⟩ := take_some hb0
 have hn0 := o_getBox_lt hB0
 obtain ⟨hb1, ha1⟩ := H1
 obtain ⟨w1, hB1⟩ := take_some hb1
 have hn1 := o_getBox_lt hB1
 rw [call_code sp_Q37 _ _ rfl]
 have F := U_Q37
 replace F := aa ha0 <| aa hne <| aa hB0 <| aa hn0 <| aa ha1 <| aa hB1 <| aa hn1 <| F
 try simp only [F, lw, lx, le, Nat.reduceMul, UInt8.reduceToNat, reduceIte, reduceCtorEq, Nat.reduceEqDiff, Nat.reduceAdd, Nat.reduceLeDiff, Nat.reduceSub, Nat.reduceLT, Int.reduceEq, Int.reduceLT, Int.reduceLE, Int.reduceToNat, Int.reduceAdd, Int.reduceSub, Int.reduceMul, Int.reduceNeg]
 refine (T _ _ _ n0 t0 n1 t1 ?_ ?_ Hn ?_).trans ?_
 all_goals exact fi F
theorem recB_nor {r : RecF} {ops post : Ac → EO} {ac : Ac} : recB r ops post (.nor ac) = recA r (ac.e r.t0 = .ptr 0 r.t0 0) post (ops (ac.put (some r.d) .junk)) := rfl
theorem recB_ret {r : RecF} {ops post : Ac → EO} {ac : Ac} : recB r ops post (.ret ac) = retOf r.res ac := rfl
theorem recA_nor {r : RecF} {b : Prop} {post : Ac → EO} {ac : Ac} : recA r b post (.nor ac) = recC r.res (post ac) := rfl
theorem recA_pan {r : RecF} {b : Prop} {post : Ac → EO} {v : PV} {S : Sto} : recA r b post (.pan v S) = recV r b v S := rfl
theorem recC_nor {res : List RX} {ac : Ac} : recC res (.nor ac) = retOf res ac := rfl
theorem recC_ret {res : List RX} {ac : Ac} : recC res (.ret ac) = retOf res ac := rfl
theorem recV_eq {r : RecF} {b : Prop} {t : Nat} {k : IntKind} {n : Int} {S : Sto} : recV r b (.iface t (.int k n)) S = if b ∧ t = r.T then (match storeP S 1 (.ptr 0 r.t0 0) (.int k n) with | some S => retOf r.res ⟨upd (fun _ => .junk) r.t0 (.ptr 0 r.t0 0), S⟩ | none => .bad) else .bad := rfl
def pb0 (L : List Token) : PBlocks := .mk (.mk (.mk L 0) [] 0)
theorem rd_no {s : List UInt8} {L : List Token} {e : Int} (hl : R_Q60 s L e) (he : ¬ e = 0) (c : PV) (hc : PV.dn c.up = some c) (g : Nat) (S : Sto) : call SP 36 [.str s, .func g [c]] S = .ok (.v (.int .i64 e)) S := by
 rw [call_rec sp_Q36 _ _ rfl]
 simp only [R_Q60] at hl
 have F := aa hl <| aa (eq_false he) <| aa @recB_nor <| aa @recB_ret <| aa @recA_nor <| aa @recA_pan <| aa @recC_nor <| aa @recC_ret <| aa @recV_eq <| rcv_Q36.eq_1
 exact fi F
theorem rd_Parse {s : List UInt8} {L : List Token} (hl : R_Q60 s L 0) {t g : Nat} {f : Fr} {S : Sto} (hb : f.box t = some [.sl 0 (.cell t 0) 0 0 0 g false]) (ha : f.arr (.cell t 0) = some ⟨4, [], false, g⟩) {o : Option Int} {b' : PBlocks} {bg : Nat} {bz : Bool} {l : List Block} {lg : Nat} {lz : Bool}
  (hc : R_Q37 (pb0 L) 0 false [] g false o b' bg bz l lg lz) :
  call SP 36 [.str s, .func 37 [.ptr 0 t 0]] (f :: S) = .ok (.v (.int .i64 (o.getD 0))) (setArr (setBox (f :: S) 0 t [.sl 0 (.cell t 0) 0 l.length l.length lg false]) 0 (.cell t 0) ⟨4, l.map eBlock, lz, lg⟩) := by
 rw [call_rec sp_Q36 _ _ rfl]
 simp only [R_Q60] at hl
 simp only [R_Q37, pb0, le, List.cons_append, List.nil_append] at hc
 have F := aa hl <| aa hb <| aa ha <| aa hc <| aa @recB_nor <| aa @recB_ret <| aa @recA_nor <| aa @recA_pan <| aa @recC_nor <| aa @recC_ret <| aa @recV_eq <| rcv_Q36.eq_1
 cases o with
 | none => exact fi F
 | some e => exact fi F
theorem sp_Q17 : SP 17 = some (.code sc_Q17) := SPof_code rfl Tryz.func17 comp_Q17
theorem r_Parse_no {s : List UInt8} {L : List Token} {e : Int} (hl : R_Q60 s L e) (he : ¬ e = 0) : R_Q17 s [] e := by
 intro S
 have h := fun S => rd_no hl he (.ptr 0 4 0) rfl 37 S
 rw [call_code sp_Q17 _ _ rfl]
 exact fi (aa h <| aa (eq_false he) <| U_Q17)
theorem r_Parse_of {s : List UInt8} {L : List Token} (hl : R_Q60 s L 0) {o : Option Int} {b' : PBlocks} {bg : Nat} {bz : Bool} {l : List Block} {lg : Nat} {lz : Bool}
  (hc : R_Q37 (pb0 L) 0 false [] 0 false o b' bg bz l lg lz) : R_Q17 s (if o.getD 0 = 0 then l else []) (o.getD 0) := by
 intro S
 have h := fun (f : Fr) (h1 : f.box 4 = some [.sl 0 (.cell 4 0) 0 0 0 0 false]) (h2 : f.arr (.cell 4 0) = some ⟨4, [], false, 0⟩) => rd_Parse (S := S) hl h1 h2 hc
 rw [call_code sp_Q17 _ _ rfl]
 by_cases he : o.getD 0 = 0
 ·exact fi (aa h <| aa he <| U_Q17)
 ·exact fi (aa h <| aa (eq_false he) <| U_Q17)
def wholeS (N : Nat) (ts : List Token) : PR (List Node) :=
 match exprS N 0 ts [] with
 | .ok _ ts out => .ok out ts []
 | .er e => .er e
 | .no => .no
def labS (lab : List UInt8 → Bool) : List Token → PR (List UInt8)
 | [] => .no
 | t :: ts => if t.Kind = 2 then (match t.Parts with | [p] => if p.Ref = true then .er 5 else if lab p.Text = true then .ok p.Text ts [] else .er 5 | _ => .er 5) else .er 5
def attrsS (N : Nat) : Nat → List Attr → List Token → PR (List Attr)
 | 0, _, _ => .no
 | _ + 1, _, [] => .no
 | n + 1, acc, t :: ts =>
  if isS [125] (t :: ts) = true then .ok acc ts []
  else if t.Kind = 3 then
   if acc.any (fun a => decide (a.Name = t.Text)) = true then .er 3
   else needS [61] ts fun ts => (wholeS N ts).bind fun nodes ts _ => attrsS N n (acc ++ [⟨t.Text, nodes⟩]) ts
  else .er 5
def bodyS (N : Nat) (ts : List Token) : PR (List Attr) := needS [123] ts fun ts => attrsS N N [] ts
def wordsS : List (List UInt8) := [[118, 97, 114, 105, 97, 98, 108, 101], [108, 111, 99, 97, 108, 115], [110, 111, 100, 101], [109, 111, 100, 117, 108, 101], [100, 101, 102, 105, 110, 101]]
def plainS (lab : List UInt8 → Bool) (N i : Nat) (ts : List Token) : PR Block :=
 if i = 1 then (bodyS N ts).bind fun as_ ts _ => .ok ⟨2, [], as_, []⟩ ts []
 else (labS lab ts).bind fun l ts _ => (bodyS N ts).bind fun as_ ts _ => .ok ⟨1 + (i : Int), l, as_, []⟩ ts []
def blkIn (lab : List UInt8 → Bool) (N : Nat) : List Token → PR Block
 | [] => .no
 | t :: ts => if t.Kind = 3 then (match idxS t.Text wordsS 0 with | none => .er 5 | some i => if i = 4 then .er 5 else plainS lab N i ts) else .er 5
def blksS (lab : List UInt8 → Bool) (N : Nat) : Nat → List Block → List Token → PR (List Block)
 | 0, _, _ => .no
 | n + 1, acc, ts => if isS [125] ts = true then .ok acc ts.tail [] else (blkIn lab N ts).bind fun b ts _ => blksS lab N n (acc ++ [b]) ts
def blkS (lab : List UInt8 → Bool) (N : Nat) : List Token → PR Block
 | [] => .no
 | t :: ts => if t.Kind = 3 then (match idxS t.Text wordsS 0 with | none => .er 5 | some i => if i = 4 then (labS lab ts).bind fun l ts _ => needS [123] ts fun ts => (blksS lab N N [] ts).bind fun bs ts _ => .ok ⟨5, l, [], bs⟩ ts [] else plainS lab N i ts) else .er 5
def confS (lab : List UInt8 → Bool) (N : Nat) : Nat → List Block → List Token → PR (List Block)
 | 0, _, _ => .no
 | _ + 1, _, [] => .no
 | n + 1, acc, t :: ts => if t.Kind = 0 then .ok acc (t :: ts) [] else (blkS lab N (t :: ts)).bind fun b ts _ => confS lab N n (acc ++ [b]) ts
structure TL (L : List Token) : Prop where
 len : L.length ≤ 1000000
 text : ∀ t ∈ L, t.Text.length ≤ 1000000
 part : ∀ t ∈ L, ∀ p ∈ t.Parts, p.Text.length ≤ 1000000
def pb (L ts : List Token) (out : List Node) : PBlocks := ⟨pe L ts out 0⟩
def OkP {α : Type} (L ts : List Token) (c : Nat) (R : PBlocks → Nat → Bool → Option Int → α → PBlocks → Nat → Bool → Prop) : PR α → Prop
 | .ok a ts' _ => ts' <:+ L ∧ W ts' ∧ ts'.length + c ≤ ts.length ∧ ∀ out g z, ∃ out' g' z', R (pb L ts out) g z none a (pb L ts' out') g' z'
 | .er e => ∀ out g z, ∃ a x' g' z', R (pb L ts out) g z (some e) a x' g' z'
 | .no => False
section
variable {L ts : List Token} (hT : TL L) (hs : ts <:+ L) (hw : W ts)
include hT hs hw
theorem r_whole {N : Nat} (hN : 20 * ts.length + 10 ≤ N) : match wholeS N ts with
  | .ok nodes ts' _ => ts' <:+ L ∧ W ts' ∧ ts'.length + 1 ≤ ts.length ∧ ∀ out g z, ∃ g' z', R_Q41 (pe L ts out 0) g z none nodes (pe L ts' nodes 0) g' z'
  | .er e => ∀ out g z, ∃ a x' g' z', R_Q41 (pe L ts out 0) g z (some e) a x' g' z'
  | .no => False := by
 have h := fun g => (sp_all N L hT.len hT.text ts hs hw [] (by have := suf_len hs; have := hT.len; simp; omega) 0 (by omega) g).expr
 simp only [wholeS]
 cases hc : exprS N 0 ts [] with
 | no => have := h 0; rw [hc] at this; simp only [OkE] at this; omega
 | er e =>
  intro out g z
  have := h (g + 1)
  rw [hc] at this
  obtain ⟨a, x', g', z', q⟩ := this
  exact ⟨[], x', g', z', Q41_tree _ _ _ _ _ _ _ _ ⟨some e, a, x', g', z', q, rfl, rfl, rfl, rfl⟩⟩
 | ok a ts1 out1 =>
  have h0 := h 0
  rw [hc] at h0
  obtain ⟨s1, w1, l1, o1, _⟩ := h0
  refine ⟨s1, w1, l1, fun out g z => ?_⟩
  have := h (g + 1)
  rw [hc] at this
  obtain ⟨_, _, _, _, q⟩ := this
  exact ⟨_, _, Q41_tree _ _ _ _ _ _ _ _ ⟨none, a, _, _, _, q, rfl, rfl, rfl, rfl, rfl⟩⟩
theorem r_lab {lab : List UInt8 → Bool} (hl : ∀ s, s.length ≤ 1000000 → R_Q81 s (lab s)) : OkP L ts 1 R_Q64 (labS lab ts) := by
 cases ts with
 | nil => exact hw.elim
 | cons t ts =>
  have hI : I64 ((pt L (t :: ts)).pos + 1) := by have := suf_len hs; have := hT.len; simp only [pt, I64]; omega
  simp only [labS]
  by_cases h2 : t.Kind = 2
  ·rw [if_pos h2]
   have hk0 : t.Kind ≠ 0 := by rw [h2]; decide
   match hp : t.Parts with
   | [] => exact fun out g z => ⟨[], _, _, _, Q64_tree _ _ _ _ _ _ _ _ ⟨t, _, r_now hs, fun _ => ⟨fun hf => absurd hf (by rw [hp]; decide), fun _ => ⟨_, _, r_fail _ _, rfl, rfl, rfl, rfl⟩⟩, fun hf => absurd h2 hf⟩⟩
   | p :: q :: l => exact fun out g z => ⟨[], _, _, _, Q64_tree _ _ _ _ _ _ _ _ ⟨t, _, r_now hs, fun _ => ⟨fun hf => absurd hf (by rw [hp]; simp only [List.length_cons]; omega), fun _ => ⟨_, _, r_fail _ _, rfl, rfl, rfl, rfl⟩⟩, fun hf => absurd h2 hf⟩⟩
   | [p] =>
    have h1 : ((t.Parts.length : Nat) : Int) = 1 := by rw [hp]; rfl
    have hg : t.Parts[0]? = some p := by rw [hp]; rfl
    simp only
    by_cases hr : p.Ref = true
    ·rw [if_pos hr]
     exact fun out g z => ⟨[], _, _, _, Q64_tree _ _ _ _ _ _ _ _ ⟨t, _, r_now hs, fun _ => ⟨fun _ => ⟨p, hg, fun _ => ⟨_, _, r_fail _ _, rfl, rfl, rfl, rfl⟩, fun hf => absurd hr hf⟩, fun hf => absurd h1 hf⟩, fun hf => absurd h2 hf⟩⟩
    ·rw [if_neg hr]
     have hlb := hl p.Text (hT.part t (hs.mem (by simp)) p (by rw [hp]; simp))
     by_cases hb : lab p.Text = true
     ·rw [if_pos hb]
      rw [hb] at hlb
      refine ⟨suf_tail hs, hw.tail hk0, by simp, fun out g z => ⟨out, g, z, Q64_tree _ _ _ _ _ _ _ _ ⟨t, _, r_now hs, fun _ => ⟨fun _ => ⟨p, hg, fun hf => absurd hf hr, fun _ => ⟨true, hlb, fun _ => ⟨hI, rfl, rfl, ?_, rfl, rfl⟩, fun hf => absurd rfl hf⟩⟩, fun hf => absurd h1 hf⟩, fun hf => absurd h2 hf⟩⟩⟩
      rw [pt_next hs]
      rfl
     ·rw [if_neg hb]
      rw [show lab p.Text = false by simpa using hb] at hlb
      exact fun out g z => ⟨[], _, _, _, Q64_tree _ _ _ _ _ _ _ _ ⟨t, _, r_now hs, fun _ => ⟨fun _ => ⟨p, hg, fun hf => absurd hf hr, fun _ => ⟨false, hlb, fun hf => (by cases hf), fun _ => ⟨_, _, r_fail _ _, rfl, rfl, rfl, rfl⟩⟩⟩, fun hf => absurd h1 hf⟩, fun hf => absurd h2 hf⟩⟩
  ·rw [if_neg h2]
   exact fun out g z => ⟨[], _, _, _, Q64_tree _ _ _ _ _ _ _ _ ⟨t, _, r_now hs, fun hf => absurd hf h2, fun _ => ⟨_, _, r_fail _ _, rfl, rfl, rfl, rfl⟩⟩⟩
end
theorem r_attrs_b {L : List Token} (hT : TL L) {N : Nat} (hN : 20 * L.length + 10 ≤ N) : ∀ (n : Nat) (acc : List Attr) (ts : List Token), ts <:+ L → W ts → ts.length < n → acc.length + ts.length ≤ 1000000 → OkP L ts 0 (At_Q65_1b acc) (attrsS N n acc ts)
 | 0, _, _, _, _, h, _ => absurd h (Nat.not_lt_zero _)
 | n + 1, acc, ts, hs, hw, hn, hal => by
  cases ts with
  | nil => exact hw.elim
  | cons t ts =>
   have hlc : (t :: ts).length = ts.length + 1 := rfl
   have hll := suf_len hs
   have hLl := hT.len
   simp only [attrsS]
   by_cases hi : isS [125] (t :: ts) = true
   ·rw [if_pos hi]
    have hw1 := hw.shift hi
    exact ⟨suf_tail hs, hw1, by omega, fun out g z => ⟨_, _, _, At_Q65_1b_step _ _ _ _ _ _ _ _ _ ⟨true, _, r_may1 hs hT.len hi, fun _ => ⟨rfl, rfl, rfl, rfl, rfl⟩, fun hf => absurd rfl hf⟩⟩⟩
   rw [if_neg hi]
   have q0 := r_may0 hs (by simp) (show isS [125] (t :: ts) = false by simpa using hi)
   by_cases hk : t.Kind = 3
   ·rw [if_pos hk]
    have hk0 : t.Kind ≠ 0 := by rw [hk]; decide
    have hcl : ∀ x, x ∈ acc → R_Q100 x t.Text (decide (x.Name = t.Text)) := fun x _ => Q100_tree _ _ _ rfl
    have hal : acc.length < 9223372036854775808 := by omega
    by_cases ha : acc.any (fun a => decide (a.Name = t.Text)) = true
    ·rw [if_pos ha]
     exact fun out g z => ⟨[], _, _, _, At_Q65_1b_step _ _ _ _ _ _ _ _ _ ⟨false, _, q0, fun hf => (by cases hf), fun _ => ⟨t, _, r_now hs, t, _, r_now hs, fun _ => ⟨hal, _, hcl, fun _ => ⟨_, _, r_fail _ _, rfl, rfl, rfl, rfl⟩, fun hf => absurd ha hf⟩, fun hf => absurd hk hf⟩⟩⟩
    rw [if_neg ha]
    have hs1 := suf_tail hs
    have hw1 := hw.tail hk0
    have q1 := r_name1 hs hT.len hk
    simp only [needS]
    by_cases he : isS [61] ts = true
    ·rw [if_pos he]
     have hlen := len_shift he
     have h2 := r_whole hT (suf_shift hs1) (hw1.shift he) (N := N) (by omega)
     cases hc : wholeS N ts.tail with
     | no => rw [hc] at h2; exact h2.elim
     | er e =>
      rw [hc] at h2
      intro out g z
      obtain ⟨a, x', g', z', q2⟩ := h2 out g z
      exact ⟨[], _, _, _, At_Q65_1b_step _ _ _ _ _ _ _ _ _ ⟨false, _, q0, fun hf => (by cases hf), fun _ => ⟨t, _, r_now hs, t, _, r_now hs, fun _ => ⟨hal, _, hcl, fun hf => absurd hf ha, fun _ => ⟨none, _, _, q1, none, _, r_need1 hs1 hT.len he, some e, a, x', g', z', q2, rfl, rfl, rfl, rfl⟩⟩, fun hf => absurd hk hf⟩⟩⟩
     | ok nodes ts2 out2 =>
      rw [hc] at h2
      obtain ⟨s2, w2, l2, q2⟩ := h2
      simp only [PR.bind]
      have h3 := r_attrs_b hT hN n (acc ++ [⟨t.Text, nodes⟩]) ts2 s2 w2 (by omega) (by simp; omega)
      have hbig : bigRow (acc.length + 1) 40 := by simp only [bigRow]; omega
      cases hl : attrsS N n (acc ++ [⟨t.Text, nodes⟩]) ts2 with
      | no => rw [hl] at h3; exact h3.elim
      | er e =>
       rw [hl] at h3
       intro out g z
       obtain ⟨g2, z2, q2⟩ := q2 out g z
       obtain ⟨a, x', g', z', q3⟩ := h3 nodes g2 z2
       exact ⟨a, x', g', z', At_Q65_1b_step _ _ _ _ _ _ _ _ _ ⟨false, _, q0, fun hf => (by cases hf), fun _ => ⟨t, _, r_now hs, t, _, r_now hs, fun _ => ⟨hal, _, hcl, fun hf => absurd hf ha, fun _ => ⟨none, _, _, q1, none, _, r_need1 hs1 hT.len he, none, nodes, _, g2, z2, q2, hbig, q3⟩⟩, fun hf => absurd hk hf⟩⟩⟩
      | ok a ts3 out3 =>
       rw [hl] at h3
       obtain ⟨s3, w3, l3, q3⟩ := h3
       refine ⟨s3, w3, by omega, fun out g z => ?_⟩
       obtain ⟨g2, z2, q2⟩ := q2 out g z
       obtain ⟨out', g', z', q3⟩ := q3 nodes g2 z2
       exact ⟨out', g', z', At_Q65_1b_step _ _ _ _ _ _ _ _ _ ⟨false, _, q0, fun hf => (by cases hf), fun _ => ⟨t, _, r_now hs, t, _, r_now hs, fun _ => ⟨hal, _, hcl, fun hf => absurd hf ha, fun _ => ⟨none, _, _, q1, none, _, r_need1 hs1 hT.len he, none, nodes, _, g2, z2, q2, hbig, q3⟩⟩, fun hf => absurd hk hf⟩⟩⟩
    ·rw [if_neg he]
     exact fun out g z => ⟨[], _, _, _, At_Q65_1b_step _ _ _ _ _ _ _ _ _ ⟨false, _, q0, fun hf => (by cases hf), fun _ => ⟨t, _, r_now hs, t, _, r_now hs, fun _ => ⟨hal, _, hcl, fun hf => absurd hf ha, fun _ => ⟨none, _, _, q1, some 5, _, r_need0 hs1 hw1.ne (by simpa using he), rfl, rfl, rfl, rfl⟩⟩, fun hf => absurd hk hf⟩⟩⟩
   ·rw [if_neg hk]
    exact fun out g z => ⟨[], _, _, _, At_Q65_1b_step _ _ _ _ _ _ _ _ _ ⟨false, _, q0, fun hf => (by cases hf), fun _ => ⟨t, _, r_now hs, t, _, r_now hs, fun hf => absurd hf hk, fun _ => ⟨some 5, [], _, r_name0 hs hk [], rfl, rfl, rfl, rfl⟩⟩⟩⟩
theorem r_attrs {L : List Token} (hT : TL L) {N : Nat} (hN : 20 * L.length + 10 ≤ N) (n : Nat) (acc : List Attr) (ts : List Token) (hs : ts <:+ L) (hw : W ts) (hn : ts.length < n + 1) (hal : acc.length + ts.length ≤ 1000000) : OkP L ts 0 (At_Q100 acc) (attrsS N (n + 1) acc ts) := by
 cases ts with
 | nil => exact hw.elim
 | cons t ts =>
  have hlc : (t :: ts).length = ts.length + 1 := rfl
  have hll := suf_len hs
  have hLl := hT.len
  simp only [attrsS]
  by_cases hi : isS [125] (t :: ts) = true
  ·rw [if_pos hi]
   have hw1 := hw.shift hi
   exact ⟨suf_tail hs, hw1, by omega, fun out g z => ⟨_, _, _, At_Q100_step _ _ _ _ _ _ _ _ _ ⟨true, _, r_may1 hs hT.len hi, fun _ => ⟨rfl, rfl, rfl, rfl, rfl⟩, fun hf => absurd rfl hf⟩⟩⟩
  rw [if_neg hi]
  have q0 := r_may0 hs (by simp) (show isS [125] (t :: ts) = false by simpa using hi)
  by_cases hk : t.Kind = 3
  ·rw [if_pos hk]
   have hk0 : t.Kind ≠ 0 := by rw [hk]; decide
   have hcl : ∀ x, x ∈ acc → R_Q100 x t.Text (decide (x.Name = t.Text)) := fun x _ => Q100_tree _ _ _ rfl
   have hal : acc.length < 9223372036854775808 := by omega
   by_cases ha : acc.any (fun a => decide (a.Name = t.Text)) = true
   ·rw [if_pos ha]
    exact fun out g z => ⟨[], _, _, _, At_Q100_step _ _ _ _ _ _ _ _ _ ⟨false, _, q0, fun hf => (by cases hf), fun _ => ⟨t, _, r_now hs, t, _, r_now hs, fun _ => ⟨hal, _, hcl, fun _ => ⟨_, _, r_fail _ _, rfl, rfl, rfl, rfl⟩, fun hf => absurd ha hf⟩, fun hf => absurd hk hf⟩⟩⟩
   rw [if_neg ha]
   have hs1 := suf_tail hs
   have hw1 := hw.tail hk0
   have q1 := r_name1 hs hT.len hk
   simp only [needS]
   by_cases he : isS [61] ts = true
   ·rw [if_pos he]
    have hlen := len_shift he
    have h2 := r_whole hT (suf_shift hs1) (hw1.shift he) (N := N) (by omega)
    cases hc : wholeS N ts.tail with
    | no => rw [hc] at h2; exact h2.elim
    | er e =>
     rw [hc] at h2
     intro out g z
     obtain ⟨a, x', g', z', q2⟩ := h2 out g z
     exact ⟨[], _, _, _, At_Q100_step _ _ _ _ _ _ _ _ _ ⟨false, _, q0, fun hf => (by cases hf), fun _ => ⟨t, _, r_now hs, t, _, r_now hs, fun _ => ⟨hal, _, hcl, fun hf => absurd hf ha, fun _ => ⟨none, _, _, q1, none, _, r_need1 hs1 hT.len he, some e, a, x', g', z', q2, rfl, rfl, rfl, rfl⟩⟩, fun hf => absurd hk hf⟩⟩⟩
    | ok nodes ts2 out2 =>
     rw [hc] at h2
     obtain ⟨s2, w2, l2, q2⟩ := h2
     simp only [PR.bind]
     have h3 := r_attrs_b hT hN n (acc ++ [⟨t.Text, nodes⟩]) ts2 s2 w2 (by omega) (by simp; omega)
     have hbig : bigRow (acc.length + 1) 40 := by simp only [bigRow]; omega
     cases hl : attrsS N n (acc ++ [⟨t.Text, nodes⟩]) ts2 with
     | no => rw [hl] at h3; exact h3.elim
     | er e =>
      rw [hl] at h3
      intro out g z
      obtain ⟨g2, z2, q2⟩ := q2 out g z
      obtain ⟨a, x', g', z', q3⟩ := h3 nodes g2 z2
      exact ⟨a, x', g', z', At_Q100_step _ _ _ _ _ _ _ _ _ ⟨false, _, q0, fun hf => (by cases hf), fun _ => ⟨t, _, r_now hs, t, _, r_now hs, fun _ => ⟨hal, _, hcl, fun hf => absurd hf ha, fun _ => ⟨none, _, _, q1, none, _, r_need1 hs1 hT.len he, none, nodes, _, g2, z2, q2, hbig, q3⟩⟩, fun hf => absurd hk hf⟩⟩⟩
     | ok a ts3 out3 =>
      rw [hl] at h3
      obtain ⟨s3, w3, l3, q3⟩ := h3
      refine ⟨s3, w3, by omega, fun out g z => ?_⟩
      obtain ⟨g2, z2, q2⟩ := q2 out g z
      obtain ⟨out', g', z', q3⟩ := q3 nodes g2 z2
      exact ⟨out', g', z', At_Q100_step _ _ _ _ _ _ _ _ _ ⟨false, _, q0, fun hf => (by cases hf), fun _ => ⟨t, _, r_now hs, t, _, r_now hs, fun _ => ⟨hal, _, hcl, fun hf => absurd hf ha, fun _ => ⟨none, _, _, q1, none, _, r_need1 hs1 hT.len he, none, nodes, _, g2, z2, q2, hbig, q3⟩⟩, fun hf => absurd hk hf⟩⟩⟩
   ·rw [if_neg he]
    exact fun out g z => ⟨[], _, _, _, At_Q100_step _ _ _ _ _ _ _ _ _ ⟨false, _, q0, fun hf => (by cases hf), fun _ => ⟨t, _, r_now hs, t, _, r_now hs, fun _ => ⟨hal, _, hcl, fun hf => absurd hf ha, fun _ => ⟨none, _, _, q1, some 5, _, r_need0 hs1 hw1.ne (by simpa using he), rfl, rfl, rfl, rfl⟩⟩, fun hf => absurd hk hf⟩⟩⟩
  ·rw [if_neg hk]
   exact fun out g z => ⟨[], _, _, _, At_Q100_step _ _ _ _ _ _ _ _ _ ⟨false, _, q0, fun hf => (by cases hf), fun _ => ⟨t, _, r_now hs, t, _, r_now hs, fun hf => absurd hf hk, fun _ => ⟨some 5, [], _, r_name0 hs hk [], rfl, rfl, rfl, rfl⟩⟩⟩⟩
theorem r_body {L ts : List Token} (hT : TL L) (hs : ts <:+ L) (hw : W ts) {N : Nat} (hN : 20 * L.length + 10 ≤ N) : OkP L ts 1 R_Q65 (bodyS N ts) := by
 simp only [bodyS, needS]
 have hll := suf_len hs
 have hLl := hT.len
 by_cases hi : isS [123] ts = true
 ·rw [if_pos hi]
  have hlen := len_shift hi
  obtain ⟨n, rfl⟩ : ∃ n, N = n + 1 := ⟨N - 1, by omega⟩
  have h1 := r_attrs hT hN n [] ts.tail (suf_shift hs) (hw.shift hi) (by omega) (by simp; omega)
  cases hc : attrsS (n + 1) (n + 1) [] ts.tail with
  | no => rw [hc] at h1; exact h1.elim
  | er e =>
   rw [hc] at h1
   intro out g z
   obtain ⟨a, x', g', z', q⟩ := h1 out g z
   exact ⟨a, x', g', z', Q65_tree _ _ _ _ _ _ _ _ ⟨none, _, r_need1 hs hT.len hi, q⟩⟩
  | ok a ts1 out1 =>
   rw [hc] at h1
   obtain ⟨s1, w1, l1, q⟩ := h1
   refine ⟨s1, w1, by omega, fun out g z => ?_⟩
   obtain ⟨out', g', z', q⟩ := q out g z
   exact ⟨out', g', z', Q65_tree _ _ _ _ _ _ _ _ ⟨none, _, r_need1 hs hT.len hi, q⟩⟩
 ·rw [if_neg hi]
  exact fun out g z => ⟨[], _, _, _, Q65_tree _ _ _ _ _ _ _ _ ⟨some 5, _, r_need0 hs hw.ne (by simpa using hi), rfl, rfl, rfl, rfl⟩⟩
theorem r_words : R_Q63 wordsS := Q63_tree _ rfl
theorem r_blkPlain {L : List Token} {t : Token} {ts : List Token} (hT : TL L) (hs : (t :: ts) <:+ L) (hw : W (t :: ts)) {lab : List UInt8 → Bool} (hl : ∀ s, s.length ≤ 1000000 → R_Q81 s (lab s)) {N : Nat} (hN : 20 * L.length + 10 ≤ N) (within : Bool) (hk : t.Kind = 3) {i : Nat} (hi : idxS t.Text wordsS 0 = some i) (h4 : i ≠ 4) (h5 : i ≤ 1000) :
  OkP L (t :: ts) 1 (fun b g z => R_Q39 b g z within) (plainS lab N i ts) := by
 have hk0 : t.Kind ≠ 0 := by rw [hk]; decide
 have hs1 := suf_tail hs
 have hw1 := hw.tail hk0
 have hlc : (t :: ts).length = ts.length + 1 := rfl
 have hI : I64 ((pt L (t :: ts)).pos + 1) := by have := suf_len hs; have := hT.len; simp only [pt, I64]; omega
 have e1 : ∀ out, PBlocks.mk (PExprs.mk (PTokens.mk (pt L (t :: ts)).l ((pt L (t :: ts)).pos + 1)) (pb L (t :: ts) out).exprs.out (pb L (t :: ts) out).exprs.deep) = pb L ts out := fun out => by rw [pt_next hs]; rfl
 have hix : R_slices_Index_string_string wordsS t.Text (i : Int) := by have := r_IndexS wordsS t.Text (by decide); rw [hi] at this; exact this
 have n0 : ¬ (1 + (i : Int)) = 0 := by omega
 have n5 : ¬ (1 + (i : Int)) = 5 := by omega
 have hI1 : I64 (1 + (i : Int)) := ⟨by omega, by omega⟩
 simp only [plainS]
 by_cases h1 : i = 1
 ·subst h1
  rw [if_pos rfl]
  have h2 := r_body hT hs1 hw1 hN
  cases hc : bodyS N ts with
  | no => rw [hc] at h2; exact h2.elim
  | er e =>
   rw [hc] at h2
   intro out g z
   obtain ⟨a, x', g', z', q⟩ := h2 out g z
   exact ⟨⟨0, [], [], []⟩, x', g', z', Q39_tree _ _ _ _ _ _ _ _ _ ⟨t, _, r_now hs, _, r_words, _, hix, hI1, fun _ => ⟨fun hf => absurd hf n0, fun _ => ⟨fun hf => absurd hf n5, fun _ => ⟨hI, fun _ => ⟨some e, a, x', g', z', (e1 out).symm ▸ q, rfl, rfl, rfl, rfl⟩, fun hf => absurd (by decide) hf⟩⟩⟩, fun hf => absurd hk hf⟩⟩
  | ok a ts1 out1 =>
   rw [hc] at h2
   obtain ⟨s1, w1, l1, q⟩ := h2
   refine ⟨s1, w1, by omega, fun out g z => ?_⟩
   obtain ⟨out', g', z', q⟩ := q out g z
   exact ⟨out', g', z', Q39_tree _ _ _ _ _ _ _ _ _ ⟨t, _, r_now hs, _, r_words, _, hix, hI1, fun _ => ⟨fun hf => absurd hf n0, fun _ => ⟨fun hf => absurd hf n5, fun _ => ⟨hI, fun _ => ⟨none, a, _, _, _, (e1 out).symm ▸ q, ⟨rfl, rfl, rfl, rfl, rfl⟩, rfl, rfl, rfl, rfl, rfl⟩, fun hf => absurd (by decide) hf⟩⟩⟩, fun hf => absurd hk hf⟩⟩
 ·rw [if_neg h1]
  have n2 : ¬ (1 + (i : Int)) = 2 := by omega
  have h2 := r_lab hT hs1 hw1 hl
  cases hc : labS lab ts with
  | no => rw [hc] at h2; exact h2.elim
  | er e =>
   rw [hc] at h2
   intro out g z
   obtain ⟨a, x', g', z', q⟩ := h2 out g z
   exact ⟨⟨0, [], [], []⟩, x', g', z', Q39_tree _ _ _ _ _ _ _ _ _ ⟨t, _, r_now hs, _, r_words, _, hix, hI1, fun _ => ⟨fun hf => absurd hf n0, fun _ => ⟨fun hf => absurd hf n5, fun _ => ⟨hI, fun hf => absurd hf n2, fun _ => ⟨some e, a, x', g', z', (e1 out).symm ▸ q, rfl, rfl, rfl, rfl⟩⟩⟩⟩, fun hf => absurd hk hf⟩⟩
  | ok l ts1 out1 =>
   rw [hc] at h2
   obtain ⟨s1, w1, l1, q1⟩ := h2
   simp only [PR.bind]
   have h3 := r_body hT s1 w1 hN
   cases hb : bodyS N ts1 with
   | no => rw [hb] at h3; exact h3.elim
   | er e =>
    rw [hb] at h3
    intro out g z
    obtain ⟨out1, g1, z1, q1⟩ := q1 out g z
    obtain ⟨a, x', g', z', q⟩ := h3 out1 g1 z1
    exact ⟨⟨0, [], [], []⟩, x', g', z', Q39_tree _ _ _ _ _ _ _ _ _ ⟨t, _, r_now hs, _, r_words, _, hix, hI1, fun _ => ⟨fun hf => absurd hf n0, fun _ => ⟨fun hf => absurd hf n5, fun _ => ⟨hI, fun hf => absurd hf n2, fun _ => ⟨none, l, _, _, _, (e1 out).symm ▸ q1, some e, a, x', g', z', q, rfl, rfl, rfl, rfl⟩⟩⟩⟩, fun hf => absurd hk hf⟩⟩
   | ok a ts2 out2 =>
    rw [hb] at h3
    obtain ⟨s2, w2, l2, q2⟩ := h3
    refine ⟨s2, w2, by omega, fun out g z => ?_⟩
    obtain ⟨out1, g1, z1, q1⟩ := q1 out g z
    obtain ⟨out', g', z', q2⟩ := q2 out1 g1 z1
    exact ⟨out', g', z', Q39_tree _ _ _ _ _ _ _ _ _ ⟨t, _, r_now hs, _, r_words, _, hix, hI1, fun _ => ⟨fun hf => absurd hf n0, fun _ => ⟨fun hf => absurd hf n5, fun _ => ⟨hI, fun hf => absurd hf n2, fun _ => ⟨none, l, _, _, _, (e1 out).symm ▸ q1, none, a, _, _, _, q2, ⟨rfl, rfl, rfl, rfl, rfl⟩, rfl, rfl, rfl, rfl, rfl⟩⟩⟩⟩, fun hf => absurd hk hf⟩⟩
theorem idxS_lt (s : List UInt8) : ∀ (l : List (List UInt8)) (i j : Nat), idxS s l i = some j → j < i + l.length
 | [], i, j, h => by cases h
 | v :: l, i, j, h => by
  simp only [idxS] at h
  split at h
  ·cases h; simp
  ·have := idxS_lt s l (i + 1) j h
   simp only [List.length_cons]
   omega
theorem r_blkNo {L : List Token} {t : Token} {ts : List Token} (hs : (t :: ts) <:+ L) (within : Bool) (h : t.Kind ≠ 3 ∨ idxS t.Text wordsS 0 = none ∨ (within = true ∧ idxS t.Text wordsS 0 = some 4)) : OkP L (t :: ts) 1 (fun b g z => R_Q39 b g z within) (.er 5) := by
 intro out g z
 have hix := r_IndexS wordsS t.Text (by decide)
 have hI1 : I64 (1 + idxI (idxS t.Text wordsS 0)) := by
  cases hi : idxS t.Text wordsS 0 with
  | none => exact ⟨by simp [idxI], by simp [idxI]⟩
  | some i => have := idxS_lt _ _ _ _ hi; simp [wordsS] at this; exact ⟨by simp only [idxI]; omega, by simp only [idxI]; omega⟩
 refine ⟨⟨0, [], [], []⟩, _, _, _, Q39_tree _ _ _ _ _ _ _ _ _ ⟨t, _, r_now hs, _, r_words, _, hix, hI1, fun hk => ?_, fun _ => ⟨_, _, r_fail _ _, rfl, rfl, rfl, rfl⟩⟩⟩
 rcases h with h | h | ⟨h1, h2⟩
 ·exact absurd hk h
 ·rw [h]
  exact ⟨fun _ => ⟨_, _, r_fail _ _, rfl, rfl, rfl, rfl⟩, fun hf => absurd rfl hf⟩
 ·rw [h2]
  exact ⟨fun hf => absurd hf (by decide), fun _ => ⟨fun _ => ⟨fun _ => ⟨_, _, r_fail _ _, rfl, rfl, rfl, rfl⟩, fun hf => absurd h1 hf⟩, fun hf => absurd (by decide) hf⟩⟩
theorem r_blkIn {L ts : List Token} (hT : TL L) (hs : ts <:+ L) (hw : W ts) {lab : List UInt8 → Bool} (hl : ∀ s, s.length ≤ 1000000 → R_Q81 s (lab s)) {N : Nat} (hN : 20 * L.length + 10 ≤ N) : OkP L ts 1 (fun b g z => R_Q39 b g z true) (blkIn lab N ts) := by
 cases ts with
 | nil => exact hw.elim
 | cons t ts =>
  simp only [blkIn]
  by_cases hk : t.Kind = 3
  ·rw [if_pos hk]
   cases hi : idxS t.Text wordsS 0 with
   | none => exact r_blkNo hs true (.inr (.inl hi))
   | some i =>
    simp only
    by_cases h4 : i = 4
    ·rw [if_pos h4]
     exact r_blkNo hs true (.inr (.inr ⟨rfl, h4 ▸ hi⟩))
    ·rw [if_neg h4]
     exact r_blkPlain hT hs hw hl hN true hk hi h4 (by have := idxS_lt _ _ _ _ hi; simp [wordsS] at this; omega)
  ·rw [if_neg hk]
   exact r_blkNo hs true (.inl hk)
theorem r_blks {L : List Token} (hT : TL L) {lab : List UInt8 → Bool} (hl : ∀ s, s.length ≤ 1000000 → R_Q81 s (lab s)) {N : Nat} (hN : 20 * L.length + 10 ≤ N) (r4 : Int) (r11 : List UInt8) (l20 : List Attr) (g21 g23 : Nat) : ∀ (n : Nat) (acc : List Block) (ts : List Token), ts <:+ L → W ts → ts.length < n → acc.length + ts.length ≤ 1000000 →
  OkP L ts 1 (fun b g z o (r : List Block) b' g' z' => At_Q39_1 r4 r11 l20 g21 acc g23 b g z o ⟨1 + r4, r11, l20, r⟩ b' g' z') (blksS lab N n acc ts)
 | 0, _, _, _, _, h, _ => absurd h (Nat.not_lt_zero _)
 | n + 1, acc, ts, hs, hw, hn, hal => by
  simp only [blksS]
  by_cases hi : isS [125] ts = true
  ·rw [if_pos hi]
   have hlen := len_shift hi
   exact ⟨suf_shift hs, hw.shift hi, by omega, fun out g z => ⟨_, _, _, At_Q39_1_step _ _ _ _ _ _ _ _ _ _ _ _ _ _ ⟨true, _, r_may1 hs hT.len hi, fun _ => ⟨rfl, rfl, rfl, rfl, rfl⟩, fun hf => absurd rfl hf⟩⟩⟩
  rw [if_neg hi]
  have q0 := r_may0 hs hw.ne (show isS [125] ts = false by simpa using hi)
  have h1 := r_blkIn hT hs hw hl hN
  have hbig : bigRow (acc.length + 1) 72 := by simp only [bigRow]; omega
  cases hc : blkIn lab N ts with
  | no => rw [hc] at h1; exact h1.elim
  | er e =>
   rw [hc] at h1
   intro out g z
   obtain ⟨a, x', g', z', q⟩ := h1 out g z
   exact ⟨[], x', g', z', At_Q39_1_step _ _ _ _ _ _ _ _ _ _ _ _ _ _ ⟨false, _, q0, fun hf => (by cases hf), fun _ => ⟨some e, a, x', g', z', q, rfl, rfl, rfl, rfl⟩⟩⟩
  | ok a ts1 out1 =>
   rw [hc] at h1
   obtain ⟨s1, w1, l1, q1⟩ := h1
   simp only [PR.bind]
   have h2 := r_blks hT hl hN r4 r11 l20 g21 g23 n (acc ++ [a]) ts1 s1 w1 (by omega) (by simp; omega)
   cases hb : blksS lab N n (acc ++ [a]) ts1 with
   | no => rw [hb] at h2; exact h2.elim
   | er e =>
    rw [hb] at h2
    intro out g z
    obtain ⟨out1, g1, z1, q1⟩ := q1 out g z
    obtain ⟨c, x', g', z', q⟩ := h2 out1 g1 z1
    exact ⟨c, x', g', z', At_Q39_1_step _ _ _ _ _ _ _ _ _ _ _ _ _ _ ⟨false, _, q0, fun hf => (by cases hf), fun _ => ⟨none, a, _, _, _, q1, hbig, q⟩⟩⟩
   | ok c ts2 out2 =>
    rw [hb] at h2
    obtain ⟨s2, w2, l2, q2⟩ := h2
    refine ⟨s2, w2, by omega, fun out g z => ?_⟩
    obtain ⟨out1, g1, z1, q1⟩ := q1 out g z
    obtain ⟨out', g', z', q2⟩ := q2 out1 g1 z1
    exact ⟨out', g', z', At_Q39_1_step _ _ _ _ _ _ _ _ _ _ _ _ _ _ ⟨false, _, q0, fun hf => (by cases hf), fun _ => ⟨none, a, _, _, _, q1, hbig, q2⟩⟩⟩
end Go.Proofs.YtfbcnpbhhooapaaGreatDoor.M
