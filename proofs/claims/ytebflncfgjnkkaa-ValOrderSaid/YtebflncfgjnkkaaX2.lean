-- PRINTED by print.py (a twelfth state) out of the translation. Not trusted: Lean checks it.
import Derived.Test.YtebflncfgjnkkaaX0
namespace Go.Proofs.Ytebflncfgjnkkaa.X
open Go.RowKit Go.Proofs.YtebflncfgjnkkaaW.PrintWords Go.Proofs.YtebflncfgjnkkaaW.PrintLast Go.Proofs.YtebflncfgjnkkaaW.PrintMore
attribute [local go_sem] max2_int min2_int max_two min_two max_three min_three max_four min_four   -- for this text's walks alone
set_option linter.unusedVariables false
set_option linter.unusedSimpArgs false

/-- What the function value that slices_EqualFunc_api_Val takes answers. -/
class PP_slices_EqualFunc_api_Val where
  f : Int → Int → ByteArray → List (S25) → Int → Int → ByteArray → List (S25) → Option (Bool)
/-! ### slices_EqualFunc_api_Val: function 36 -/
def slices_EqualFunc_api_Val.l0 [PP : PP_slices_EqualFunc_api_Val] : Nat → List (S25) → List (S25) → Int → Int → Option (Bool)
  | 0, _, _, _, _ => none
  | k + 1, x1, x15, x16, x17 => if x17 < x16 then (if 0 ≤ x17 then (if x17 < (x15.length : Int) then (if x17 < (x1.length : Int) then ((PP.f ((rd_T25 x15 x17).f0) ((rd_T25 x15 x17).f1) ((rd_T25 x15 x17).f2) ((rd_T25 x15 x17).f3) ((rd_T25 x1 x17).f0) ((rd_T25 x1 x17).f1) ((rd_T25 x1 x17).f2) ((rd_T25 x1 x17).f3)).bind fun t106 => (if t106 = true then (slices_EqualFunc_api_Val.l0 k x1 x15 x16 (wrap64 (x17 + 1))) else (some false))) else (none)) else (none)) else (none)) else (some true)
def slices_EqualFunc_api_Val.f [PP : PP_slices_EqualFunc_api_Val] (k : Nat) (l0 : List (S25)) (l1 : List (S25))  : Option (Bool) := if (l0.length : Int) = (l1.length : Int) then (slices_EqualFunc_api_Val.l0 k l1 l0 (l0.length : Int) 0) else (some false)
theorem slices_EqualFunc_api_Val.monoP_l {PP1 PP2 : PP_slices_EqualFunc_api_Val} (hP_ : ∀ y0_ y1_ y2_ y3_ y4_ y5_ y6_ y7_, LeO (PP1.f y0_ y1_ y2_ y3_ y4_ y5_ y6_ y7_) (PP2.f y0_ y1_ y2_ y3_ y4_ y5_ y6_ y7_)) : ∀ k, (∀ y0 y1 y2 y3, LeO (slices_EqualFunc_api_Val.l0 (PP := PP1) k y0 y1 y2 y3) (slices_EqualFunc_api_Val.l0 (PP := PP2) (k + 1) y0 y1 y2 y3))
  | 0 => fun _ _ _ _ r h => by simp [slices_EqualFunc_api_Val.l0] at h
  | k + 1 => by
    have ih0 := slices_EqualFunc_api_Val.monoP_l hP_ k
    · intro y0 y1 y2 y3
      unfold slices_EqualFunc_api_Val.l0
      repeat' first
      | (with_reducible exact hP_ _ _ _ _ _ _ _ _)
      | (with_reducible exact ih0 _ _ _ _)
      | (with_reducible exact LeO.refl _)
      | (with_reducible exact LeO.none _)
      | (with_reducible refine LeO.ite ?_ ?_)
      | (with_reducible refine LeO.bind ?_ (fun _ => ?_))
      | exact ih0 _ _ _ _
      | exact LeO.none _
      | refine LeO.ite ?_ ?_
      | refine LeO.bind ?_ (fun _ => ?_)
theorem slices_EqualFunc_api_Val.monoP {PP1 PP2 : PP_slices_EqualFunc_api_Val} (hP_ : ∀ y0_ y1_ y2_ y3_ y4_ y5_ y6_ y7_, LeO (PP1.f y0_ y1_ y2_ y3_ y4_ y5_ y6_ y7_) (PP2.f y0_ y1_ y2_ y3_ y4_ y5_ y6_ y7_)) : ∀ a0 a1 k, LeO (slices_EqualFunc_api_Val.f (PP := PP1) k a0 a1) (slices_EqualFunc_api_Val.f (PP := PP2) (k + 1) a0 a1) := by
  intro a0 a1 k
  have ih0 := slices_EqualFunc_api_Val.monoP_l hP_ k
  unfold slices_EqualFunc_api_Val.f
  repeat' first
      | (with_reducible exact hP_ _ _ _ _ _ _ _ _)
      | (with_reducible exact ih0 _ _ _ _)
      | (with_reducible exact LeO.refl _)
      | (with_reducible exact LeO.none _)
      | (with_reducible refine LeO.ite ?_ ?_)
      | (with_reducible refine LeO.bind ?_ (fun _ => ?_))
      | exact ih0 _ _ _ _
      | exact LeO.none _
      | refine LeO.ite ?_ ?_
      | refine LeO.bind ?_ (fun _ => ?_)
set_option maxHeartbeats 8000000 in
set_option maxRecDepth 100000 in
theorem slices_EqualFunc_api_Val.calls [PP : PP_slices_EqualFunc_api_Val] (k : Nat) (A0 : Option Addr) (c0 : Nat) (l0 : List (S25)) (A1 : Option Addr) (c1 : Nat) (l1 : List (S25))  (r : Bool) (w : World) (gP : Nat) (lbP : Array Value) (hgP : ∃ fn : Func, Try.prog.funcs[gP]? = some fn ∧ (fn.name == "runtime.NumGoroutine") = false ∧ fn.body.isSome = true) (PPcalls : ∀ (x0 : Int) (x1 : Int) (x2 : ByteArray) (A3 : Option Addr) (c3 : Nat) (x3 : List (S25)) (x4 : Int) (x5 : Int) (x6 : ByteArray) (A7 : Option Addr) (c7 : Nat) (x7 : List (S25)) (r_ : Bool) (w_ : World), Below w.heap.size w w_ → (Kd.C k25 w_ A3 x3.length x3) → (x3.length ≤ c3) → (Kd.C k25 w_ A7 x7.length x7) → (x7.length ≤ c7) → PP.f x0 x1 x2 x3 x4 x5 x6 x7 = some r_ → Calls Try.prog gP (#[.agg #[.int .i64 x0, .int .i64 x1, .string x2, .slice A3 x3.length c3], .agg #[.int .i64 x4, .int .i64 x5, .string x6, .slice A7 x7.length c7]] ++ lbP) w_ fun e w' => e = .returned (.bool r_) ∧ Below w_.heap.size w_ w') (hr0 : Kd.C k25 w A0 l0.length l0) (hc0 : l0.length ≤ c0) (hr1 : Kd.C k25 w A1 l1.length l1) (hc1 : l1.length ≤ c1) (h : slices_EqualFunc_api_Val.f k l0 l1 = some r) :
    Calls Try.prog 36 #[.slice A0 l0.length c0, .slice A1 l1.length c1, (.func (.func gP) #[] lbP)] w fun e w' => e = .returned (.bool r) ∧ Below w.heap.size w w' := by
  have hu25 := Try.underlying25
  have HR0 := Aside0.mk hr0
  have HC0 := Aside0.mk hc0
  clear hr0 hc0
  have HR1 := Aside0.mk hr1
  have HC1 := Aside0.mk hc1
  clear hr1 hc1
  have HB := Aside0.mk (Below.refl w.heap.size w)
  have H : (if (l0.length : Int) = (l1.length : Int) then (slices_EqualFunc_api_Val.l0 k l1 l0 (l0.length : Int) 0) else (some false)) = some r := h
  clear h
  by_cases c4 : (l0.length : Int) = (l1.length : Int)
  · rw [if_pos c4] at H
    have c4b0 : ((l0.length : Int) == (l1.length : Int)) = true := beq_iff_eq.mpr c4
    have c4b1 : ((l0.length : Int) != (l1.length : Int)) = false := bne_eq_false_iff_eq.mpr c4
    have c4b2 : (l0.length == l1.length) = true := by first | simpa using c4 | (simp at c4 ⊢; omega)
    clear c4
    have H' := Aside0.mk H
    clear H
    go_enter Try.func36, Try.ntmps36
    go_wp2
    go_loopg [17] k (fun kq v17 w' => ∃ (x17_1 : Int), v17 = .int .i64 x17_1 ∧ Aside0 (slices_EqualFunc_api_Val.l0 kq l1 l0 (l0.length : Int) x17_1 = some r) ∧ Aside0 (kq ≤ k) ∧ Aside0 (Below w.heap.size w w'))
    case atStart => exact ⟨(0), xQ, H', ⟨Nat.le_refl _⟩, ⟨xHB⟩⟩
    case round =>
      clear H'
      try clear c1; try clear p2; try clear c3; try clear c4; try clear c4b0; try clear c4b1; try clear c4b2
      obtain ⟨x17_1, rfl, HA, HK1, HB⟩ := hrel
      cases gk with
      | zero => exact absurd HA.out (by simp [slices_EqualFunc_api_Val.l0])
      | succ k1 =>
        have H := HA.out
        clear HA
        simp only [slices_EqualFunc_api_Val.l0] at H
        by_cases c5 : x17_1 < (l0.length : Int)
        · rw [if_pos c5] at H
          have c5b0 : decide (x17_1 < (l0.length : Int)) = true := decide_eq_true c5
          clear c5
          by_cases c6 : 0 ≤ x17_1
          · rw [if_pos c6] at H
            have c6b0 : decide (0 ≤ x17_1) = true := decide_eq_true c6
            clear c6
            by_cases c7 : x17_1 < (l0.length : Int)
            · rw [if_pos c7] at H
              have c7b0 : decide (x17_1 < (l0.length : Int)) = true := decide_eq_true c7
              clear c7
              by_cases c8 : x17_1 < (l1.length : Int)
              · rw [if_pos c8] at H
                have c8b0 : decide (x17_1 < (l1.length : Int)) = true := decide_eq_true c8
                clear c8
                replace H := Option.bind_eq_some_iff.mp H
                obtain ⟨t106, A90, H⟩ := H
                replace H : (if t106 = true then (slices_EqualFunc_api_Val.l0 k1 l1 l0 (l0.length : Int) (wrap64 (x17_1 + 1))) else (some false)) = some r := H
                have A9 := Aside0.mk A90
                clear A90
                by_cases c10 : t106 = true
                · subst c10
                  have H1 : (slices_EqualFunc_api_Val.l0 k1 l1 l0 (l0.length : Int) (wrap64 (x17_1 + 1))) = some r := by rw [if_pos rfl] at H; exact H
                  clear H
                  have H := H1
                  clear H1
                  have H' := Aside0.mk H
                  clear H
                  have p102 : 0 ≤ (x17_1 : Int) := of_decide_eq_true (by first | (with_reducible assumption) | assumption)
                  have q102 : x17_1 < (l0.length : Int) := of_decide_eq_true (by first | (with_reducible assumption) | assumption)
                  obtain ⟨ad102, A102_3, c102_3, e102, hx102_0, hx102_1, hx102_2, hx102_3, hl102_3, hi102_3⟩ := at_T25 HR0.out x17_1 p102 q102
                  cases e102
                  replace hx102_0 := (HB.out.cell (World.block_lt_of_cell? w _ hx102_0)).trans hx102_0
                  replace hx102_1 := (HB.out.cell (World.block_lt_of_cell? w _ hx102_1)).trans hx102_1
                  replace hx102_2 := (HB.out.cell (World.block_lt_of_cell? w _ hx102_2)).trans hx102_2
                  replace hx102_3 := (HB.out.cell (World.block_lt_of_cell? w _ hx102_3)).trans hx102_3
                  have HR102_3 := Aside0.mk hi102_3
                  have HC102_3 := Aside0.mk hl102_3
                  clear hi102_3 hl102_3
                  replace p102 := eq_true p102
                  replace q102 := eq_true q102
                  go_wp2_with (first | ((with_reducible refine gate_dst (N := 8) rfl ?_); refine box_event ?hg (N := 8) ?hd (cs := #[.int .i64 0, .int .i64 0, .string (⟨#[]⟩ : ByteArray), .slice none 0 0]) (t := 25) ?hr ?_; (case hd => rfl); (case hg => rfl); (case hr => first | (go_simp; done) | (go_simp; rfl)); intro gb103 hg w11 hbox hb; have n0_ := Aside0.mk (below_step xHB hb); have n1_ := Aside0.mk (hbox); have n2_ := Aside0.mk ((by rw [hg]; exact (below_size xHB) : w.heap.size ≤ gb103)); have n3_ := Aside0.mk ((by rw [hg]; exact (below_size xHB) : w.heap.size ≤ gb103)); clear HB; have HB := n0_; have BK103 := n1_; have GW103 := n2_; have GE103 := n3_; clear n0_ n1_ n2_ n3_; clear hb hbox hg; have hcz12_0 : w11.cell? ⟨gb103, 0, none⟩ = some (.int .i64 0) := (blk_cell BK103.out 0).trans rfl; have hcz12_1 : w11.cell? ⟨gb103, 1, none⟩ = some (.int .i64 0) := (blk_cell BK103.out 1).trans rfl; have hcz12_2 : w11.cell? ⟨gb103, 2, none⟩ = some (.string (⟨#[]⟩ : ByteArray)) := (blk_cell BK103.out 2).trans rfl; have hcz12_3 : w11.cell? ⟨gb103, 3, none⟩ = some (.slice none 0 0) := (blk_cell BK103.out 3).trans rfl; have hfz12_0 := blk_frozen BK103.out 0; have hfz12_1 := blk_frozen BK103.out 1; have hfz12_2 := blk_frozen BK103.out 2; have hfz12_3 := blk_frozen BK103.out 3; have p104 : 0 ≤ (x17_1 : Int) := of_decide_eq_true (by first | (with_reducible assumption) | assumption); have q104 : x17_1 < (l1.length : Int) := of_decide_eq_true (by first | (with_reducible assumption) | assumption); obtain ⟨ad104, A104_3, c104_3, e104, hx104_0, hx104_1, hx104_2, hx104_3, hl104_3, hi104_3⟩ := at_T25 HR1.out x17_1 p104 q104; cases e104; have hn104_0 : ad104.block ≠ gb103 := Nat.ne_of_lt (Nat.lt_of_lt_of_le (by have := World.block_lt_of_cell? _ _ hx104_0; first | rwa [add_block] at this | exact this) GW103.out); have hn104_1 : ad104.block ≠ gb103 := Nat.ne_of_lt (Nat.lt_of_lt_of_le (by have := World.block_lt_of_cell? _ _ hx104_0; first | rwa [add_block] at this | exact this) GW103.out); have hn104_2 : ad104.block ≠ gb103 := Nat.ne_of_lt (Nat.lt_of_lt_of_le (by have := World.block_lt_of_cell? _ _ hx104_0; first | rwa [add_block] at this | exact this) GW103.out); have hn104_3 : ad104.block ≠ gb103 := Nat.ne_of_lt (Nat.lt_of_lt_of_le (by have := World.block_lt_of_cell? _ _ hx104_0; first | rwa [add_block] at this | exact this) GW103.out); replace hx104_0 := (HB.out.cell (World.block_lt_of_cell? w _ hx104_0)).trans hx104_0; replace hx104_1 := (HB.out.cell (World.block_lt_of_cell? w _ hx104_1)).trans hx104_1; replace hx104_2 := (HB.out.cell (World.block_lt_of_cell? w _ hx104_2)).trans hx104_2; replace hx104_3 := (HB.out.cell (World.block_lt_of_cell? w _ hx104_3)).trans hx104_3; have HR104_3 := Aside0.mk hi104_3; have HC104_3 := Aside0.mk hl104_3; clear hi104_3 hl104_3; replace hx104_0 := (cell_far (p := ⟨gb103, 0, none⟩) (by first | (rw [add_block]; exact hn104_0) | (show (Addr.add _ _).block ≠ _; rw [add_block]; exact hn104_0) | exact hn104_0) (.int .i64 ((rd_T25 l0 x17_1).f0))).trans hx104_0; replace hx104_1 := (cell_far (p := ⟨gb103, 0, none⟩) (by first | (rw [add_block]; exact hn104_0) | (show (Addr.add _ _).block ≠ _; rw [add_block]; exact hn104_0) | exact hn104_0) (.int .i64 ((rd_T25 l0 x17_1).f0))).trans hx104_1; replace hx104_2 := (cell_far (p := ⟨gb103, 0, none⟩) (by first | (rw [add_block]; exact hn104_0) | (show (Addr.add _ _).block ≠ _; rw [add_block]; exact hn104_0) | exact hn104_0) (.int .i64 ((rd_T25 l0 x17_1).f0))).trans hx104_2; replace hx104_3 := (cell_far (p := ⟨gb103, 0, none⟩) (by first | (rw [add_block]; exact hn104_0) | (show (Addr.add _ _).block ≠ _; rw [add_block]; exact hn104_0) | exact hn104_0) (.int .i64 ((rd_T25 l0 x17_1).f0))).trans hx104_3; replace hx104_0 := (cell_far (p := ⟨gb103, 1, none⟩) (by first | (rw [add_block]; exact hn104_1) | (show (Addr.add _ _).block ≠ _; rw [add_block]; exact hn104_1) | exact hn104_1) (.int .i64 ((rd_T25 l0 x17_1).f1))).trans hx104_0; replace hx104_1 := (cell_far (p := ⟨gb103, 1, none⟩) (by first | (rw [add_block]; exact hn104_1) | (show (Addr.add _ _).block ≠ _; rw [add_block]; exact hn104_1) | exact hn104_1) (.int .i64 ((rd_T25 l0 x17_1).f1))).trans hx104_1; replace hx104_2 := (cell_far (p := ⟨gb103, 1, none⟩) (by first | (rw [add_block]; exact hn104_1) | (show (Addr.add _ _).block ≠ _; rw [add_block]; exact hn104_1) | exact hn104_1) (.int .i64 ((rd_T25 l0 x17_1).f1))).trans hx104_2; replace hx104_3 := (cell_far (p := ⟨gb103, 1, none⟩) (by first | (rw [add_block]; exact hn104_1) | (show (Addr.add _ _).block ≠ _; rw [add_block]; exact hn104_1) | exact hn104_1) (.int .i64 ((rd_T25 l0 x17_1).f1))).trans hx104_3; replace hx104_0 := (cell_far (p := ⟨gb103, 2, none⟩) (by first | (rw [add_block]; exact hn104_2) | (show (Addr.add _ _).block ≠ _; rw [add_block]; exact hn104_2) | exact hn104_2) (.string ((rd_T25 l0 x17_1).f2))).trans hx104_0; replace hx104_1 := (cell_far (p := ⟨gb103, 2, none⟩) (by first | (rw [add_block]; exact hn104_2) | (show (Addr.add _ _).block ≠ _; rw [add_block]; exact hn104_2) | exact hn104_2) (.string ((rd_T25 l0 x17_1).f2))).trans hx104_1; replace hx104_2 := (cell_far (p := ⟨gb103, 2, none⟩) (by first | (rw [add_block]; exact hn104_2) | (show (Addr.add _ _).block ≠ _; rw [add_block]; exact hn104_2) | exact hn104_2) (.string ((rd_T25 l0 x17_1).f2))).trans hx104_2; replace hx104_3 := (cell_far (p := ⟨gb103, 2, none⟩) (by first | (rw [add_block]; exact hn104_2) | (show (Addr.add _ _).block ≠ _; rw [add_block]; exact hn104_2) | exact hn104_2) (.string ((rd_T25 l0 x17_1).f2))).trans hx104_3; replace hx104_0 := (cell_far (p := ⟨gb103, 3, none⟩) (by first | (rw [add_block]; exact hn104_3) | (show (Addr.add _ _).block ≠ _; rw [add_block]; exact hn104_3) | exact hn104_3) (.slice A102_3 ((rd_T25 l0 x17_1).f3).length c102_3)).trans hx104_0; replace hx104_1 := (cell_far (p := ⟨gb103, 3, none⟩) (by first | (rw [add_block]; exact hn104_3) | (show (Addr.add _ _).block ≠ _; rw [add_block]; exact hn104_3) | exact hn104_3) (.slice A102_3 ((rd_T25 l0 x17_1).f3).length c102_3)).trans hx104_1; replace hx104_2 := (cell_far (p := ⟨gb103, 3, none⟩) (by first | (rw [add_block]; exact hn104_3) | (show (Addr.add _ _).block ≠ _; rw [add_block]; exact hn104_3) | exact hn104_3) (.slice A102_3 ((rd_T25 l0 x17_1).f3).length c102_3)).trans hx104_2; replace hx104_3 := (cell_far (p := ⟨gb103, 3, none⟩) (by first | (rw [add_block]; exact hn104_3) | (show (Addr.add _ _).block ≠ _; rw [add_block]; exact hn104_3) | exact hn104_3) (.slice A102_3 ((rd_T25 l0 x17_1).f3).length c102_3)).trans hx104_3; clear hn104_0; clear hn104_1; clear hn104_2; clear hn104_3; replace p104 := eq_true p104; replace q104 := eq_true q104) | ((with_reducible refine gate_dst (N := 9) rfl ?_); refine box_event ?hg (N := 9) ?hd (cs := #[.int .i64 0, .int .i64 0, .string (⟨#[]⟩ : ByteArray), .slice none 0 0]) (t := 25) ?hr ?_; (case hd => rfl); (case hg => rfl); (case hr => first | (go_simp; done) | (go_simp; rfl)); intro gb105 hg w13 hbox hb; have n0_ := Aside0.mk (blk_below (g := gb103) (o := .cells #[.int .i64 ((rd_T25 l0 x17_1).f0), .int .i64 ((rd_T25 l0 x17_1).f1), .string ((rd_T25 l0 x17_1).f2), .slice A102_3 ((rd_T25 l0 x17_1).f3).length c102_3] 25 (0, 0)) xB hb); have n1_ := Aside0.mk (below_step xHB hb); have n2_ := Aside0.mk (hbox); have n3_ := Aside0.mk ((by rw [hg]; exact (below_size xHB) : w.heap.size ≤ gb105)); have n4_ := Aside0.mk ((by rw [hg]; exact (below_size xHB) : w.heap.size ≤ gb105)); have n5_ := Aside0.mk ((by rw [hg]; exact Nat.ne_of_lt (blk_lt (g := gb103) (o := .cells #[.int .i64 ((rd_T25 l0 x17_1).f0), .int .i64 ((rd_T25 l0 x17_1).f1), .string ((rd_T25 l0 x17_1).f2), .slice A102_3 ((rd_T25 l0 x17_1).f3).length c102_3] 25 (0, 0)) xB) : gb103 ≠ gb105)); have n6_ := Aside0.mk ((by rw [hg]; exact Nat.ne_of_gt (blk_lt (g := gb103) (o := .cells #[.int .i64 ((rd_T25 l0 x17_1).f0), .int .i64 ((rd_T25 l0 x17_1).f1), .string ((rd_T25 l0 x17_1).f2), .slice A102_3 ((rd_T25 l0 x17_1).f3).length c102_3] 25 (0, 0)) xB) : gb105 ≠ gb103)); clear BK103; clear HB; have BK103 := n0_; have HB := n1_; have BK105 := n2_; have GW105 := n3_; have GE105 := n4_; have NB103_105 := n5_; have NB105_103 := n6_; clear n0_ n1_ n2_ n3_ n4_ n5_ n6_; clear hb hbox hg; have hnb14 := NB105_103.out; have hnc14 := NB103_105.out; have hcz15_0 : w13.cell? ⟨gb105, 0, none⟩ = some (.int .i64 0) := (blk_cell BK105.out 0).trans rfl; have hcz15_1 : w13.cell? ⟨gb105, 1, none⟩ = some (.int .i64 0) := (blk_cell BK105.out 1).trans rfl; have hcz15_2 : w13.cell? ⟨gb105, 2, none⟩ = some (.string (⟨#[]⟩ : ByteArray)) := (blk_cell BK105.out 2).trans rfl; have hcz15_3 : w13.cell? ⟨gb105, 3, none⟩ = some (.slice none 0 0) := (blk_cell BK105.out 3).trans rfl; have hfz15_0 := blk_frozen BK105.out 0; have hfz15_1 := blk_frozen BK105.out 1; have hfz15_2 := blk_frozen BK105.out 2; have hfz15_3 := blk_frozen BK105.out 3; have hcz16_0 : w13.cell? ⟨gb103, 0, none⟩ = some (.int .i64 ((rd_T25 l0 x17_1).f0)) := (blk_cell BK103.out 0).trans rfl; have hcz16_1 : w13.cell? ⟨gb103, 1, none⟩ = some (.int .i64 ((rd_T25 l0 x17_1).f1)) := (blk_cell BK103.out 1).trans rfl; have hcz16_2 : w13.cell? ⟨gb103, 2, none⟩ = some (.string ((rd_T25 l0 x17_1).f2)) := (blk_cell BK103.out 2).trans rfl; have hcz16_3 : w13.cell? ⟨gb103, 3, none⟩ = some (.slice A102_3 ((rd_T25 l0 x17_1).f3).length c102_3) := (blk_cell BK103.out 3).trans rfl; have hfz16_0 := blk_frozen BK103.out 0; have hfz16_1 := blk_frozen BK103.out 1; have hfz16_2 := blk_frozen BK103.out 2; have hfz16_3 := blk_frozen BK103.out 3) | ((with_reducible refine gate_dst (N := 29) rfl ?_); refine goesT_ (some 29) rfl rfl (by rfl) hgP #[.agg #[.int .i64 ((rd_T25 l0 x17_1).f0), .int .i64 ((rd_T25 l0 x17_1).f1), .string ((rd_T25 l0 x17_1).f2), .slice A102_3 ((rd_T25 l0 x17_1).f3).length c102_3], .agg #[.int .i64 ((rd_T25 l1 x17_1).f0), .int .i64 ((rd_T25 l1 x17_1).f1), .string ((rd_T25 l1 x17_1).f2), .slice A104_3 ((rd_T25 l1 x17_1).f3).length c104_3]] rfl (by (try simp only [List.map_toArray, List.map_cons, List.map_nil]); first | done | rfl | (simp only [List.length_drop, List.length_take]; rfl)) ?_; (with_reducible refine (PPcalls ((rd_T25 l0 x17_1).f0) ((rd_T25 l0 x17_1).f1) ((rd_T25 l0 x17_1).f2) _ _ ((rd_T25 l0 x17_1).f3) ((rd_T25 l1 x17_1).f0) ((rd_T25 l1 x17_1).f1) ((rd_T25 l1 x17_1).f2) _ _ ((rd_T25 l1 x17_1).f3) true _ ?side1 ?side2 ?side3 ?side4 ?side5 A9.out).mono ?_); (case side1 => repeat (first | (with_reducible first | exact HB.out | apply below_alloc | apply pw_below_drewN | apply below_drew1 | refine below_set ?_ GE103.out | refine below_set ?_ GE105.out) | exact HB.out)); (case side2 => exact Kd.C_below HR102_3.out xHB); (case side3 => exact HC102_3.out); (case side4 => exact Kd.C_below HR104_3.out xHB); (case side5 => exact HC104_3.out); rintro e w17 ⟨rfl, hb⟩; refine ⟨_, rfl, ?_⟩; have n0_ := Aside0.mk (blk_below (g := gb103) (o := .cells #[.int .i64 ((rd_T25 l0 x17_1).f0), .int .i64 ((rd_T25 l0 x17_1).f1), .string ((rd_T25 l0 x17_1).f2), .slice A102_3 ((rd_T25 l0 x17_1).f3).length c102_3] 25 (0, 0)) xB hb); have n1_ := Aside0.mk (blk_below (g := gb105) (o := .cells #[.int .i64 ((rd_T25 l1 x17_1).f0), .int .i64 ((rd_T25 l1 x17_1).f1), .string ((rd_T25 l1 x17_1).f2), .slice A104_3 ((rd_T25 l1 x17_1).f3).length c104_3] 25 (0, 0)) xB hb); have n2_ := Aside0.mk (below_step xHB hb); clear BK103; clear BK105; clear HB; have BK103 := n0_; have BK105 := n1_; have HB := n2_; clear n0_ n1_ n2_; (try clear hb); (try clear hb2); (try clear hk); (try clear hi)))
                  go_roundg k1
                  case measure => have := HK1.out; omega
                  case rel => exact ⟨(wrap64 (x17_1 + 1)), xQ, H', ⟨by have := HK1.out; omega⟩, ⟨xHB⟩⟩
                · replace c10 := Bool.eq_false_iff.mpr c10
                  subst c10
                  have H1 : (some false) = some r := by rw [if_neg (show ¬ (false = true) by decide)] at H; exact H
                  clear H
                  have H := H1
                  clear H1
                  obtain rfl := Option.some.inj H
                  have p102 : 0 ≤ (x17_1 : Int) := of_decide_eq_true (by first | (with_reducible assumption) | assumption)
                  have q102 : x17_1 < (l0.length : Int) := of_decide_eq_true (by first | (with_reducible assumption) | assumption)
                  obtain ⟨ad102, A102_3, c102_3, e102, hx102_0, hx102_1, hx102_2, hx102_3, hl102_3, hi102_3⟩ := at_T25 HR0.out x17_1 p102 q102
                  cases e102
                  replace hx102_0 := (HB.out.cell (World.block_lt_of_cell? w _ hx102_0)).trans hx102_0
                  replace hx102_1 := (HB.out.cell (World.block_lt_of_cell? w _ hx102_1)).trans hx102_1
                  replace hx102_2 := (HB.out.cell (World.block_lt_of_cell? w _ hx102_2)).trans hx102_2
                  replace hx102_3 := (HB.out.cell (World.block_lt_of_cell? w _ hx102_3)).trans hx102_3
                  have HR102_3 := Aside0.mk hi102_3
                  have HC102_3 := Aside0.mk hl102_3
                  clear hi102_3 hl102_3
                  replace p102 := eq_true p102
                  replace q102 := eq_true q102
                  go_wp2_with (first | ((with_reducible refine gate_dst (N := 8) rfl ?_); refine box_event ?hg (N := 8) ?hd (cs := #[.int .i64 0, .int .i64 0, .string (⟨#[]⟩ : ByteArray), .slice none 0 0]) (t := 25) ?hr ?_; (case hd => rfl); (case hg => rfl); (case hr => first | (go_simp; done) | (go_simp; rfl)); intro gb103 hg w18 hbox hb; have n0_ := Aside0.mk (below_step xHB hb); have n1_ := Aside0.mk (hbox); have n2_ := Aside0.mk ((by rw [hg]; exact (below_size xHB) : w.heap.size ≤ gb103)); have n3_ := Aside0.mk ((by rw [hg]; exact (below_size xHB) : w.heap.size ≤ gb103)); clear HB; have HB := n0_; have BK103 := n1_; have GW103 := n2_; have GE103 := n3_; clear n0_ n1_ n2_ n3_; clear hb hbox hg; have hcz19_0 : w18.cell? ⟨gb103, 0, none⟩ = some (.int .i64 0) := (blk_cell BK103.out 0).trans rfl; have hcz19_1 : w18.cell? ⟨gb103, 1, none⟩ = some (.int .i64 0) := (blk_cell BK103.out 1).trans rfl; have hcz19_2 : w18.cell? ⟨gb103, 2, none⟩ = some (.string (⟨#[]⟩ : ByteArray)) := (blk_cell BK103.out 2).trans rfl; have hcz19_3 : w18.cell? ⟨gb103, 3, none⟩ = some (.slice none 0 0) := (blk_cell BK103.out 3).trans rfl; have hfz19_0 := blk_frozen BK103.out 0; have hfz19_1 := blk_frozen BK103.out 1; have hfz19_2 := blk_frozen BK103.out 2; have hfz19_3 := blk_frozen BK103.out 3; have p104 : 0 ≤ (x17_1 : Int) := of_decide_eq_true (by first | (with_reducible assumption) | assumption); have q104 : x17_1 < (l1.length : Int) := of_decide_eq_true (by first | (with_reducible assumption) | assumption); obtain ⟨ad104, A104_3, c104_3, e104, hx104_0, hx104_1, hx104_2, hx104_3, hl104_3, hi104_3⟩ := at_T25 HR1.out x17_1 p104 q104; cases e104; have hn104_0 : ad104.block ≠ gb103 := Nat.ne_of_lt (Nat.lt_of_lt_of_le (by have := World.block_lt_of_cell? _ _ hx104_0; first | rwa [add_block] at this | exact this) GW103.out); have hn104_1 : ad104.block ≠ gb103 := Nat.ne_of_lt (Nat.lt_of_lt_of_le (by have := World.block_lt_of_cell? _ _ hx104_0; first | rwa [add_block] at this | exact this) GW103.out); have hn104_2 : ad104.block ≠ gb103 := Nat.ne_of_lt (Nat.lt_of_lt_of_le (by have := World.block_lt_of_cell? _ _ hx104_0; first | rwa [add_block] at this | exact this) GW103.out); have hn104_3 : ad104.block ≠ gb103 := Nat.ne_of_lt (Nat.lt_of_lt_of_le (by have := World.block_lt_of_cell? _ _ hx104_0; first | rwa [add_block] at this | exact this) GW103.out); replace hx104_0 := (HB.out.cell (World.block_lt_of_cell? w _ hx104_0)).trans hx104_0; replace hx104_1 := (HB.out.cell (World.block_lt_of_cell? w _ hx104_1)).trans hx104_1; replace hx104_2 := (HB.out.cell (World.block_lt_of_cell? w _ hx104_2)).trans hx104_2; replace hx104_3 := (HB.out.cell (World.block_lt_of_cell? w _ hx104_3)).trans hx104_3; have HR104_3 := Aside0.mk hi104_3; have HC104_3 := Aside0.mk hl104_3; clear hi104_3 hl104_3; replace hx104_0 := (cell_far (p := ⟨gb103, 0, none⟩) (by first | (rw [add_block]; exact hn104_0) | (show (Addr.add _ _).block ≠ _; rw [add_block]; exact hn104_0) | exact hn104_0) (.int .i64 ((rd_T25 l0 x17_1).f0))).trans hx104_0; replace hx104_1 := (cell_far (p := ⟨gb103, 0, none⟩) (by first | (rw [add_block]; exact hn104_0) | (show (Addr.add _ _).block ≠ _; rw [add_block]; exact hn104_0) | exact hn104_0) (.int .i64 ((rd_T25 l0 x17_1).f0))).trans hx104_1; replace hx104_2 := (cell_far (p := ⟨gb103, 0, none⟩) (by first | (rw [add_block]; exact hn104_0) | (show (Addr.add _ _).block ≠ _; rw [add_block]; exact hn104_0) | exact hn104_0) (.int .i64 ((rd_T25 l0 x17_1).f0))).trans hx104_2; replace hx104_3 := (cell_far (p := ⟨gb103, 0, none⟩) (by first | (rw [add_block]; exact hn104_0) | (show (Addr.add _ _).block ≠ _; rw [add_block]; exact hn104_0) | exact hn104_0) (.int .i64 ((rd_T25 l0 x17_1).f0))).trans hx104_3; replace hx104_0 := (cell_far (p := ⟨gb103, 1, none⟩) (by first | (rw [add_block]; exact hn104_1) | (show (Addr.add _ _).block ≠ _; rw [add_block]; exact hn104_1) | exact hn104_1) (.int .i64 ((rd_T25 l0 x17_1).f1))).trans hx104_0; replace hx104_1 := (cell_far (p := ⟨gb103, 1, none⟩) (by first | (rw [add_block]; exact hn104_1) | (show (Addr.add _ _).block ≠ _; rw [add_block]; exact hn104_1) | exact hn104_1) (.int .i64 ((rd_T25 l0 x17_1).f1))).trans hx104_1; replace hx104_2 := (cell_far (p := ⟨gb103, 1, none⟩) (by first | (rw [add_block]; exact hn104_1) | (show (Addr.add _ _).block ≠ _; rw [add_block]; exact hn104_1) | exact hn104_1) (.int .i64 ((rd_T25 l0 x17_1).f1))).trans hx104_2; replace hx104_3 := (cell_far (p := ⟨gb103, 1, none⟩) (by first | (rw [add_block]; exact hn104_1) | (show (Addr.add _ _).block ≠ _; rw [add_block]; exact hn104_1) | exact hn104_1) (.int .i64 ((rd_T25 l0 x17_1).f1))).trans hx104_3; replace hx104_0 := (cell_far (p := ⟨gb103, 2, none⟩) (by first | (rw [add_block]; exact hn104_2) | (show (Addr.add _ _).block ≠ _; rw [add_block]; exact hn104_2) | exact hn104_2) (.string ((rd_T25 l0 x17_1).f2))).trans hx104_0; replace hx104_1 := (cell_far (p := ⟨gb103, 2, none⟩) (by first | (rw [add_block]; exact hn104_2) | (show (Addr.add _ _).block ≠ _; rw [add_block]; exact hn104_2) | exact hn104_2) (.string ((rd_T25 l0 x17_1).f2))).trans hx104_1; replace hx104_2 := (cell_far (p := ⟨gb103, 2, none⟩) (by first | (rw [add_block]; exact hn104_2) | (show (Addr.add _ _).block ≠ _; rw [add_block]; exact hn104_2) | exact hn104_2) (.string ((rd_T25 l0 x17_1).f2))).trans hx104_2; replace hx104_3 := (cell_far (p := ⟨gb103, 2, none⟩) (by first | (rw [add_block]; exact hn104_2) | (show (Addr.add _ _).block ≠ _; rw [add_block]; exact hn104_2) | exact hn104_2) (.string ((rd_T25 l0 x17_1).f2))).trans hx104_3; replace hx104_0 := (cell_far (p := ⟨gb103, 3, none⟩) (by first | (rw [add_block]; exact hn104_3) | (show (Addr.add _ _).block ≠ _; rw [add_block]; exact hn104_3) | exact hn104_3) (.slice A102_3 ((rd_T25 l0 x17_1).f3).length c102_3)).trans hx104_0; replace hx104_1 := (cell_far (p := ⟨gb103, 3, none⟩) (by first | (rw [add_block]; exact hn104_3) | (show (Addr.add _ _).block ≠ _; rw [add_block]; exact hn104_3) | exact hn104_3) (.slice A102_3 ((rd_T25 l0 x17_1).f3).length c102_3)).trans hx104_1; replace hx104_2 := (cell_far (p := ⟨gb103, 3, none⟩) (by first | (rw [add_block]; exact hn104_3) | (show (Addr.add _ _).block ≠ _; rw [add_block]; exact hn104_3) | exact hn104_3) (.slice A102_3 ((rd_T25 l0 x17_1).f3).length c102_3)).trans hx104_2; replace hx104_3 := (cell_far (p := ⟨gb103, 3, none⟩) (by first | (rw [add_block]; exact hn104_3) | (show (Addr.add _ _).block ≠ _; rw [add_block]; exact hn104_3) | exact hn104_3) (.slice A102_3 ((rd_T25 l0 x17_1).f3).length c102_3)).trans hx104_3; clear hn104_0; clear hn104_1; clear hn104_2; clear hn104_3; replace p104 := eq_true p104; replace q104 := eq_true q104) | ((with_reducible refine gate_dst (N := 9) rfl ?_); refine box_event ?hg (N := 9) ?hd (cs := #[.int .i64 0, .int .i64 0, .string (⟨#[]⟩ : ByteArray), .slice none 0 0]) (t := 25) ?hr ?_; (case hd => rfl); (case hg => rfl); (case hr => first | (go_simp; done) | (go_simp; rfl)); intro gb105 hg w20 hbox hb; have n0_ := Aside0.mk (blk_below (g := gb103) (o := .cells #[.int .i64 ((rd_T25 l0 x17_1).f0), .int .i64 ((rd_T25 l0 x17_1).f1), .string ((rd_T25 l0 x17_1).f2), .slice A102_3 ((rd_T25 l0 x17_1).f3).length c102_3] 25 (0, 0)) xB hb); have n1_ := Aside0.mk (below_step xHB hb); have n2_ := Aside0.mk (hbox); have n3_ := Aside0.mk ((by rw [hg]; exact (below_size xHB) : w.heap.size ≤ gb105)); have n4_ := Aside0.mk ((by rw [hg]; exact (below_size xHB) : w.heap.size ≤ gb105)); have n5_ := Aside0.mk ((by rw [hg]; exact Nat.ne_of_lt (blk_lt (g := gb103) (o := .cells #[.int .i64 ((rd_T25 l0 x17_1).f0), .int .i64 ((rd_T25 l0 x17_1).f1), .string ((rd_T25 l0 x17_1).f2), .slice A102_3 ((rd_T25 l0 x17_1).f3).length c102_3] 25 (0, 0)) xB) : gb103 ≠ gb105)); have n6_ := Aside0.mk ((by rw [hg]; exact Nat.ne_of_gt (blk_lt (g := gb103) (o := .cells #[.int .i64 ((rd_T25 l0 x17_1).f0), .int .i64 ((rd_T25 l0 x17_1).f1), .string ((rd_T25 l0 x17_1).f2), .slice A102_3 ((rd_T25 l0 x17_1).f3).length c102_3] 25 (0, 0)) xB) : gb105 ≠ gb103)); clear BK103; clear HB; have BK103 := n0_; have HB := n1_; have BK105 := n2_; have GW105 := n3_; have GE105 := n4_; have NB103_105 := n5_; have NB105_103 := n6_; clear n0_ n1_ n2_ n3_ n4_ n5_ n6_; clear hb hbox hg; have hnb21 := NB105_103.out; have hnc21 := NB103_105.out; have hcz22_0 : w20.cell? ⟨gb105, 0, none⟩ = some (.int .i64 0) := (blk_cell BK105.out 0).trans rfl; have hcz22_1 : w20.cell? ⟨gb105, 1, none⟩ = some (.int .i64 0) := (blk_cell BK105.out 1).trans rfl; have hcz22_2 : w20.cell? ⟨gb105, 2, none⟩ = some (.string (⟨#[]⟩ : ByteArray)) := (blk_cell BK105.out 2).trans rfl; have hcz22_3 : w20.cell? ⟨gb105, 3, none⟩ = some (.slice none 0 0) := (blk_cell BK105.out 3).trans rfl; have hfz22_0 := blk_frozen BK105.out 0; have hfz22_1 := blk_frozen BK105.out 1; have hfz22_2 := blk_frozen BK105.out 2; have hfz22_3 := blk_frozen BK105.out 3; have hcz23_0 : w20.cell? ⟨gb103, 0, none⟩ = some (.int .i64 ((rd_T25 l0 x17_1).f0)) := (blk_cell BK103.out 0).trans rfl; have hcz23_1 : w20.cell? ⟨gb103, 1, none⟩ = some (.int .i64 ((rd_T25 l0 x17_1).f1)) := (blk_cell BK103.out 1).trans rfl; have hcz23_2 : w20.cell? ⟨gb103, 2, none⟩ = some (.string ((rd_T25 l0 x17_1).f2)) := (blk_cell BK103.out 2).trans rfl; have hcz23_3 : w20.cell? ⟨gb103, 3, none⟩ = some (.slice A102_3 ((rd_T25 l0 x17_1).f3).length c102_3) := (blk_cell BK103.out 3).trans rfl; have hfz23_0 := blk_frozen BK103.out 0; have hfz23_1 := blk_frozen BK103.out 1; have hfz23_2 := blk_frozen BK103.out 2; have hfz23_3 := blk_frozen BK103.out 3) | ((with_reducible refine gate_dst (N := 29) rfl ?_); refine goesT_ (some 29) rfl rfl (by rfl) hgP #[.agg #[.int .i64 ((rd_T25 l0 x17_1).f0), .int .i64 ((rd_T25 l0 x17_1).f1), .string ((rd_T25 l0 x17_1).f2), .slice A102_3 ((rd_T25 l0 x17_1).f3).length c102_3], .agg #[.int .i64 ((rd_T25 l1 x17_1).f0), .int .i64 ((rd_T25 l1 x17_1).f1), .string ((rd_T25 l1 x17_1).f2), .slice A104_3 ((rd_T25 l1 x17_1).f3).length c104_3]] rfl (by (try simp only [List.map_toArray, List.map_cons, List.map_nil]); first | done | rfl | (simp only [List.length_drop, List.length_take]; rfl)) ?_; (with_reducible refine (PPcalls ((rd_T25 l0 x17_1).f0) ((rd_T25 l0 x17_1).f1) ((rd_T25 l0 x17_1).f2) _ _ ((rd_T25 l0 x17_1).f3) ((rd_T25 l1 x17_1).f0) ((rd_T25 l1 x17_1).f1) ((rd_T25 l1 x17_1).f2) _ _ ((rd_T25 l1 x17_1).f3) false _ ?side1 ?side2 ?side3 ?side4 ?side5 A9.out).mono ?_); (case side1 => repeat (first | (with_reducible first | exact HB.out | apply below_alloc | apply pw_below_drewN | apply below_drew1 | refine below_set ?_ GE103.out | refine below_set ?_ GE105.out) | exact HB.out)); (case side2 => exact Kd.C_below HR102_3.out xHB); (case side3 => exact HC102_3.out); (case side4 => exact Kd.C_below HR104_3.out xHB); (case side5 => exact HC104_3.out); rintro e w24 ⟨rfl, hb⟩; refine ⟨_, rfl, ?_⟩; have n2_ := Aside0.mk (below_step xHB hb); clear BK103; clear BK105; clear HB; have HB := n2_; clear n2_; (try clear hb); (try clear hb2); (try clear hk); (try clear hi)))
                  go_ret
                  exact ⟨xR, xHB⟩
              · rw [if_neg c8] at H
                exact absurd H (by simp)
            · rw [if_neg c7] at H
              exact absurd H (by simp)
          · rw [if_neg c6] at H
            exact absurd H (by simp)
        · rw [if_neg c5] at H
          have c5b0 : decide (x17_1 < (l0.length : Int)) = false := decide_eq_false c5
          clear c5
          obtain rfl := Option.some.inj H
          go_wp2
          go_ret
          exact ⟨xR, xHB⟩
  · rw [if_neg c4] at H
    have c4b0 : ((l0.length : Int) == (l1.length : Int)) = false := beq_eq_false_iff_ne.mpr c4
    have c4b1 : ((l0.length : Int) != (l1.length : Int)) = true := bne_iff_ne.mpr c4
    have c4b2 : (l0.length == l1.length) = false := by first | simpa using c4 | (simp at c4 ⊢; omega)
    obtain rfl := Option.some.inj H
    go_enter Try.func36, Try.ntmps36
    go_wp2
    go_ret
    exact ⟨xR, xHB⟩

end Go.Proofs.Ytebflncfgjnkkaa.X
