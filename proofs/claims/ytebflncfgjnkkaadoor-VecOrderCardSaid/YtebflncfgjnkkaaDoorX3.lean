-- Written by a program of this session (xprint.py, over the kit's printer) out of the translation. Not trusted: Lean checks it.
import Derived.Test.YtebflncfgjnkkaaDoorX0
namespace Go.Proofs.YtebflncfgjnkkaaDoor.X
open Go.RowKit Go.Proofs.YtebflncfgjnkkaaDoorW.PrintWords Go.Proofs.YtebflncfgjnkkaaDoorW.PrintLast Go.Proofs.YtebflncfgjnkkaaDoorW.PrintMore
attribute [local go_sem] max2_int min2_int max_two min_two max_three min_three max_four min_four   -- for this text's walks alone
set_option linter.unusedVariables false
set_option linter.unusedSimpArgs false

/-- What the function value that vec_by takes answers. -/
class PP_vec_by where
  f : Int → Int → Option (Int)
/-! ### vec_by: function 62 -/
def vec_by.l0 [PP : PP_vec_by] : Nat → List (S24) → Int → Int → Int → Int → Int → Option (Int × Int × Int)
  | 0, _, _, _, _, _, _ => none
  | k + 1, x9, x10, x11, x103000, x103001, x103002 => if x11 < x10 then (if 0 ≤ x11 then (if x11 < (x9.length : Int) then ((PP.f x103000 ((rd_T24 x9 x11).f0)).bind fun t106 => ((PP.f x103001 ((rd_T24 x9 x11).f1)).bind fun t107 => ((PP.f x103002 ((rd_T24 x9 x11).f2)).bind fun t108 => (vec_by.l0 k x9 x10 (wrap64 (x11 + 1)) t106 t107 t108)))) else (none)) else (none)) else (some (x103000, x103001, x103002))
def vec_by.f [PP : PP_vec_by] (k : Nat)  (a1_0 : Int) (a1_1 : Int) (a1_2 : Int) (l2 : List (S24)) : Option (Int × Int × Int) := vec_by.l0 k l2 (l2.length : Int) 0 a1_0 a1_1 a1_2
theorem vec_by.monoP_l {PP1 PP2 : PP_vec_by} (hP_ : ∀ y0_ y1_, LeO (PP1.f y0_ y1_) (PP2.f y0_ y1_)) : ∀ k, (∀ y0 y1 y2 y3 y4 y5, LeO (vec_by.l0 (PP := PP1) k y0 y1 y2 y3 y4 y5) (vec_by.l0 (PP := PP2) (k + 1) y0 y1 y2 y3 y4 y5))
  | 0 => fun _ _ _ _ _ _ r h => by simp [vec_by.l0] at h
  | k + 1 => by
    have ih0 := vec_by.monoP_l hP_ k
    · intro y0 y1 y2 y3 y4 y5
      unfold vec_by.l0
      repeat' first
      | (with_reducible exact hP_ _ _)
      | (with_reducible exact ih0 _ _ _ _ _ _)
      | (with_reducible exact LeO.refl _)
      | (with_reducible exact LeO.none _)
      | (with_reducible refine LeO.ite ?_ ?_)
      | (with_reducible refine LeO.bind ?_ (fun _ => ?_))
      | exact ih0 _ _ _ _ _ _
      | exact LeO.none _
      | refine LeO.ite ?_ ?_
      | refine LeO.bind ?_ (fun _ => ?_)
theorem vec_by.monoP {PP1 PP2 : PP_vec_by} (hP_ : ∀ y0_ y1_, LeO (PP1.f y0_ y1_) (PP2.f y0_ y1_)) : ∀ a0 a1 a2 a3 k, LeO (vec_by.f (PP := PP1) k a0 a1 a2 a3) (vec_by.f (PP := PP2) (k + 1) a0 a1 a2 a3) := by
  intro a0 a1 a2 a3 k
  have ih0 := vec_by.monoP_l hP_ k
  unfold vec_by.f
  repeat' first
      | (with_reducible exact hP_ _ _)
      | (with_reducible exact ih0 _ _ _ _ _ _)
      | (with_reducible exact LeO.refl _)
      | (with_reducible exact LeO.none _)
      | (with_reducible refine LeO.ite ?_ ?_)
      | (with_reducible refine LeO.bind ?_ (fun _ => ?_))
      | exact ih0 _ _ _ _ _ _
      | exact LeO.none _
      | refine LeO.ite ?_ ?_
      | refine LeO.bind ?_ (fun _ => ?_)
def vec_by.T4 : Bool × List (List Nat × List Nat) := (true, [([], []), ([], []), ([1], [1]), ([], []), ([3], [3]), ([0, 2, 4], [0, 2, 4]), ([], []), ([], []), ([7], [7]), ([], []), ([9], [9]), ([6, 8, 10, 5], [6, 8, 10]), ([], []), ([], []), ([13], [13]), ([], []), ([15], [15]), ([12, 14, 16, 11], [12, 14, 16]), ([5, 11, 17], [5, 11, 17]), ([18, 17, 0, 1, 2, 3, 4, 5, 6, 7, 8, 9, 10, 11, 12, 13, 14, 15, 16, 17, 18], [18])])
def vec_by.B4 : List Nat := [0, 0, 2, 0, 8, 31, 0, 0, 128, 0, 512, 2047, 0, 0, 8192, 0, 32768, 131071, 262143, 524287]
theorem vec_by.tab4 : rtab .any (opsOf Tryd.f62 4) = vec_by.T4 := by kernel_rfl
theorem vec_by.bits4 : waitsOk vec_by.T4.2 vec_by.B4 = true := by kernel_rfl
set_option maxHeartbeats 8000000 in
set_option maxRecDepth 100000 in
theorem vec_by.calls [PP : PP_vec_by] (k : Nat)  (a1_0 : Int) (a1_1 : Int) (a1_2 : Int) (A2 : Option Addr) (c2 : Nat) (l2 : List (S24)) (r1 : Int) (r2 : Int) (r3 : Int) (w : World) (gP : Nat) (lbP : Array Value) (hgP : ∃ fn : Func, Tryd.prog.funcs[gP]? = some fn ∧ (fn.name == "runtime.NumGoroutine") = false ∧ fn.body.isSome = true) (PPcalls : ∀ (x0 : Int) (x1 : Int) (r_ : Int) (w_ : World), Below w.heap.size w w_ → PP.f x0 x1 = some r_ → Calls Tryd.prog gP (#[.int .i64 x0, .int .i64 x1] ++ lbP) w_ fun e w' => e = .returned (.int .i64 r_) ∧ Below w_.heap.size w_ w') (hr2 : Kd.C k24 w A2 l2.length l2) (hc2 : l2.length ≤ c2) (h : vec_by.f k a1_0 a1_1 a1_2 l2 = some (r1, r2, r3)) :
    Calls Tryd.prog 62 #[(.func (.func gP) #[] lbP), .agg #[.int .i64 a1_0, .int .i64 a1_1, .int .i64 a1_2], .slice A2 l2.length c2] w fun e w' => e = .returned (.agg #[.int .i64 r1, .int .i64 r2, .int .i64 r3]) ∧ Below w.heap.size w w' := by
  have hu24 := Tryd.underlying24
  have HR2 := Aside0.mk hr2
  have HC2 := Aside0.mk hc2
  clear hr2 hc2
  have HB := Aside0.mk (Below.refl w.heap.size w)
  have H : (vec_by.l0 k l2 (l2.length : Int) 0 a1_0 a1_1 a1_2) = some (r1, r2, r3) := h
  clear h
  have H' := Aside0.mk H
  clear H
  go_enter Tryd.func62, Tryd.ntmps62
  go_wp2_with (first | ((with_reducible refine gate_dst (N := 4) rfl ?_); refine box_event ?hg (N := 4) ?hd (cs := #[.int .i64 a1_0, .int .i64 a1_1, .int .i64 a1_2]) (t := 24) ?hr ?_; (case hd => rfl); (case hg => rfl); (case hr => first | (go_simp; done) | (go_simp; rfl)); intro gb102 hg w4 hbox hb; have n0_ := Aside0.mk (below_step xHB hb); have n1_ := Aside0.mk (hbox); have n2_ := Aside0.mk ((by rw [hg]; exact (below_size xHB) : w.heap.size ≤ gb102)); have n3_ := Aside0.mk ((by rw [hg]; exact (below_size xHB) : w.heap.size ≤ gb102)); clear HB; have HB := n0_; have BK102 := n1_; have GW102 := n2_; have GE102 := n3_; clear n0_ n1_ n2_ n3_; clear hb hbox hg) | ((with_reducible refine gate_dst (N := 6) rfl ?_); refine box_event ?hg (N := 6) ?hd (cs := #[.int .i64 0, .int .i64 0, .int .i64 0]) (t := 24) ?hr ?_; (case hd => rfl); (case hg => rfl); (case hr => first | (go_simp; done) | (go_simp; rfl)); intro gb103 hg w5 hbox hb; have n0_ := Aside0.mk (blk_below (g := gb102) (o := .cells #[.int .i64 a1_0, .int .i64 a1_1, .int .i64 a1_2] 24 (0, 0)) xB hb); have n1_ := Aside0.mk (below_step xHB hb); have n2_ := Aside0.mk (hbox); have n3_ := Aside0.mk ((by rw [hg]; exact (below_size xHB) : w.heap.size ≤ gb103)); have n4_ := Aside0.mk ((by rw [hg]; exact (below_size xHB) : w.heap.size ≤ gb103)); have n5_ := Aside0.mk ((by rw [hg]; exact Nat.ne_of_lt (blk_lt (g := gb102) (o := .cells #[.int .i64 a1_0, .int .i64 a1_1, .int .i64 a1_2] 24 (0, 0)) xB) : gb102 ≠ gb103)); have n6_ := Aside0.mk ((by rw [hg]; exact Nat.ne_of_gt (blk_lt (g := gb102) (o := .cells #[.int .i64 a1_0, .int .i64 a1_1, .int .i64 a1_2] 24 (0, 0)) xB) : gb103 ≠ gb102)); clear BK102; clear HB; have BK102 := n0_; have HB := n1_; have BK103 := n2_; have GW103 := n3_; have GE103 := n4_; have NB102_103 := n5_; have NB103_102 := n6_; clear n0_ n1_ n2_ n3_ n4_ n5_ n6_; clear hb hbox hg))
  go_loopg [11] k (fun kq v11 w' => ∃ (x11_1 : Int) (x103000_1 : Int) (x103001_1 : Int) (x103002_1 : Int), v11 = .int .i64 x11_1 ∧ Aside0 (vec_by.l0 kq l2 (l2.length : Int) x11_1 x103000_1 x103001_1 x103002_1 = some (r1, r2, r3)) ∧ Aside0 (kq ≤ k) ∧ Aside0 (w'.heap[gb102]? = some (.cells #[.int .i64 x103000_1, .int .i64 x103001_1, .int .i64 x103002_1] 24 (0, 0))) ∧ Aside0 (w'.heap[gb103]? = some (.cells #[.int .i64 0, .int .i64 0, .int .i64 0] 24 (0, 0))) ∧ Aside0 (Below w.heap.size w w'))
  case atStart => exact ⟨(0), (a1_0), (a1_1), (a1_2), xQ, H', ⟨Nat.le_refl _⟩, ⟨xB⟩, ⟨xB⟩, ⟨xHB⟩⟩
  case round =>
    clear H'
    try clear c2; try clear p2
    obtain ⟨x11_1, x103000_1, x103001_1, x103002_1, rfl, HA, HK1, BK102, BK103, HB⟩ := hrel
    cases gk with
    | zero => exact absurd HA.out (by simp [vec_by.l0])
    | succ k1 =>
      have H := HA.out; clear HA
      simp only [vec_by.l0] at H
      by_cases c6 : x11_1 < (l2.length : Int)
      · rw [if_pos c6] at H
        have c6b0 : decide (x11_1 < (l2.length : Int)) = true := decide_eq_true c6
        clear c6
        by_cases c7 : 0 ≤ x11_1
        · rw [if_pos c7] at H
          have c7b0 : decide (0 ≤ x11_1) = true := decide_eq_true c7
          clear c7
          by_cases c8 : x11_1 < (l2.length : Int)
          · rw [if_pos c8] at H
            have c8b0 : decide (x11_1 < (l2.length : Int)) = true := decide_eq_true c8
            clear c8
            replace H := Option.bind_eq_some_iff.mp H
            obtain ⟨t106, A90, H⟩ := H
            replace H : ((PP.f x103001_1 ((rd_T24 l2 x11_1).f1)).bind fun t107 => ((PP.f x103002_1 ((rd_T24 l2 x11_1).f2)).bind fun t108 => (vec_by.l0 k1 l2 (l2.length : Int) (wrap64 (x11_1 + 1)) t106 t107 t108))) = some (r1, r2, r3) := H
            have A9 := Aside0.mk A90
            clear A90
            replace H := Option.bind_eq_some_iff.mp H
            obtain ⟨t107, A100, H⟩ := H
            replace H : ((PP.f x103002_1 ((rd_T24 l2 x11_1).f2)).bind fun t108 => (vec_by.l0 k1 l2 (l2.length : Int) (wrap64 (x11_1 + 1)) t106 t107 t108)) = some (r1, r2, r3) := H
            have A10 := Aside0.mk A100
            clear A100
            replace H := Option.bind_eq_some_iff.mp H
            obtain ⟨t108, A110, H⟩ := H
            replace H : (vec_by.l0 k1 l2 (l2.length : Int) (wrap64 (x11_1 + 1)) t106 t107 t108) = some (r1, r2, r3) := H
            have A11 := Aside0.mk A110
            clear A110
            have H' := Aside0.mk H
            clear H
            have p104 : 0 ≤ (x11_1 : Int) := of_decide_eq_true (by first | (with_reducible assumption) | assumption)
            have q104 : x11_1 < (l2.length : Int) := of_decide_eq_true (by first | (with_reducible assumption) | assumption)
            obtain ⟨ad104, e104, hx104_0, hx104_1, hx104_2⟩ := at_T24 HR2.out x11_1 p104 q104
            cases e104
            replace hx104_0 := (HB.out.cell (World.block_lt_of_cell? w _ hx104_0)).trans hx104_0
            replace hx104_1 := (HB.out.cell (World.block_lt_of_cell? w _ hx104_1)).trans hx104_1
            replace hx104_2 := (HB.out.cell (World.block_lt_of_cell? w _ hx104_2)).trans hx104_2
            replace p104 := eq_true p104
            replace q104 := eq_true q104
            try go_wp2_with (first | ((with_reducible refine gate_dst (N := 8) rfl ?_); refine box_event ?hg (N := 8) ?hd (cs := #[.int .i64 0, .int .i64 0, .int .i64 0]) (t := 24) ?hr ?_; (case hd => rfl); (case hg => rfl); (case hr => first | (go_simp; done) | (go_simp; rfl)); intro gb105 hg w12 hbox hb; have n0_ := Aside0.mk (blk_below (g := gb102) (o := .cells #[.int .i64 x103000_1, .int .i64 x103001_1, .int .i64 x103002_1] 24 (0, 0)) xB hb); have n1_ := Aside0.mk (blk_below (g := gb103) (o := .cells #[.int .i64 0, .int .i64 0, .int .i64 0] 24 (0, 0)) xB hb); have n2_ := Aside0.mk (below_step xHB hb); have n3_ := Aside0.mk (hbox); have n4_ := Aside0.mk ((by rw [hg]; exact (below_size xHB) : w.heap.size ≤ gb105)); have n5_ := Aside0.mk ((by rw [hg]; exact (below_size xHB) : w.heap.size ≤ gb105)); have n6_ := Aside0.mk ((by rw [hg]; exact Nat.ne_of_lt (blk_lt (g := gb102) (o := .cells #[.int .i64 x103000_1, .int .i64 x103001_1, .int .i64 x103002_1] 24 (0, 0)) xB) : gb102 ≠ gb105)); have n7_ := Aside0.mk ((by rw [hg]; exact Nat.ne_of_gt (blk_lt (g := gb102) (o := .cells #[.int .i64 x103000_1, .int .i64 x103001_1, .int .i64 x103002_1] 24 (0, 0)) xB) : gb105 ≠ gb102)); have n8_ := Aside0.mk ((by rw [hg]; exact Nat.ne_of_lt (blk_lt (g := gb103) (o := .cells #[.int .i64 0, .int .i64 0, .int .i64 0] 24 (0, 0)) xB) : gb103 ≠ gb105)); have n9_ := Aside0.mk ((by rw [hg]; exact Nat.ne_of_gt (blk_lt (g := gb103) (o := .cells #[.int .i64 0, .int .i64 0, .int .i64 0] 24 (0, 0)) xB) : gb105 ≠ gb103)); clear BK102; clear BK103; clear HB; have BK102 := n0_; have BK103 := n1_; have HB := n2_; have BK105 := n3_; have GW105 := n4_; have GE105 := n5_; have NB102_105 := n6_; have NB105_102 := n7_; have NB103_105 := n8_; have NB105_103 := n9_; clear n0_ n1_ n2_ n3_ n4_ n5_ n6_ n7_ n8_ n9_; clear hb hbox hg; have hnb13 := NB105_102.out; have hnc13 := NB102_105.out; have hnb14 := NB105_103.out; have hnc14 := NB103_105.out; have hcz15_0 : w12.cell? ⟨gb105, 0, none⟩ = some (.int .i64 0) := (blk_cell BK105.out 0).trans rfl; have hcz15_1 : w12.cell? ⟨gb105, 1, none⟩ = some (.int .i64 0) := (blk_cell BK105.out 1).trans rfl; have hcz15_2 : w12.cell? ⟨gb105, 2, none⟩ = some (.int .i64 0) := (blk_cell BK105.out 2).trans rfl; have hfz15_0 := blk_frozen BK105.out 0; have hfz15_1 := blk_frozen BK105.out 1; have hfz15_2 := blk_frozen BK105.out 2))
            have n0_ : Aside0 ((((w12.setCell ⟨gb105, 0, none⟩ (.int .i64 ((rd_T24 l2 x11_1).f0))).setCell ⟨gb105, 1, none⟩ (.int .i64 ((rd_T24 l2 x11_1).f1))).setCell ⟨gb105, 2, none⟩ (.int .i64 ((rd_T24 l2 x11_1).f2))).heap[gb102]? = some (.cells #[.int .i64 x103000_1, .int .i64 x103001_1, .int .i64 x103002_1] 24 (0, 0))) := ⟨xB⟩; have n1_ : Aside0 ((((w12.setCell ⟨gb105, 0, none⟩ (.int .i64 ((rd_T24 l2 x11_1).f0))).setCell ⟨gb105, 1, none⟩ (.int .i64 ((rd_T24 l2 x11_1).f1))).setCell ⟨gb105, 2, none⟩ (.int .i64 ((rd_T24 l2 x11_1).f2))).heap[gb103]? = some (.cells #[.int .i64 0, .int .i64 0, .int .i64 0] 24 (0, 0))) := ⟨xB⟩; have n2_ : Aside0 ((((w12.setCell ⟨gb105, 0, none⟩ (.int .i64 ((rd_T24 l2 x11_1).f0))).setCell ⟨gb105, 1, none⟩ (.int .i64 ((rd_T24 l2 x11_1).f1))).setCell ⟨gb105, 2, none⟩ (.int .i64 ((rd_T24 l2 x11_1).f2))).heap[gb105]? = some (.cells #[.int .i64 ((rd_T24 l2 x11_1).f0), .int .i64 ((rd_T24 l2 x11_1).f1), .int .i64 ((rd_T24 l2 x11_1).f2)] 24 (0, 0))) := ⟨xB⟩; have n3_ : Aside0 (Below w.heap.size w (((w12.setCell ⟨gb105, 0, none⟩ (.int .i64 ((rd_T24 l2 x11_1).f0))).setCell ⟨gb105, 1, none⟩ (.int .i64 ((rd_T24 l2 x11_1).f1))).setCell ⟨gb105, 2, none⟩ (.int .i64 ((rd_T24 l2 x11_1).f2)))) := ⟨xHB⟩; (try clear BK102); (try clear BK103); (try clear BK105); (try clear HB); generalize (((w12.setCell ⟨gb105, 0, none⟩ (.int .i64 ((rd_T24 l2 x11_1).f0))).setCell ⟨gb105, 1, none⟩ (.int .i64 ((rd_T24 l2 x11_1).f1))).setCell ⟨gb105, 2, none⟩ (.int .i64 ((rd_T24 l2 x11_1).f2))) = w16 at n0_ n1_ n2_ n3_ ⊢; have BK102 := n0_; have BK103 := n1_; have BK105 := n2_; have HB := n3_; clear n0_ n1_ n2_ n3_; have n0_ := Aside0.mk (blk_drew BK102.out); have n1_ := Aside0.mk (blk_drew BK103.out); have n2_ := Aside0.mk (blk_drew BK105.out); have n3_ := Aside0.mk (below_drew1 HB.out); clear BK102; clear BK103; clear BK105; clear HB; have BK102 := n0_; have BK103 := n1_; have BK105 := n2_; have HB := n3_; clear n0_ n1_ n2_ n3_
            refine start_ (n := 20) (S := fun w' => w'.cell? ⟨gb102, 0, none⟩ = some (.int .i64 x103000_1) ∧ w'.cell? ⟨gb102, 1, none⟩ = some (.int .i64 x103001_1) ∧ w'.cell? ⟨gb102, 2, none⟩ = some (.int .i64 x103002_1) ∧ w'.cell? ⟨gb105, 0, none⟩ = some (.int .i64 ((rd_T24 l2 x11_1).f0)) ∧ w'.cell? ⟨gb105, 1, none⟩ = some (.int .i64 ((rd_T24 l2 x11_1).f1)) ∧ w'.cell? ⟨gb105, 2, none⟩ = some (.int .i64 ((rd_T24 l2 x11_1).f2))) (ds := [19]) #[false, false, false, false, false, false, false, false, false, false, false, false, false, false, false, false, false, false, false, false] (by kernel_rfl) rfl rfl ⟨(blk_cell BK102.out 0).trans rfl, (blk_cell BK102.out 1).trans rfl, (blk_cell BK102.out 2).trans rfl, (blk_cell BK105.out 0).trans rfl, (blk_cell BK105.out 1).trans rfl, (blk_cell BK105.out 2).trans rfl⟩ (fun hHeld => ?_); refine with_tabW vec_by.tab4 vec_by.bits4 (fun HT_ HW_ => ?_)
            generalize w16.drew = w17 at BK102 BK103 BK105 HB hHeld ⊢
            refine pure_ (i := 0) (N := some 15) (v := ?_) (a' := ?_) #[true, false, false, false, false, false, false, false, false, false, false, false, false, false, false, false, false, false, false, false] rfl rfl (any_of HT_.out (by kernel_rfl)) (fun _ _ _ h => h) (Or.inl ⟨by rfl, ?_⟩) ?_ ?_; rotate_left; (· intro w'; go_simp; with_reducible rfl); rotate_left; (· simp only [Act.put, List.setIfInBounds_toArray, List.set_cons_zero, List.set_cons_succ, i64_w, i32_w]; rfl)
            refine pure_ (i := 1) (N := some 16) (v := ?_) (a' := ?_) #[true, true, false, false, false, false, false, false, false, false, false, false, false, false, false, false, false, false, false, false] rfl rfl (any_of HT_.out (by kernel_rfl)) (fun _ _ _ h => h) (Or.inl ⟨by rfl, ?_⟩) ?_ ?_; rotate_left; (· intro w'; go_simp; with_reducible rfl); rotate_left; (· simp only [Act.put, List.setIfInBounds_toArray, List.set_cons_zero, List.set_cons_succ, i64_w, i32_w]; rfl)
            refine pure_ (i := 3) (N := some 18) (v := ?_) (a' := ?_) #[true, true, false, true, false, false, false, false, false, false, false, false, false, false, false, false, false, false, false, false] rfl rfl (any_of HT_.out (by kernel_rfl)) (fun _ _ _ h => h) (Or.inl ⟨by rfl, ?_⟩) ?_ ?_; rotate_left; (· intro w'; go_simp; with_reducible rfl); rotate_left; (· simp only [Act.put, List.setIfInBounds_toArray, List.set_cons_zero, List.set_cons_succ, i64_w, i32_w]; rfl)
            refine pure_ (i := 6) (N := some 21) (v := ?_) (a' := ?_) #[true, true, false, true, false, false, true, false, false, false, false, false, false, false, false, false, false, false, false, false] rfl rfl (any_of HT_.out (by kernel_rfl)) (fun _ _ _ h => h) (Or.inl ⟨by rfl, ?_⟩) ?_ ?_; rotate_left; (· intro w'; go_simp; with_reducible rfl); rotate_left; (· simp only [Act.put, List.setIfInBounds_toArray, List.set_cons_zero, List.set_cons_succ, i64_w, i32_w]; rfl)
            refine pure_ (i := 7) (N := some 22) (v := ?_) (a' := ?_) #[true, true, false, true, false, false, true, true, false, false, false, false, false, false, false, false, false, false, false, false] rfl rfl (any_of HT_.out (by kernel_rfl)) (fun _ _ _ h => h) (Or.inl ⟨by rfl, ?_⟩) ?_ ?_; rotate_left; (· intro w'; go_simp; with_reducible rfl); rotate_left; (· simp only [Act.put, List.setIfInBounds_toArray, List.set_cons_zero, List.set_cons_succ, i64_w, i32_w]; rfl)
            refine pure_ (i := 9) (N := some 24) (v := ?_) (a' := ?_) #[true, true, false, true, false, false, true, true, false, true, false, false, false, false, false, false, false, false, false, false] rfl rfl (any_of HT_.out (by kernel_rfl)) (fun _ _ _ h => h) (Or.inl ⟨by rfl, ?_⟩) ?_ ?_; rotate_left; (· intro w'; go_simp; with_reducible rfl); rotate_left; (· simp only [Act.put, List.setIfInBounds_toArray, List.set_cons_zero, List.set_cons_succ, i64_w, i32_w]; rfl)
            refine pure_ (i := 12) (N := some 27) (v := ?_) (a' := ?_) #[true, true, false, true, false, false, true, true, false, true, false, false, true, false, false, false, false, false, false, false] rfl rfl (any_of HT_.out (by kernel_rfl)) (fun _ _ _ h => h) (Or.inl ⟨by rfl, ?_⟩) ?_ ?_; rotate_left; (· intro w'; go_simp; with_reducible rfl); rotate_left; (· simp only [Act.put, List.setIfInBounds_toArray, List.set_cons_zero, List.set_cons_succ, i64_w, i32_w]; rfl)
            refine pure_ (i := 13) (N := some 28) (v := ?_) (a' := ?_) #[true, true, false, true, false, false, true, true, false, true, false, false, true, true, false, false, false, false, false, false] rfl rfl (any_of HT_.out (by kernel_rfl)) (fun _ _ _ h => h) (Or.inl ⟨by rfl, ?_⟩) ?_ ?_; rotate_left; (· intro w'; go_simp; with_reducible rfl); rotate_left; (· simp only [Act.put, List.setIfInBounds_toArray, List.set_cons_zero, List.set_cons_succ, i64_w, i32_w]; rfl)
            refine pure_ (i := 15) (N := some 30) (v := ?_) (a' := ?_) #[true, true, false, true, false, false, true, true, false, true, false, false, true, true, false, true, false, false, false, false] rfl rfl (any_of HT_.out (by kernel_rfl)) (fun _ _ _ h => h) (Or.inl ⟨by rfl, ?_⟩) ?_ ?_; rotate_left; (· intro w'; go_simp; with_reducible rfl); rotate_left; (· simp only [Act.put, List.setIfInBounds_toArray, List.set_cons_zero, List.set_cons_succ, i64_w, i32_w]; rfl)
            refine take_ (i := 2) (N := some 17) (v := ?_) (a' := ?_) #[true, true, true, true, false, false, true, true, false, true, false, false, true, true, false, true, false, false, false, false] rfl rfl (take_ofW HT_.out HW_.out (by kernel_rfl)) (fun _ _ _ h => h) (Or.inl ⟨by rfl, ?_⟩) hHeld ?_ ?_
            rotate_left
            · rintro w' ⟨s0, s1, s2, s3, s4, s5⟩
              go_simp; with_reducible rfl
            rotate_left
            · simp only [Act.put, List.setIfInBounds_toArray, List.set_cons_zero, List.set_cons_succ, i64_w, i32_w]
              rfl
            refine take_ (i := 4) (N := some 19) (v := ?_) (a' := ?_) #[true, true, true, true, true, false, true, true, false, true, false, false, true, true, false, true, false, false, false, false] rfl rfl (take_ofW HT_.out HW_.out (by kernel_rfl)) (fun _ _ _ h => h) (Or.inl ⟨by rfl, ?_⟩) hHeld ?_ ?_
            rotate_left
            · rintro w' ⟨s0, s1, s2, s3, s4, s5⟩
              go_simp; with_reducible rfl
            rotate_left
            · simp only [Act.put, List.setIfInBounds_toArray, List.set_cons_zero, List.set_cons_succ, i64_w, i32_w]
              rfl
            refine take_ (i := 8) (N := some 23) (v := ?_) (a' := ?_) #[true, true, true, true, true, false, true, true, true, true, false, false, true, true, false, true, false, false, false, false] rfl rfl (take_ofW HT_.out HW_.out (by kernel_rfl)) (fun _ _ _ h => h) (Or.inl ⟨by rfl, ?_⟩) hHeld ?_ ?_
            rotate_left
            · rintro w' ⟨s0, s1, s2, s3, s4, s5⟩
              go_simp; with_reducible rfl
            rotate_left
            · simp only [Act.put, List.setIfInBounds_toArray, List.set_cons_zero, List.set_cons_succ, i64_w, i32_w]
              rfl
            refine take_ (i := 10) (N := some 25) (v := ?_) (a' := ?_) #[true, true, true, true, true, false, true, true, true, true, true, false, true, true, false, true, false, false, false, false] rfl rfl (take_ofW HT_.out HW_.out (by kernel_rfl)) (fun _ _ _ h => h) (Or.inl ⟨by rfl, ?_⟩) hHeld ?_ ?_
            rotate_left
            · rintro w' ⟨s0, s1, s2, s3, s4, s5⟩
              go_simp; with_reducible rfl
            rotate_left
            · simp only [Act.put, List.setIfInBounds_toArray, List.set_cons_zero, List.set_cons_succ, i64_w, i32_w]
              rfl
            refine take_ (i := 14) (N := some 29) (v := ?_) (a' := ?_) #[true, true, true, true, true, false, true, true, true, true, true, false, true, true, true, true, false, false, false, false] rfl rfl (take_ofW HT_.out HW_.out (by kernel_rfl)) (fun _ _ _ h => h) (Or.inl ⟨by rfl, ?_⟩) hHeld ?_ ?_
            rotate_left
            · rintro w' ⟨s0, s1, s2, s3, s4, s5⟩
              go_simp; with_reducible rfl
            rotate_left
            · simp only [Act.put, List.setIfInBounds_toArray, List.set_cons_zero, List.set_cons_succ, i64_w, i32_w]
              rfl
            refine take_ (i := 16) (N := some 31) (v := ?_) (a' := ?_) #[true, true, true, true, true, false, true, true, true, true, true, false, true, true, true, true, true, false, false, false] rfl rfl (take_ofW HT_.out HW_.out (by kernel_rfl)) (fun _ _ _ h => h) (Or.inl ⟨by rfl, ?_⟩) hHeld ?_ ?_
            rotate_left
            · rintro w' ⟨s0, s1, s2, s3, s4, s5⟩
              go_simp; with_reducible rfl
            rotate_left
            · simp only [Act.put, List.setIfInBounds_toArray, List.set_cons_zero, List.set_cons_succ, i64_w, i32_w]
              rfl
            refine one_ (i := 5) (N := some 20) #[true, true, true, true, true, true, true, true, true, true, true, false, true, true, true, true, true, false, false, false] rfl rfl (one_of HT_.out (by kernel_rfl)) (by decide) (fun K hK => ?_)
            refine goesT1_ (by rfl) hgP #[.int .i64 x103000_1, .int .i64 ((rd_T24 l2 x11_1).f0)] (by rfl) rfl rfl (by (try simp only [List.map_toArray, List.map_cons, List.map_nil]); first | done | rfl | (simp only [List.length_drop, List.length_take]; rfl)) ?_
            with_reducible refine (PPcalls x103000_1 ((rd_T24 l2 x11_1).f0) t106 _ ?side1 A9.out).mono ?_
            (case side1 => repeat (first | (with_reducible first | exact HB.out | apply below_alloc | apply pw_below_drewN | apply below_drew1 | refine below_set ?_ GE102.out | refine below_set ?_ GE103.out | refine below_set ?_ GE105.out) | exact HB.out))
            rintro e w18 ⟨rfl, hb⟩
            refine ⟨_, rfl, ?_⟩
            have n0_ := Aside0.mk (blk_below (g := gb102) (o := .cells #[.int .i64 x103000_1, .int .i64 x103001_1, .int .i64 x103002_1] 24 (0, 0)) xB hb); have n1_ := Aside0.mk (blk_below (g := gb103) (o := .cells #[.int .i64 0, .int .i64 0, .int .i64 0] 24 (0, 0)) xB hb); have n2_ := Aside0.mk (blk_below (g := gb105) (o := .cells #[.int .i64 ((rd_T24 l2 x11_1).f0), .int .i64 ((rd_T24 l2 x11_1).f1), .int .i64 ((rd_T24 l2 x11_1).f2)] 24 (0, 0)) xB hb); have n3_ := Aside0.mk (below_step xHB hb); clear BK102; clear BK103; clear BK105; clear HB; have BK102 := n0_; have BK103 := n1_; have BK105 := n2_; have HB := n3_; clear n0_ n1_ n2_ n3_; (try clear hb); (try clear hb2); (try clear hk); (try clear hi)
            refine hK.out _ _ ⟨(blk_cell BK102.out 0).trans rfl, (blk_cell BK102.out 1).trans rfl, (blk_cell BK102.out 2).trans rfl, (blk_cell BK105.out 0).trans rfl, (blk_cell BK105.out 1).trans rfl, (blk_cell BK105.out 2).trans rfl⟩ (fun hHeld => ?_)
            clear hK K
            refine norm_ (a' := ?_) ?_ ?_
            rotate_left
            · show Act.put _ (some 20) _ = _
              simp only [Act.put, List.setIfInBounds_toArray, List.set_cons_zero, List.set_cons_succ, i64_w, i32_w]
              rfl
            refine one_ (i := 11) (N := some 26) #[true, true, true, true, true, true, true, true, true, true, true, true, true, true, true, true, true, false, false, false] rfl rfl (one_of HT_.out (by kernel_rfl)) (by decide) (fun K hK => ?_)
            refine goesT1_ (by rfl) hgP #[.int .i64 x103001_1, .int .i64 ((rd_T24 l2 x11_1).f1)] (by rfl) rfl rfl (by (try simp only [List.map_toArray, List.map_cons, List.map_nil]); first | done | rfl | (simp only [List.length_drop, List.length_take]; rfl)) ?_
            with_reducible refine (PPcalls x103001_1 ((rd_T24 l2 x11_1).f1) t107 _ ?side1 A10.out).mono ?_
            (case side1 => repeat (first | (with_reducible first | exact HB.out | apply below_alloc | apply pw_below_drewN | apply below_drew1 | refine below_set ?_ GE102.out | refine below_set ?_ GE103.out | refine below_set ?_ GE105.out) | exact HB.out))
            rintro e w19 ⟨rfl, hb⟩
            refine ⟨_, rfl, ?_⟩
            have n0_ := Aside0.mk (blk_below (g := gb102) (o := .cells #[.int .i64 x103000_1, .int .i64 x103001_1, .int .i64 x103002_1] 24 (0, 0)) xB hb); have n1_ := Aside0.mk (blk_below (g := gb103) (o := .cells #[.int .i64 0, .int .i64 0, .int .i64 0] 24 (0, 0)) xB hb); have n2_ := Aside0.mk (blk_below (g := gb105) (o := .cells #[.int .i64 ((rd_T24 l2 x11_1).f0), .int .i64 ((rd_T24 l2 x11_1).f1), .int .i64 ((rd_T24 l2 x11_1).f2)] 24 (0, 0)) xB hb); have n3_ := Aside0.mk (below_step xHB hb); clear BK102; clear BK103; clear BK105; clear HB; have BK102 := n0_; have BK103 := n1_; have BK105 := n2_; have HB := n3_; clear n0_ n1_ n2_ n3_; (try clear hb); (try clear hb2); (try clear hk); (try clear hi)
            refine hK.out _ _ ⟨(blk_cell BK102.out 0).trans rfl, (blk_cell BK102.out 1).trans rfl, (blk_cell BK102.out 2).trans rfl, (blk_cell BK105.out 0).trans rfl, (blk_cell BK105.out 1).trans rfl, (blk_cell BK105.out 2).trans rfl⟩ (fun hHeld => ?_)
            clear hK K
            refine norm_ (a' := ?_) ?_ ?_
            rotate_left
            · show Act.put _ (some 26) _ = _
              simp only [Act.put, List.setIfInBounds_toArray, List.set_cons_zero, List.set_cons_succ, i64_w, i32_w]
              rfl
            refine one_ (i := 17) (N := some 32) #[true, true, true, true, true, true, true, true, true, true, true, true, true, true, true, true, true, true, false, false] rfl rfl (one_of HT_.out (by kernel_rfl)) (by decide) (fun K hK => ?_)
            refine goesT1_ (by rfl) hgP #[.int .i64 x103002_1, .int .i64 ((rd_T24 l2 x11_1).f2)] (by rfl) rfl rfl (by (try simp only [List.map_toArray, List.map_cons, List.map_nil]); first | done | rfl | (simp only [List.length_drop, List.length_take]; rfl)) ?_
            with_reducible refine (PPcalls x103002_1 ((rd_T24 l2 x11_1).f2) t108 _ ?side1 A11.out).mono ?_
            (case side1 => repeat (first | (with_reducible first | exact HB.out | apply below_alloc | apply pw_below_drewN | apply below_drew1 | refine below_set ?_ GE102.out | refine below_set ?_ GE103.out | refine below_set ?_ GE105.out) | exact HB.out))
            rintro e w20 ⟨rfl, hb⟩
            refine ⟨_, rfl, ?_⟩
            have n0_ := Aside0.mk (blk_below (g := gb102) (o := .cells #[.int .i64 x103000_1, .int .i64 x103001_1, .int .i64 x103002_1] 24 (0, 0)) xB hb); have n1_ := Aside0.mk (blk_below (g := gb103) (o := .cells #[.int .i64 0, .int .i64 0, .int .i64 0] 24 (0, 0)) xB hb); have n2_ := Aside0.mk (blk_below (g := gb105) (o := .cells #[.int .i64 ((rd_T24 l2 x11_1).f0), .int .i64 ((rd_T24 l2 x11_1).f1), .int .i64 ((rd_T24 l2 x11_1).f2)] 24 (0, 0)) xB hb); have n3_ := Aside0.mk (below_step xHB hb); clear BK102; clear BK103; clear BK105; clear HB; have BK102 := n0_; have BK103 := n1_; have BK105 := n2_; have HB := n3_; clear n0_ n1_ n2_ n3_; (try clear hb); (try clear hb2); (try clear hk); (try clear hi)
            refine hK.out _ _ ⟨(blk_cell BK102.out 0).trans rfl, (blk_cell BK102.out 1).trans rfl, (blk_cell BK102.out 2).trans rfl, (blk_cell BK105.out 0).trans rfl, (blk_cell BK105.out 1).trans rfl, (blk_cell BK105.out 2).trans rfl⟩ (fun hHeld => ?_)
            clear hK K
            refine norm_ (a' := ?_) ?_ ?_
            rotate_left
            · show Act.put _ (some 32) _ = _
              simp only [Act.put, List.setIfInBounds_toArray, List.set_cons_zero, List.set_cons_succ, i64_w, i32_w]
              rfl
            refine pure_ (i := 18) (N := some 33) (v := ?_) (a' := ?_) #[true, true, true, true, true, true, true, true, true, true, true, true, true, true, true, true, true, true, true, false] rfl rfl (any_of HT_.out (by kernel_rfl)) (fun _ _ _ h => h) (Or.inl ⟨by rfl, ?_⟩) ?_ ?_; rotate_left; (· intro w'; go_simp; with_reducible rfl); rotate_left; (· simp only [Act.put, List.setIfInBounds_toArray, List.set_cons_zero, List.set_cons_succ, i64_w, i32_w]; rfl)
            refine last_ (i := 19) (N := none) #[true, true, true, true, true, true, true, true, true, true, true, true, true, true, true, true, true, true, true, true] rfl rfl (one_of HT_.out (by kernel_rfl)) (by decide) (fun K hK => ?_)
            have hs21 : w20.cell? ⟨gb102, 0, none⟩ = some (.int .i64 x103000_1) := (blk_cell BK102.out 0).trans rfl
            have hfs21 := blk_frozen BK102.out 0; have hns21_1 := NB103_102.out; have hns21_2 := NB105_102.out; have hms21_1 := NB102_103.out; have hms21_2 := NB102_105.out
            have hs22 : w20.cell? ⟨gb102, 1, none⟩ = some (.int .i64 x103001_1) := (blk_cell BK102.out 1).trans rfl
            have hfs22 := blk_frozen BK102.out 1; have hns22_1 := NB103_102.out; have hns22_2 := NB105_102.out; have hms22_1 := NB102_103.out; have hms22_2 := NB102_105.out
            have hs23 : w20.cell? ⟨gb102, 2, none⟩ = some (.int .i64 x103002_1) := (blk_cell BK102.out 2).trans rfl
            have hfs23 := blk_frozen BK102.out 2; have hns23_1 := NB103_102.out; have hns23_2 := NB105_102.out; have hms23_1 := NB102_103.out; have hms23_2 := NB102_105.out
            refine skip_ (w1 := ?_) (by rfl) rfl ?_ ?_
            rotate_left
            · go_simp
              rfl
            refine hK.out _ _ ?_
            clear hK K
            refine done_ (done_of HT_.out (by kernel_rfl)) ?_
            try go_wp2
            go_roundg k1
            case measure => have := HK1.out; omega
            case rel => exact ⟨(wrap64 (x11_1 + 1)), (t106), (t107), (t108), xQ, H', ⟨by have := HK1.out; omega⟩, ⟨xB⟩, ⟨xB⟩, ⟨xHB⟩⟩
          · rw [if_neg c8] at H
            exact absurd H (by simp)
        · rw [if_neg c7] at H
          exact absurd H (by simp)
      · rw [if_neg c6] at H
        have c6b0 : decide (x11_1 < (l2.length : Int)) = false := decide_eq_false c6
        clear c6
        simp only [Option.some.injEq, Prod.mk.injEq] at H
        obtain ⟨rfl, rfl, rfl⟩ := H
        have hnb24 := NB102_103.out; have hnc24 := NB103_102.out; have hcz25_0 : wr.cell? ⟨gb102, 0, none⟩ = some (.int .i64 x103000_1) := (blk_cell BK102.out 0).trans rfl; have hcz25_1 : wr.cell? ⟨gb102, 1, none⟩ = some (.int .i64 x103001_1) := (blk_cell BK102.out 1).trans rfl; have hcz25_2 : wr.cell? ⟨gb102, 2, none⟩ = some (.int .i64 x103002_1) := (blk_cell BK102.out 2).trans rfl; have hfz25_0 := blk_frozen BK102.out 0; have hfz25_1 := blk_frozen BK102.out 1; have hfz25_2 := blk_frozen BK102.out 2; have hcz26_0 : wr.cell? ⟨gb103, 0, none⟩ = some (.int .i64 0) := (blk_cell BK103.out 0).trans rfl; have hcz26_1 : wr.cell? ⟨gb103, 1, none⟩ = some (.int .i64 0) := (blk_cell BK103.out 1).trans rfl; have hcz26_2 : wr.cell? ⟨gb103, 2, none⟩ = some (.int .i64 0) := (blk_cell BK103.out 2).trans rfl; have hfz26_0 := blk_frozen BK103.out 0; have hfz26_1 := blk_frozen BK103.out 1; have hfz26_2 := blk_frozen BK103.out 2
        go_wp2
        refine bodyPost_ret (results_cell_row rfl _ _ gb103 24 #[.int .i64 x103000_1, .int .i64 x103001_1, .int .i64 x103002_1] (0, 0) _ rfl xB Tryd.underlying24 rfl (by kernel_rfl)) rfl ?_
        exact ⟨xR, xHB⟩

end Go.Proofs.YtebflncfgjnkkaaDoor.X
