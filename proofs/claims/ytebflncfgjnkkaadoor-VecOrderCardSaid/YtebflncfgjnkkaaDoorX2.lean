-- Written by a program of this session (xprint.py, over the kit's printer) out of the translation. Not trusted: Lean checks it.
import Derived.Test.YtebflncfgjnkkaaDoorX0
namespace Go.Proofs.YtebflncfgjnkkaaDoor.X
open Go.RowKit Go.Proofs.YtebflncfgjnkkaaDoorW.PrintWords Go.Proofs.YtebflncfgjnkkaaDoorW.PrintLast Go.Proofs.YtebflncfgjnkkaaDoorW.PrintMore
attribute [local go_sem] max2_int min2_int max_two min_two max_three min_three max_four min_four   -- for this text's walks alone
set_option linter.unusedVariables false
set_option linter.unusedSimpArgs false

/-! ### doorkeeperlaw10_Make: function 11 -/
def doorkeeperlaw10_Make.f (a0 : Int) (a1 : Int) (a2 : Int) : Option (Int × Int × Int) := some (wrap64 (a0), wrap64 (a1), wrap64 (a2))
set_option maxHeartbeats 8000000 in
set_option maxRecDepth 100000 in
theorem doorkeeperlaw10_Make.calls (a0 : Int) (a1 : Int) (a2 : Int) (r1 : Int) (r2 : Int) (r3 : Int) (w : World) (h : doorkeeperlaw10_Make.f a0 a1 a2 = some (r1, r2, r3)) :
    Calls Tryd.prog 11 #[.int .u16 a0, .int .u16 a1, .int .u16 a2] w fun e w' => e = .returned (.agg #[.int .i64 r1, .int .i64 r2, .int .i64 r3]) ∧ Below w.heap.size w w' := by
  have hu24 := Tryd.underlying24
  have HB := Aside0.mk (Below.refl w.heap.size w)
  have H : (some (wrap64 (a0), wrap64 (a1), wrap64 (a2))) = some (r1, r2, r3) := h
  clear h
  simp only [Option.some.injEq, Prod.mk.injEq] at H
  obtain ⟨rfl, rfl, rfl⟩ := H
  go_enter Tryd.func11, Tryd.ntmps11
  go_wp2_with (first | ((with_reducible refine gate_dst (N := 6) rfl ?_); refine box_event ?hg (N := 6) ?hd (cs := #[.int .i64 0, .int .i64 0, .int .i64 0]) (t := 24) ?hr ?_; (case hd => rfl); (case hg => rfl); (case hr => first | (go_simp; done) | (go_simp; rfl)); intro gb101 hg w4 hbox hb; have n0_ := Aside0.mk (below_step xHB hb); have n1_ := Aside0.mk (hbox); have n2_ := Aside0.mk ((by rw [hg]; exact (below_size xHB) : w.heap.size ≤ gb101)); have n3_ := Aside0.mk ((by rw [hg]; exact (below_size xHB) : w.heap.size ≤ gb101)); clear HB; have HB := n0_; have BK101 := n1_; have GW101 := n2_; have GE101 := n3_; clear n0_ n1_ n2_ n3_; clear hb hbox hg; have hcz5_0 : w4.cell? ⟨gb101, 0, none⟩ = some (.int .i64 0) := (blk_cell BK101.out 0).trans rfl; have hcz5_1 : w4.cell? ⟨gb101, 1, none⟩ = some (.int .i64 0) := (blk_cell BK101.out 1).trans rfl; have hcz5_2 : w4.cell? ⟨gb101, 2, none⟩ = some (.int .i64 0) := (blk_cell BK101.out 2).trans rfl; have hfz5_0 := blk_frozen BK101.out 0; have hfz5_1 := blk_frozen BK101.out 1; have hfz5_2 := blk_frozen BK101.out 2))
  refine bodyPost_ret (results_cell_row rfl _ _ gb101 24 #[.int .i64 (wrap64 (a0)), .int .i64 (wrap64 (a1)), .int .i64 (wrap64 (a2))] (0, 0) _ rfl xB Tryd.underlying24 rfl (by kernel_rfl)) rfl ?_
  exact ⟨xR, xHB⟩

end Go.Proofs.YtebflncfgjnkkaaDoor.X
