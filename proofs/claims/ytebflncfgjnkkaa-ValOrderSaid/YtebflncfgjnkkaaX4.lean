-- PRINTED by print.py (a twelfth state) out of the translation. Not trusted: Lean checks it.
import Derived.Test.YtebflncfgjnkkaaX0
import Derived.Test.YtebflncfgjnkkaaX1
import Derived.Test.YtebflncfgjnkkaaX3
namespace Go.Proofs.Ytebflncfgjnkkaa.X
open Go.RowKit Go.Proofs.YtebflncfgjnkkaaW.PrintWords Go.Proofs.YtebflncfgjnkkaaW.PrintLast Go.Proofs.YtebflncfgjnkkaaW.PrintMore
attribute [local go_sem] max2_int min2_int max_two min_two max_three min_three max_four min_four   -- for this text's walks alone
set_option linter.unusedVariables false
set_option linter.unusedSimpArgs false

/-! ### val_Two: function 9 -/
mutual
def val_Two.j0 : Nat → Int → Bool → Bool → Int → Int → ByteArray → List (S25) → Int → Int → ByteArray → List (S25) → Option (Int × Int × ByteArray × (List (S25)) × Int)
  | 0, _, _, _, _, _, _, _, _, _, _, _ => none
  | k + 1, x0, x8, x16, x112000, x112001, x112002, x112003, x113000, x113001, x113002, x113003 => if x16 = true then (some (0, 0, (⟨#[]⟩ : ByteArray), ([] : List (S25)), 1)) else (if x0 ≤ 12 then (if x8 = true then (val_Two.j1 k x0 x8 (x112000 == 3) x112000 x112001 x112002 x112003 x113000 x113001 x113002 x113003) else (val_Two.j1 k x0 x8 false x112000 x112001 x112002 x112003 x113000 x113001 x113002 x113003)) else (val_Two.j1 k x0 x8 false x112000 x112001 x112002 x112003 x113000 x113001 x113002 x113003))
def val_Two.j1 : Nat → Int → Bool → Bool → Int → Int → ByteArray → List (S25) → Int → Int → ByteArray → List (S25) → Option (Int × Int × ByteArray × (List (S25)) × Int)
  | 0, _, _, _, _, _, _, _, _, _, _, _ => none
  | k + 1, x0, x8, x24, x112000, x112001, x112002, x112003, x113000, x113001, x113002, x113003 => if x24 = true then (if x0 = 11 then ((val_Bool.f (decide ((wrap64 (x112001 + x113001)) > 0))).bind fun bt114 => (some (bt114.1, bt114.2.1, bt114.2.2.1, bt114.2.2.2, 0))) else ((val_Bool.f ((wrap64 (x112001 + x113001)) == 2)).bind fun bt120 => (some (bt120.1, bt120.2.1, bt120.2.2.1, bt120.2.2.2, 0)))) else (if x0 = 13 then (val_Two.j2 k x0 x8 x8 x112000 x112001 x112002 x112003 x113000 x113001 x113002 x113003) else (if x0 = 14 then (val_Two.j2 k x0 x8 x8 x112000 x112001 x112002 x112003 x113000 x113001 x113002 x113003) else (val_Two.j2 k x0 x8 false x112000 x112001 x112002 x112003 x113000 x113001 x113002 x113003)))
def val_Two.j2 : Nat → Int → Bool → Bool → Int → Int → ByteArray → List (S25) → Int → Int → ByteArray → List (S25) → Option (Int × Int × ByteArray × (List (S25)) × Int)
  | 0, _, _, _, _, _, _, _, _, _, _, _ => none
  | k + 1, x0, x8, x51, x112000, x112001, x112002, x112003, x113000, x113001, x113002, x113003 => if x51 = true then ((val_Same.f k x112000 x112001 x112002 x112003 x113000 x113001 x113002 x113003).bind fun t126 => ((val_Bool.f (t126 == (x0 == 13))).bind fun bt127 => (some (bt127.1, bt127.2.1, bt127.2.2.1, bt127.2.2.2, 0)))) else (if x0 ≤ 14 then (val_Two.j3 k x0 true x112000 x112001 x112002 x112003 x113000 x113001 x113002 x113003) else (if x8 = true then (val_Two.j3 k x0 (x112000 != 1) x112000 x112001 x112002 x112003 x113000 x113001 x113002 x113003) else (val_Two.j3 k x0 true x112000 x112001 x112002 x112003 x113000 x113001 x113002 x113003)))
def val_Two.j3 : Nat → Int → Bool → Int → Int → ByteArray → List (S25) → Int → Int → ByteArray → List (S25) → Option (Int × Int × ByteArray × (List (S25)) × Int)
  | 0, _, _, _, _, _, _, _, _, _, _ => none
  | k + 1, x0, x68, x112000, x112001, x112002, x112003, x113000, x113001, x113002, x113003 => if x68 = true then (some (0, 0, (⟨#[]⟩ : ByteArray), ([] : List (S25)), 7)) else (if x0 ≤ 18 then ((val_compare.f x0 x112001 x113001).bind fun t133 => ((val_Bool.f t133).bind fun bt134 => (some (bt134.1, bt134.2.1, bt134.2.2.1, bt134.2.2.2, 0)))) else ((val_reckon.f x0 x112001 x113001).bind fun bt140 => (if bt140.2 = 0 then ((val_Int.f bt140.1).bind fun bt142 => (some (bt142.1, bt142.2.1, bt142.2.2.1, bt142.2.2.2, 0))) else (some (0, 0, (⟨#[]⟩ : ByteArray), ([] : List (S25)), bt140.2)))))
end
def val_Two.f (k : Nat) (a0 : Int) (a1_0 : Int) (a1_1 : Int) (a1_2 : ByteArray) (l1_3 : List (S25)) (a2_0 : Int) (a2_1 : Int) (a2_2 : ByteArray) (l2_3 : List (S25)) : Option (Int × Int × ByteArray × (List (S25)) × Int) := if a0 < 11 then (val_Two.j0 k a0 (a1_0 == a2_0) true a1_0 a1_1 a1_2 l1_3 a2_0 a2_1 a2_2 l2_3) else (val_Two.j0 k a0 (a1_0 == a2_0) (decide (a0 > 23)) a1_0 a1_1 a1_2 l1_3 a2_0 a2_1 a2_2 l2_3)
theorem val_Two.mono_l : ∀ k, (∀ y0 y1 y2 y3 y4 y5 y6 y7 y8 y9 y10, LeO (val_Two.j0 k y0 y1 y2 y3 y4 y5 y6 y7 y8 y9 y10) (val_Two.j0 (k + 1) y0 y1 y2 y3 y4 y5 y6 y7 y8 y9 y10)) ∧ (∀ y0 y1 y2 y3 y4 y5 y6 y7 y8 y9 y10, LeO (val_Two.j1 k y0 y1 y2 y3 y4 y5 y6 y7 y8 y9 y10) (val_Two.j1 (k + 1) y0 y1 y2 y3 y4 y5 y6 y7 y8 y9 y10)) ∧ (∀ y0 y1 y2 y3 y4 y5 y6 y7 y8 y9 y10, LeO (val_Two.j2 k y0 y1 y2 y3 y4 y5 y6 y7 y8 y9 y10) (val_Two.j2 (k + 1) y0 y1 y2 y3 y4 y5 y6 y7 y8 y9 y10)) ∧ (∀ y0 y1 y2 y3 y4 y5 y6 y7 y8 y9, LeO (val_Two.j3 k y0 y1 y2 y3 y4 y5 y6 y7 y8 y9) (val_Two.j3 (k + 1) y0 y1 y2 y3 y4 y5 y6 y7 y8 y9))
  | 0 => ⟨fun _ _ _ _ _ _ _ _ _ _ _ r h => by simp [val_Two.j0] at h, fun _ _ _ _ _ _ _ _ _ _ _ r h => by simp [val_Two.j1] at h, fun _ _ _ _ _ _ _ _ _ _ _ r h => by simp [val_Two.j2] at h, fun _ _ _ _ _ _ _ _ _ _ r h => by simp [val_Two.j3] at h⟩
  | k + 1 => by
    obtain ⟨ih0, ih1, ih2, ih3⟩ := val_Two.mono_l k
    refine ⟨?_, ?_, ?_, ?_⟩
    · intro y0 y1 y2 y3 y4 y5 y6 y7 y8 y9 y10
      unfold val_Two.j0
      repeat' first
      | (with_reducible exact ih0 _ _ _ _ _ _ _ _ _ _ _)
      | (with_reducible exact ih1 _ _ _ _ _ _ _ _ _ _ _)
      | (with_reducible exact ih2 _ _ _ _ _ _ _ _ _ _ _)
      | (with_reducible exact ih3 _ _ _ _ _ _ _ _ _ _)
      | (with_reducible exact val_Same.mono _ _ _ _ _ _ _ _ _)
      | (with_reducible exact LeO.refl _)
      | (with_reducible exact LeO.none _)
      | (with_reducible refine LeO.ite ?_ ?_)
      | (with_reducible refine LeO.bind ?_ (fun _ => ?_))
      | exact ih0 _ _ _ _ _ _ _ _ _ _ _
      | exact ih1 _ _ _ _ _ _ _ _ _ _ _
      | exact ih2 _ _ _ _ _ _ _ _ _ _ _
      | exact ih3 _ _ _ _ _ _ _ _ _ _
      | exact val_Same.mono _ _ _ _ _ _ _ _ _
      | exact LeO.none _
      | refine LeO.ite ?_ ?_
      | refine LeO.bind ?_ (fun _ => ?_)
    · intro y0 y1 y2 y3 y4 y5 y6 y7 y8 y9 y10
      unfold val_Two.j1
      repeat' first
      | (with_reducible exact ih0 _ _ _ _ _ _ _ _ _ _ _)
      | (with_reducible exact ih1 _ _ _ _ _ _ _ _ _ _ _)
      | (with_reducible exact ih2 _ _ _ _ _ _ _ _ _ _ _)
      | (with_reducible exact ih3 _ _ _ _ _ _ _ _ _ _)
      | (with_reducible exact val_Same.mono _ _ _ _ _ _ _ _ _)
      | (with_reducible exact LeO.refl _)
      | (with_reducible exact LeO.none _)
      | (with_reducible refine LeO.ite ?_ ?_)
      | (with_reducible refine LeO.bind ?_ (fun _ => ?_))
      | exact ih0 _ _ _ _ _ _ _ _ _ _ _
      | exact ih1 _ _ _ _ _ _ _ _ _ _ _
      | exact ih2 _ _ _ _ _ _ _ _ _ _ _
      | exact ih3 _ _ _ _ _ _ _ _ _ _
      | exact val_Same.mono _ _ _ _ _ _ _ _ _
      | exact LeO.none _
      | refine LeO.ite ?_ ?_
      | refine LeO.bind ?_ (fun _ => ?_)
    · intro y0 y1 y2 y3 y4 y5 y6 y7 y8 y9 y10
      unfold val_Two.j2
      repeat' first
      | (with_reducible exact ih0 _ _ _ _ _ _ _ _ _ _ _)
      | (with_reducible exact ih1 _ _ _ _ _ _ _ _ _ _ _)
      | (with_reducible exact ih2 _ _ _ _ _ _ _ _ _ _ _)
      | (with_reducible exact ih3 _ _ _ _ _ _ _ _ _ _)
      | (with_reducible exact val_Same.mono _ _ _ _ _ _ _ _ _)
      | (with_reducible exact LeO.refl _)
      | (with_reducible exact LeO.none _)
      | (with_reducible refine LeO.ite ?_ ?_)
      | (with_reducible refine LeO.bind ?_ (fun _ => ?_))
      | exact ih0 _ _ _ _ _ _ _ _ _ _ _
      | exact ih1 _ _ _ _ _ _ _ _ _ _ _
      | exact ih2 _ _ _ _ _ _ _ _ _ _ _
      | exact ih3 _ _ _ _ _ _ _ _ _ _
      | exact val_Same.mono _ _ _ _ _ _ _ _ _
      | exact LeO.none _
      | refine LeO.ite ?_ ?_
      | refine LeO.bind ?_ (fun _ => ?_)
    · intro y0 y1 y2 y3 y4 y5 y6 y7 y8 y9
      unfold val_Two.j3
      repeat' first
      | (with_reducible exact ih0 _ _ _ _ _ _ _ _ _ _ _)
      | (with_reducible exact ih1 _ _ _ _ _ _ _ _ _ _ _)
      | (with_reducible exact ih2 _ _ _ _ _ _ _ _ _ _ _)
      | (with_reducible exact ih3 _ _ _ _ _ _ _ _ _ _)
      | (with_reducible exact val_Same.mono _ _ _ _ _ _ _ _ _)
      | (with_reducible exact LeO.refl _)
      | (with_reducible exact LeO.none _)
      | (with_reducible refine LeO.ite ?_ ?_)
      | (with_reducible refine LeO.bind ?_ (fun _ => ?_))
      | exact ih0 _ _ _ _ _ _ _ _ _ _ _
      | exact ih1 _ _ _ _ _ _ _ _ _ _ _
      | exact ih2 _ _ _ _ _ _ _ _ _ _ _
      | exact ih3 _ _ _ _ _ _ _ _ _ _
      | exact val_Same.mono _ _ _ _ _ _ _ _ _
      | exact LeO.none _
      | refine LeO.ite ?_ ?_
      | refine LeO.bind ?_ (fun _ => ?_)
theorem val_Two.mono : ∀ a0 a1 a2 a3 a4 a5 a6 a7 a8 k, LeO (val_Two.f k a0 a1 a2 a3 a4 a5 a6 a7 a8) (val_Two.f (k + 1) a0 a1 a2 a3 a4 a5 a6 a7 a8) := by
  intro a0 a1 a2 a3 a4 a5 a6 a7 a8 k
  obtain ⟨ih0, ih1, ih2, ih3⟩ := val_Two.mono_l k
  unfold val_Two.f
  repeat' first
      | (with_reducible exact ih0 _ _ _ _ _ _ _ _ _ _ _)
      | (with_reducible exact ih1 _ _ _ _ _ _ _ _ _ _ _)
      | (with_reducible exact ih2 _ _ _ _ _ _ _ _ _ _ _)
      | (with_reducible exact ih3 _ _ _ _ _ _ _ _ _ _)
      | (with_reducible exact val_Same.mono _ _ _ _ _ _ _ _ _)
      | (with_reducible exact LeO.refl _)
      | (with_reducible exact LeO.none _)
      | (with_reducible refine LeO.ite ?_ ?_)
      | (with_reducible refine LeO.bind ?_ (fun _ => ?_))
      | exact ih0 _ _ _ _ _ _ _ _ _ _ _
      | exact ih1 _ _ _ _ _ _ _ _ _ _ _
      | exact ih2 _ _ _ _ _ _ _ _ _ _ _
      | exact ih3 _ _ _ _ _ _ _ _ _ _
      | exact val_Same.mono _ _ _ _ _ _ _ _ _
      | exact LeO.none _
      | refine LeO.ite ?_ ?_
      | refine LeO.bind ?_ (fun _ => ?_)
set_option maxHeartbeats 8000000 in
set_option maxRecDepth 100000 in
theorem val_Two.calls (k : Nat) (a0 : Int) (a1_0 : Int) (a1_1 : Int) (a1_2 : ByteArray) (A1_3 : Option Addr) (c1_3 : Nat) (l1_3 : List (S25)) (a2_0 : Int) (a2_1 : Int) (a2_2 : ByteArray) (A2_3 : Option Addr) (c2_3 : Nat) (l2_3 : List (S25)) (r1 : Int) (r2 : Int) (r3 : ByteArray) (r4 : List (S25)) (r5 : Int) (w : World) (hr1_3 : Kd.C k25 w A1_3 l1_3.length l1_3) (hc1_3 : l1_3.length ≤ c1_3) (hr2_3 : Kd.C k25 w A2_3 l2_3.length l2_3) (hc2_3 : l2_3.length ≤ c2_3) (h : val_Two.f k a0 a1_0 a1_1 a1_2 l1_3 a2_0 a2_1 a2_2 l2_3 = some (r1, r2, r3, r4, r5)) :
    Calls Try.prog 9 #[.int .i64 a0, .agg #[.int .i64 a1_0, .int .i64 a1_1, .string a1_2, .slice A1_3 l1_3.length c1_3], .agg #[.int .i64 a2_0, .int .i64 a2_1, .string a2_2, .slice A2_3 l2_3.length c2_3]] w fun e w' => ∃ v3_ : Value, e = .returned (.tuple #[.agg #[.int .i64 r1, .int .i64 r2, .string r3, v3_], .int .i64 r5]) ∧ Kd.R k25 25 w' w.heap.size (fun _ => True) v3_ r4 ∧ Below w.heap.size w w' := by
  have hu25 := Try.underlying25
  have HR1_3 := Aside0.mk hr1_3
  have HC1_3 := Aside0.mk hc1_3
  clear hr1_3 hc1_3
  have HR2_3 := Aside0.mk hr2_3
  have HC2_3 := Aside0.mk hc2_3
  clear hr2_3 hc2_3
  have HB := Aside0.mk (Below.refl w.heap.size w)
  have H : (if a0 < 11 then (val_Two.j0 k a0 (a1_0 == a2_0) true a1_0 a1_1 a1_2 l1_3 a2_0 a2_1 a2_2 l2_3) else (val_Two.j0 k a0 (a1_0 == a2_0) (decide (a0 > 23)) a1_0 a1_1 a1_2 l1_3 a2_0 a2_1 a2_2 l2_3)) = some (r1, r2, r3, r4, r5) := h
  clear h
  have HC4 := Aside0.mk H
  clear H
  go_enter Try.func9, Try.ntmps9
  go_upto_region 2 with (first | ((with_reducible refine gate_dst (N := 4) rfl ?_); refine box_event ?hg (N := 4) ?hd (cs := #[.int .i64 a1_0, .int .i64 a1_1, .string a1_2, .slice A1_3 l1_3.length c1_3]) (t := 25) ?hr ?_; (case hd => rfl); (case hg => rfl); (case hr => first | (go_simp; done) | (go_simp; rfl)); intro gb111 hg w5 hbox hb; have n0_ := Aside0.mk (below_step xHB hb); have n1_ := Aside0.mk (hbox); have n2_ := Aside0.mk ((by rw [hg]; exact (below_size xHB) : w.heap.size ≤ gb111)); have n3_ := Aside0.mk ((by rw [hg]; exact (below_size xHB) : w.heap.size ≤ gb111)); clear HB; have HB := n0_; have BK111 := n1_; have GW111 := n2_; have GE111 := n3_; clear n0_ n1_ n2_ n3_; clear hb hbox hg) | ((with_reducible refine gate_dst (N := 5) rfl ?_); refine box_event ?hg (N := 5) ?hd (cs := #[.int .i64 a2_0, .int .i64 a2_1, .string a2_2, .slice A2_3 l2_3.length c2_3]) (t := 25) ?hr ?_; (case hd => rfl); (case hg => rfl); (case hr => first | (go_simp; done) | (go_simp; rfl)); intro gb112 hg w6 hbox hb; have n0_ := Aside0.mk (blk_below (g := gb111) (o := .cells #[.int .i64 a1_0, .int .i64 a1_1, .string a1_2, .slice A1_3 l1_3.length c1_3] 25 (0, 0)) xB hb); have n1_ := Aside0.mk (below_step xHB hb); have n2_ := Aside0.mk (hbox); have n3_ := Aside0.mk ((by rw [hg]; exact (below_size xHB) : w.heap.size ≤ gb112)); have n4_ := Aside0.mk ((by rw [hg]; exact (below_size xHB) : w.heap.size ≤ gb112)); have n5_ := Aside0.mk ((by rw [hg]; exact Nat.ne_of_lt (blk_lt (g := gb111) (o := .cells #[.int .i64 a1_0, .int .i64 a1_1, .string a1_2, .slice A1_3 l1_3.length c1_3] 25 (0, 0)) xB) : gb111 ≠ gb112)); have n6_ := Aside0.mk ((by rw [hg]; exact Nat.ne_of_gt (blk_lt (g := gb111) (o := .cells #[.int .i64 a1_0, .int .i64 a1_1, .string a1_2, .slice A1_3 l1_3.length c1_3] 25 (0, 0)) xB) : gb112 ≠ gb111)); clear BK111; clear HB; have BK111 := n0_; have HB := n1_; have BK112 := n2_; have GW112 := n3_; have GE112 := n4_; have NB111_112 := n5_; have NB112_111 := n6_; clear n0_ n1_ n2_ n3_ n4_ n5_ n6_; clear hb hbox hg) | ((with_reducible refine gate_dst (N := 6) rfl ?_); refine box_event ?hg (N := 6) ?hd (cs := #[.int .i64 0, .int .i64 0, .string (⟨#[]⟩ : ByteArray), .slice none 0 0]) (t := 25) ?hr ?_; (case hd => rfl); (case hg => rfl); (case hr => first | (go_simp; done) | (go_simp; rfl)); intro gb113 hg w7 hbox hb; have n0_ := Aside0.mk (blk_below (g := gb111) (o := .cells #[.int .i64 a1_0, .int .i64 a1_1, .string a1_2, .slice A1_3 l1_3.length c1_3] 25 (0, 0)) xB hb); have n1_ := Aside0.mk (blk_below (g := gb112) (o := .cells #[.int .i64 a2_0, .int .i64 a2_1, .string a2_2, .slice A2_3 l2_3.length c2_3] 25 (0, 0)) xB hb); have n2_ := Aside0.mk (below_step xHB hb); have n3_ := Aside0.mk (hbox); have n4_ := Aside0.mk ((by rw [hg]; exact (below_size xHB) : w.heap.size ≤ gb113)); have n5_ := Aside0.mk ((by rw [hg]; exact (below_size xHB) : w.heap.size ≤ gb113)); have n6_ := Aside0.mk ((by rw [hg]; exact Nat.ne_of_lt (blk_lt (g := gb111) (o := .cells #[.int .i64 a1_0, .int .i64 a1_1, .string a1_2, .slice A1_3 l1_3.length c1_3] 25 (0, 0)) xB) : gb111 ≠ gb113)); have n7_ := Aside0.mk ((by rw [hg]; exact Nat.ne_of_gt (blk_lt (g := gb111) (o := .cells #[.int .i64 a1_0, .int .i64 a1_1, .string a1_2, .slice A1_3 l1_3.length c1_3] 25 (0, 0)) xB) : gb113 ≠ gb111)); have n8_ := Aside0.mk ((by rw [hg]; exact Nat.ne_of_lt (blk_lt (g := gb112) (o := .cells #[.int .i64 a2_0, .int .i64 a2_1, .string a2_2, .slice A2_3 l2_3.length c2_3] 25 (0, 0)) xB) : gb112 ≠ gb113)); have n9_ := Aside0.mk ((by rw [hg]; exact Nat.ne_of_gt (blk_lt (g := gb112) (o := .cells #[.int .i64 a2_0, .int .i64 a2_1, .string a2_2, .slice A2_3 l2_3.length c2_3] 25 (0, 0)) xB) : gb113 ≠ gb112)); clear BK111; clear BK112; clear HB; have BK111 := n0_; have BK112 := n1_; have HB := n2_; have BK113 := n3_; have GW113 := n4_; have GE113 := n5_; have NB111_113 := n6_; have NB113_111 := n7_; have NB112_113 := n8_; have NB113_112 := n9_; clear n0_ n1_ n2_ n3_ n4_ n5_ n6_ n7_ n8_ n9_; clear hb hbox hg; have hnb8 := NB111_112.out; have hnc8 := NB112_111.out; have hnb9 := NB111_113.out; have hnc9 := NB113_111.out; have hcz10_0 : w7.cell? ⟨gb111, 0, none⟩ = some (.int .i64 a1_0) := (blk_cell BK111.out 0).trans rfl; have hcz10_1 : w7.cell? ⟨gb111, 1, none⟩ = some (.int .i64 a1_1) := (blk_cell BK111.out 1).trans rfl; have hcz10_2 : w7.cell? ⟨gb111, 2, none⟩ = some (.string a1_2) := (blk_cell BK111.out 2).trans rfl; have hcz10_3 : w7.cell? ⟨gb111, 3, none⟩ = some (.slice A1_3 l1_3.length c1_3) := (blk_cell BK111.out 3).trans rfl; have hfz10_0 := blk_frozen BK111.out 0; have hfz10_1 := blk_frozen BK111.out 1; have hfz10_2 := blk_frozen BK111.out 2; have hfz10_3 := blk_frozen BK111.out 3; have hnb11 := NB112_113.out; have hnc11 := NB113_112.out; have hcz12_0 : w7.cell? ⟨gb112, 0, none⟩ = some (.int .i64 a2_0) := (blk_cell BK112.out 0).trans rfl; have hcz12_1 : w7.cell? ⟨gb112, 1, none⟩ = some (.int .i64 a2_1) := (blk_cell BK112.out 1).trans rfl; have hcz12_2 : w7.cell? ⟨gb112, 2, none⟩ = some (.string a2_2) := (blk_cell BK112.out 2).trans rfl; have hcz12_3 : w7.cell? ⟨gb112, 3, none⟩ = some (.slice A2_3 l2_3.length c2_3) := (blk_cell BK112.out 3).trans rfl; have hfz12_0 := blk_frozen BK112.out 0; have hfz12_1 := blk_frozen BK112.out 1; have hfz12_2 := blk_frozen BK112.out 2; have hfz12_3 := blk_frozen BK112.out 3))
  (try simp only [Act.put, List.setIfInBounds_toArray, List.set_cons_zero, List.set_cons_succ])
  go_cut [16] (fun v16 wc => ∃ (kq : Nat) (x16_3 : Bool), v16 = .bool x16_3 ∧ Aside0 (val_Two.j0 kq a0 (a1_0 == a2_0) x16_3 a1_0 a1_1 a1_2 l1_3 a2_0 a2_1 a2_2 l2_3 = some (r1, r2, r3, r4, r5)) ∧ Aside0 (kq ≤ k) ∧ Aside0 (wc.heap[gb111]? = some (.cells #[.int .i64 a1_0, .int .i64 a1_1, .string a1_2, (.slice A1_3 l1_3.length c1_3)] 25 (0, 0))) ∧ Aside0 (wc.heap[gb112]? = some (.cells #[.int .i64 a2_0, .int .i64 a2_1, .string a2_2, (.slice A2_3 l2_3.length c2_3)] 25 (0, 0))) ∧ Aside0 (wc.heap[gb113]? = some (.cells #[.int .i64 0, .int .i64 0, .string (⟨#[]⟩ : ByteArray), (.slice none 0 0)] 25 (0, 0))) ∧ Aside0 (Below w.heap.size w wc))
  case first =>
    have H := HC4.out
    clear HC4
    by_cases c13 : a0 < 11
    · rw [if_pos c13] at H
      have c13b0 : decide (a0 < 11) = true := decide_eq_true c13
      clear c13
      (first | rw [c13b0] | (simp only [i64_w, i32_w]; rw [c13b0]) | skip)
      have H' := Aside0.mk H
      clear H
      go_wp2
      go_meet
      case rel => exact ⟨_, (true), xQ, H', ⟨by first | omega | exact Nat.le_refl _⟩, ⟨xB⟩, ⟨xB⟩, ⟨xB⟩, ⟨xHB⟩⟩
    · rw [if_neg c13] at H
      have c13b0 : decide (a0 < 11) = false := decide_eq_false c13
      clear c13
      (first | rw [c13b0] | (simp only [i64_w, i32_w]; rw [c13b0]) | skip)
      have H' := Aside0.mk H
      clear H
      go_wp2
      go_meet
      case rel => exact ⟨_, (decide (a0 > 23)), xQ, H', ⟨by first | omega | exact Nat.le_refl _⟩, ⟨xB⟩, ⟨xB⟩, ⟨xB⟩, ⟨xHB⟩⟩
  case rest =>
    clear HC4
    try clear c1; try clear c2; try clear p2; try clear c8; try clear c9; try clear c11; try clear c13; try clear c13b0; try clear hcz10_0; try clear hcz10_1; try clear hcz10_2; try clear hcz10_3; try clear hcz12_0; try clear hcz12_1; try clear hcz12_2; try clear hcz12_3; try clear hfz10_0; try clear hfz10_1; try clear hfz10_2; try clear hfz10_3; try clear hfz12_0; try clear hfz12_1; try clear hfz12_2; try clear hfz12_3
    obtain ⟨kq, x16_3, rfl, HA, HJ3, BK111, BK112, BK113, HB⟩ := hcut
    cases kq with
    | zero => exact absurd HA.out (by simp [val_Two.j0])
    | succ kj3 =>
      have H := HA.out
      clear HA
      simp only [val_Two.j0] at H
      by_cases c14 : x16_3 = true
      · subst c14
        have H1 : (some (0, 0, (⟨#[]⟩ : ByteArray), ([] : List (S25)), 1)) = some (r1, r2, r3, r4, r5) := by rw [if_pos rfl] at H; exact H
        clear H
        have H := H1
        clear H1
        simp only [Option.some.injEq, Prod.mk.injEq] at H
        obtain ⟨rfl, rfl, rfl, rfl, rfl⟩ := H
        have hnb15 := NB113_111.out
        have hnc15 := NB111_113.out
        have hnb16 := NB113_112.out
        have hnc16 := NB112_113.out
        have hcz17_0 : wc.cell? ⟨gb113, 0, none⟩ = some (.int .i64 0) := (blk_cell BK113.out 0).trans rfl
        have hcz17_1 : wc.cell? ⟨gb113, 1, none⟩ = some (.int .i64 0) := (blk_cell BK113.out 1).trans rfl
        have hcz17_2 : wc.cell? ⟨gb113, 2, none⟩ = some (.string (⟨#[]⟩ : ByteArray)) := (blk_cell BK113.out 2).trans rfl
        have hcz17_3 : wc.cell? ⟨gb113, 3, none⟩ = some (.slice none 0 0) := (blk_cell BK113.out 3).trans rfl
        have hfz17_0 := blk_frozen BK113.out 0
        have hfz17_1 := blk_frozen BK113.out 1
        have hfz17_2 := blk_frozen BK113.out 2
        have hfz17_3 := blk_frozen BK113.out 3
        go_wp2
        refine bodyPost_ret (results_ct rfl _ _ gb113 25 #[.int .i64 0, .int .i64 0, .string (⟨#[]⟩ : ByteArray), .slice none 0 0] (0, 0) _ rfl xB Try.underlying25 rfl (by kernel_rfl)) rfl ?_
        exact ⟨_, xR, by first | exact Kd.R_nil _ _ _ _ _ | exact Kd.N_nil _ _ _ _ _ | exact Kd.V_nil _ _ _ _ _ | exact Kd.Q_nil _ _ _ _ _ | exact Kd.S_nil _ _ _ _ _, xHB⟩
      · replace c14 := Bool.eq_false_iff.mpr c14
        subst c14
        have H1 : (if a0 ≤ 12 then (if (a1_0 == a2_0) = true then (val_Two.j1 kj3 a0 (a1_0 == a2_0) (a1_0 == 3) a1_0 a1_1 a1_2 l1_3 a2_0 a2_1 a2_2 l2_3) else (val_Two.j1 kj3 a0 (a1_0 == a2_0) false a1_0 a1_1 a1_2 l1_3 a2_0 a2_1 a2_2 l2_3)) else (val_Two.j1 kj3 a0 (a1_0 == a2_0) false a1_0 a1_1 a1_2 l1_3 a2_0 a2_1 a2_2 l2_3)) = some (r1, r2, r3, r4, r5) := by rw [if_neg (show ¬ (false = true) by decide)] at H; exact H
        clear H
        have H := H1
        clear H1
        have HC18 := Aside0.mk H
        clear H
        go_upto_region 4 with (fail)
        go_cut [24] (fun v24 wc => ∃ (kq : Nat) (x24_17 : Bool), v24 = .bool x24_17 ∧ Aside0 (val_Two.j1 kq a0 (a1_0 == a2_0) x24_17 a1_0 a1_1 a1_2 l1_3 a2_0 a2_1 a2_2 l2_3 = some (r1, r2, r3, r4, r5)) ∧ Aside0 (kq ≤ kj3) ∧ Aside0 (wc.heap[gb111]? = some (.cells #[.int .i64 a1_0, .int .i64 a1_1, .string a1_2, (.slice A1_3 l1_3.length c1_3)] 25 (0, 0))) ∧ Aside0 (wc.heap[gb112]? = some (.cells #[.int .i64 a2_0, .int .i64 a2_1, .string a2_2, (.slice A2_3 l2_3.length c2_3)] 25 (0, 0))) ∧ Aside0 (wc.heap[gb113]? = some (.cells #[.int .i64 0, .int .i64 0, .string (⟨#[]⟩ : ByteArray), (.slice none 0 0)] 25 (0, 0))) ∧ Aside0 (Below w.heap.size w wc))
        case first =>
          have H := HC18.out
          clear HC18
          by_cases c19 : a0 ≤ 12
          · rw [if_pos c19] at H
            have c19b0 : decide (a0 ≤ 12) = true := decide_eq_true c19
            clear c19
            (first | rw [c19b0] | (simp only [i64_w, i32_w]; rw [c19b0]) | skip)
            by_cases c20 : (a1_0 == a2_0) = true
            · rw [if_pos c20] at H
              have c20b0 : (a1_0 == a2_0) = true := c20
              (try (have c20b1 : decide (a1_0 = a2_0) = true := by simpa using c20))
              (try (have c20b2 : (a1_0 == a2_0) = true := by simpa using c20))
              clear c20
              have H' := Aside0.mk H
              clear H
              have hnb21 := NB111_112.out
              have hnc21 := NB112_111.out
              have hnb22 := NB111_113.out
              have hnc22 := NB113_111.out
              have hcz23_0 : wc.cell? ⟨gb111, 0, none⟩ = some (.int .i64 a1_0) := (blk_cell BK111.out 0).trans rfl
              have hcz23_1 : wc.cell? ⟨gb111, 1, none⟩ = some (.int .i64 a1_1) := (blk_cell BK111.out 1).trans rfl
              have hcz23_2 : wc.cell? ⟨gb111, 2, none⟩ = some (.string a1_2) := (blk_cell BK111.out 2).trans rfl
              have hcz23_3 : wc.cell? ⟨gb111, 3, none⟩ = some (.slice A1_3 l1_3.length c1_3) := (blk_cell BK111.out 3).trans rfl
              have hfz23_0 := blk_frozen BK111.out 0
              have hfz23_1 := blk_frozen BK111.out 1
              have hfz23_2 := blk_frozen BK111.out 2
              have hfz23_3 := blk_frozen BK111.out 3
              go_wp2
              go_meet
              case rel => exact ⟨_, ((a1_0 == 3)), xQ, H', ⟨by have := HJ3.out; first | omega | exact Nat.le_refl _⟩, ⟨xB⟩, ⟨xB⟩, ⟨xB⟩, ⟨xHB⟩⟩
            · rw [if_neg c20] at H
              have c20b0 : (a1_0 == a2_0) = false := by simpa using c20
              (try (have c20b1 : decide (a1_0 = a2_0) = false := by simpa using c20))
              (try (have c20b2 : (a1_0 == a2_0) = false := by simpa using c20))
              (try (have c20b3 : ¬ (a1_0 = a2_0) := by simpa using c20))
              clear c20
              have H' := Aside0.mk H
              clear H
              go_wp2
              go_meet
              case rel => exact ⟨_, (false), xQ, H', ⟨by have := HJ3.out; first | omega | exact Nat.le_refl _⟩, ⟨xB⟩, ⟨xB⟩, ⟨xB⟩, ⟨xHB⟩⟩
          · rw [if_neg c19] at H
            have c19b0 : decide (a0 ≤ 12) = false := decide_eq_false c19
            clear c19
            (first | rw [c19b0] | (simp only [i64_w, i32_w]; rw [c19b0]) | skip)
            have H' := Aside0.mk H
            clear H
            go_wp2
            go_meet
            case rel => exact ⟨_, (false), xQ, H', ⟨by have := HJ3.out; first | omega | exact Nat.le_refl _⟩, ⟨xB⟩, ⟨xB⟩, ⟨xB⟩, ⟨xHB⟩⟩
        case rest =>
          clear HC18
          try clear c1; try clear c2; try clear p2; try clear c8; try clear c9; try clear c11; try clear c13; try clear c13b0; try clear c14; try clear c15; try clear c16; try clear c19; try clear c19b0; try clear c20; try clear c20b0; try clear c20b1; try clear c20b2; try clear c21; try clear c22; try clear hcz10_0; try clear hcz10_1; try clear hcz10_2; try clear hcz10_3; try clear hcz12_0; try clear hcz12_1; try clear hcz12_2; try clear hcz12_3; try clear hcz17_0; try clear hcz17_1; try clear hcz17_2; try clear hcz17_3; try clear hcz23_0; try clear hcz23_1; try clear hcz23_2; try clear hcz23_3; try clear hfz10_0; try clear hfz10_1; try clear hfz10_2; try clear hfz10_3; try clear hfz12_0; try clear hfz12_1; try clear hfz12_2; try clear hfz12_3; try clear hfz17_0; try clear hfz17_1; try clear hfz17_2; try clear hfz17_3; try clear hfz23_0; try clear hfz23_1; try clear hfz23_2; try clear hfz23_3; try clear p2
          obtain ⟨kq, x24_17, rfl, HA, HJ17, BK111, BK112, BK113, HB⟩ := hcut
          cases kq with
          | zero => exact absurd HA.out (by simp [val_Two.j1])
          | succ kj17 =>
            have H := HA.out
            clear HA
            simp only [val_Two.j1] at H
            by_cases c24 : x24_17 = true
            · subst c24
              have H1 : (if a0 = 11 then ((val_Bool.f (decide ((wrap64 (a1_1 + a2_1)) > 0))).bind fun bt114 => (some (bt114.1, bt114.2.1, bt114.2.2.1, bt114.2.2.2, 0))) else ((val_Bool.f ((wrap64 (a1_1 + a2_1)) == 2)).bind fun bt120 => (some (bt120.1, bt120.2.1, bt120.2.2.1, bt120.2.2.2, 0)))) = some (r1, r2, r3, r4, r5) := by rw [if_pos rfl] at H; exact H
              clear H
              have H := H1
              clear H1
              by_cases c25 : a0 = 11
              · rw [if_pos c25] at H
                have c25b0 : (a0 == 11) = true := beq_iff_eq.mpr c25
                have c25b1 : (a0 != 11) = false := bne_eq_false_iff_eq.mpr c25
                clear c25
                replace H := Option.bind_eq_some_iff.mp H
                obtain ⟨⟨t114, t115, t116, t117⟩, A260, H⟩ := H
                replace H : (some (t114, t115, t116, t117, 0)) = some (r1, r2, r3, r4, r5) := H
                have A26 := Aside0.mk A260
                clear A260
                simp only [Option.some.injEq, Prod.mk.injEq] at H
                obtain ⟨rfl, rfl, rfl, rfl, rfl⟩ := H
                have hnb27 := NB111_112.out
                have hnc27 := NB112_111.out
                have hnb28 := NB111_113.out
                have hnc28 := NB113_111.out
                have hcz29_0 : wc.cell? ⟨gb111, 0, none⟩ = some (.int .i64 a1_0) := (blk_cell BK111.out 0).trans rfl
                have hcz29_1 : wc.cell? ⟨gb111, 1, none⟩ = some (.int .i64 a1_1) := (blk_cell BK111.out 1).trans rfl
                have hcz29_2 : wc.cell? ⟨gb111, 2, none⟩ = some (.string a1_2) := (blk_cell BK111.out 2).trans rfl
                have hcz29_3 : wc.cell? ⟨gb111, 3, none⟩ = some (.slice A1_3 l1_3.length c1_3) := (blk_cell BK111.out 3).trans rfl
                have hfz29_0 := blk_frozen BK111.out 0
                have hfz29_1 := blk_frozen BK111.out 1
                have hfz29_2 := blk_frozen BK111.out 2
                have hfz29_3 := blk_frozen BK111.out 3
                have hnb30 := NB112_113.out
                have hnc30 := NB113_112.out
                have hcz31_0 : wc.cell? ⟨gb112, 0, none⟩ = some (.int .i64 a2_0) := (blk_cell BK112.out 0).trans rfl
                have hcz31_1 : wc.cell? ⟨gb112, 1, none⟩ = some (.int .i64 a2_1) := (blk_cell BK112.out 1).trans rfl
                have hcz31_2 : wc.cell? ⟨gb112, 2, none⟩ = some (.string a2_2) := (blk_cell BK112.out 2).trans rfl
                have hcz31_3 : wc.cell? ⟨gb112, 3, none⟩ = some (.slice A2_3 l2_3.length c2_3) := (blk_cell BK112.out 3).trans rfl
                have hfz31_0 := blk_frozen BK112.out 0
                have hfz31_1 := blk_frozen BK112.out 1
                have hfz31_2 := blk_frozen BK112.out 2
                have hfz31_3 := blk_frozen BK112.out 3
                go_wp2_with (first | ((with_reducible refine gate_callee (f := 21) rfl ?_); refine goesL_ (some 43) rfl rfl Try.func21 (by kernel_rfl) rfl #[.bool (decide ((wrap64 (a1_1 + a2_1)) > 0))] rfl (by (try simp only [List.map_toArray, List.map_cons, List.map_nil]); first | done | rfl | (simp only [List.length_drop, List.length_take]; rfl)) ?_; (with_reducible refine (val_Bool.calls (decide ((wrap64 (a1_1 + a2_1)) > 0)) t114 t115 t116 t117 _ A26.out).mono ?_); rintro e w32 ⟨v118, rfl, ho0, hb⟩; refine ⟨_, rfl, ?_⟩; have n0_ := Aside0.mk (Kd.R_lower (Kd.R_newB (Kd.R_newB (Kd.R_newB ho0 (g := gb111) (o := .cells #[.int .i64 a1_0, .int .i64 a1_1, .string a1_2, .slice A1_3 l1_3.length c1_3] 25 (0, 0)) xB) (g := gb112) (o := .cells #[.int .i64 a2_0, .int .i64 a2_1, .string a2_2, .slice A2_3 l2_3.length c2_3] 25 (0, 0)) xB) (g := gb113) (o := .cells #[.int .i64 0, .int .i64 0, .string (⟨#[]⟩ : ByteArray), .slice none 0 0] 25 (0, 0)) xB) (below_size xHB)); have n1_ := Aside0.mk (blk_below (g := gb111) (o := .cells #[.int .i64 a1_0, .int .i64 a1_1, .string a1_2, .slice A1_3 l1_3.length c1_3] 25 (0, 0)) xB hb); have n2_ := Aside0.mk (blk_below (g := gb112) (o := .cells #[.int .i64 a2_0, .int .i64 a2_1, .string a2_2, .slice A2_3 l2_3.length c2_3] 25 (0, 0)) xB hb); have n3_ := Aside0.mk (blk_below (g := gb113) (o := .cells #[.int .i64 0, .int .i64 0, .string (⟨#[]⟩ : ByteArray), .slice none 0 0] 25 (0, 0)) xB hb); have n4_ := Aside0.mk (below_step xHB hb); clear BK111; clear BK112; clear BK113; clear HB; have HO119 := n0_; have BK111 := n1_; have BK112 := n2_; have BK113 := n3_; have HB := n4_; clear n0_ n1_ n2_ n3_ n4_; (try clear hb); (try clear hb2); (try clear hk); (try clear hi); (try clear ho0); have hcz33_0 : w32.cell? ⟨gb113, 0, none⟩ = some (.int .i64 0) := (blk_cell BK113.out 0).trans rfl; have hcz33_1 : w32.cell? ⟨gb113, 1, none⟩ = some (.int .i64 0) := (blk_cell BK113.out 1).trans rfl; have hcz33_2 : w32.cell? ⟨gb113, 2, none⟩ = some (.string (⟨#[]⟩ : ByteArray)) := (blk_cell BK113.out 2).trans rfl; have hcz33_3 : w32.cell? ⟨gb113, 3, none⟩ = some (.slice none 0 0) := (blk_cell BK113.out 3).trans rfl; have hfz33_0 := blk_frozen BK113.out 0; have hfz33_1 := blk_frozen BK113.out 1; have hfz33_2 := blk_frozen BK113.out 2; have hfz33_3 := blk_frozen BK113.out 3; obtain ⟨Ao34, co34, eo34⟩ := Kd.R_slice HO119.out; subst eo34))
                refine bodyPost_ret (results_ct rfl _ _ gb113 25 #[.int .i64 t114, .int .i64 t115, .string t116, .slice Ao34 t117.length co34] (0, 0) _ rfl xB Try.underlying25 rfl (by kernel_rfl)) rfl ?_
                exact ⟨_, xR, by (with_reducible repeat (first | apply Kd.R_alloc | apply Kd.R_drewN | apply Kd.R_drew)); exact Kd.R_mono (Kd.R_far (p := ⟨gb113, 3, none⟩) (Kd.R_far (p := ⟨gb113, 2, none⟩) (Kd.R_far (p := ⟨gb113, 1, none⟩) (Kd.R_far (p := ⟨gb113, 0, none⟩) (Kd.R_mono HO119.out (fun k_ hk => (⟨hk, hk.2⟩ : _ ∧ k_ ≠ gb113))) (fun _ hk => hk.2) (.int .i64 t114)) (fun _ hk => hk.2) (.int .i64 t115)) (fun _ hk => hk.2) (.string t116)) (fun _ hk => hk.2) (.slice Ao34 t117.length co34)) (fun _ hk => trivial), xHB⟩
              · rw [if_neg c25] at H
                have c25b0 : (a0 == 11) = false := beq_eq_false_iff_ne.mpr c25
                have c25b1 : (a0 != 11) = true := bne_iff_ne.mpr c25
                replace H := Option.bind_eq_some_iff.mp H
                obtain ⟨⟨t120, t121, t122, t123⟩, A350, H⟩ := H
                replace H : (some (t120, t121, t122, t123, 0)) = some (r1, r2, r3, r4, r5) := H
                have A35 := Aside0.mk A350
                clear A350
                simp only [Option.some.injEq, Prod.mk.injEq] at H
                obtain ⟨rfl, rfl, rfl, rfl, rfl⟩ := H
                have hnb36 := NB111_112.out
                have hnc36 := NB112_111.out
                have hnb37 := NB111_113.out
                have hnc37 := NB113_111.out
                have hcz38_0 : wc.cell? ⟨gb111, 0, none⟩ = some (.int .i64 a1_0) := (blk_cell BK111.out 0).trans rfl
                have hcz38_1 : wc.cell? ⟨gb111, 1, none⟩ = some (.int .i64 a1_1) := (blk_cell BK111.out 1).trans rfl
                have hcz38_2 : wc.cell? ⟨gb111, 2, none⟩ = some (.string a1_2) := (blk_cell BK111.out 2).trans rfl
                have hcz38_3 : wc.cell? ⟨gb111, 3, none⟩ = some (.slice A1_3 l1_3.length c1_3) := (blk_cell BK111.out 3).trans rfl
                have hfz38_0 := blk_frozen BK111.out 0
                have hfz38_1 := blk_frozen BK111.out 1
                have hfz38_2 := blk_frozen BK111.out 2
                have hfz38_3 := blk_frozen BK111.out 3
                have hnb39 := NB112_113.out
                have hnc39 := NB113_112.out
                have hcz40_0 : wc.cell? ⟨gb112, 0, none⟩ = some (.int .i64 a2_0) := (blk_cell BK112.out 0).trans rfl
                have hcz40_1 : wc.cell? ⟨gb112, 1, none⟩ = some (.int .i64 a2_1) := (blk_cell BK112.out 1).trans rfl
                have hcz40_2 : wc.cell? ⟨gb112, 2, none⟩ = some (.string a2_2) := (blk_cell BK112.out 2).trans rfl
                have hcz40_3 : wc.cell? ⟨gb112, 3, none⟩ = some (.slice A2_3 l2_3.length c2_3) := (blk_cell BK112.out 3).trans rfl
                have hfz40_0 := blk_frozen BK112.out 0
                have hfz40_1 := blk_frozen BK112.out 1
                have hfz40_2 := blk_frozen BK112.out 2
                have hfz40_3 := blk_frozen BK112.out 3
                go_wp2_with (first | ((with_reducible refine gate_callee (f := 21) rfl ?_); refine goesL_ (some 50) rfl rfl Try.func21 (by kernel_rfl) rfl #[.bool ((wrap64 (a1_1 + a2_1)) == 2)] rfl (by (try simp only [List.map_toArray, List.map_cons, List.map_nil]); first | done | rfl | (simp only [List.length_drop, List.length_take]; rfl)) ?_; (with_reducible refine (val_Bool.calls ((wrap64 (a1_1 + a2_1)) == 2) t120 t121 t122 t123 _ A35.out).mono ?_); rintro e w41 ⟨v124, rfl, ho0, hb⟩; refine ⟨_, rfl, ?_⟩; have n0_ := Aside0.mk (Kd.R_lower (Kd.R_newB (Kd.R_newB (Kd.R_newB ho0 (g := gb111) (o := .cells #[.int .i64 a1_0, .int .i64 a1_1, .string a1_2, .slice A1_3 l1_3.length c1_3] 25 (0, 0)) xB) (g := gb112) (o := .cells #[.int .i64 a2_0, .int .i64 a2_1, .string a2_2, .slice A2_3 l2_3.length c2_3] 25 (0, 0)) xB) (g := gb113) (o := .cells #[.int .i64 0, .int .i64 0, .string (⟨#[]⟩ : ByteArray), .slice none 0 0] 25 (0, 0)) xB) (below_size xHB)); have n1_ := Aside0.mk (blk_below (g := gb111) (o := .cells #[.int .i64 a1_0, .int .i64 a1_1, .string a1_2, .slice A1_3 l1_3.length c1_3] 25 (0, 0)) xB hb); have n2_ := Aside0.mk (blk_below (g := gb112) (o := .cells #[.int .i64 a2_0, .int .i64 a2_1, .string a2_2, .slice A2_3 l2_3.length c2_3] 25 (0, 0)) xB hb); have n3_ := Aside0.mk (blk_below (g := gb113) (o := .cells #[.int .i64 0, .int .i64 0, .string (⟨#[]⟩ : ByteArray), .slice none 0 0] 25 (0, 0)) xB hb); have n4_ := Aside0.mk (below_step xHB hb); clear BK111; clear BK112; clear BK113; clear HB; have HO125 := n0_; have BK111 := n1_; have BK112 := n2_; have BK113 := n3_; have HB := n4_; clear n0_ n1_ n2_ n3_ n4_; (try clear hb); (try clear hb2); (try clear hk); (try clear hi); (try clear ho0); have hcz42_0 : w41.cell? ⟨gb113, 0, none⟩ = some (.int .i64 0) := (blk_cell BK113.out 0).trans rfl; have hcz42_1 : w41.cell? ⟨gb113, 1, none⟩ = some (.int .i64 0) := (blk_cell BK113.out 1).trans rfl; have hcz42_2 : w41.cell? ⟨gb113, 2, none⟩ = some (.string (⟨#[]⟩ : ByteArray)) := (blk_cell BK113.out 2).trans rfl; have hcz42_3 : w41.cell? ⟨gb113, 3, none⟩ = some (.slice none 0 0) := (blk_cell BK113.out 3).trans rfl; have hfz42_0 := blk_frozen BK113.out 0; have hfz42_1 := blk_frozen BK113.out 1; have hfz42_2 := blk_frozen BK113.out 2; have hfz42_3 := blk_frozen BK113.out 3; obtain ⟨Ao43, co43, eo43⟩ := Kd.R_slice HO125.out; subst eo43))
                refine bodyPost_ret (results_ct rfl _ _ gb113 25 #[.int .i64 t120, .int .i64 t121, .string t122, .slice Ao43 t123.length co43] (0, 0) _ rfl xB Try.underlying25 rfl (by kernel_rfl)) rfl ?_
                exact ⟨_, xR, by (with_reducible repeat (first | apply Kd.R_alloc | apply Kd.R_drewN | apply Kd.R_drew)); exact Kd.R_mono (Kd.R_far (p := ⟨gb113, 3, none⟩) (Kd.R_far (p := ⟨gb113, 2, none⟩) (Kd.R_far (p := ⟨gb113, 1, none⟩) (Kd.R_far (p := ⟨gb113, 0, none⟩) (Kd.R_mono HO125.out (fun k_ hk => (⟨hk, hk.2⟩ : _ ∧ k_ ≠ gb113))) (fun _ hk => hk.2) (.int .i64 t120)) (fun _ hk => hk.2) (.int .i64 t121)) (fun _ hk => hk.2) (.string t122)) (fun _ hk => hk.2) (.slice Ao43 t123.length co43)) (fun _ hk => trivial), xHB⟩
            · replace c24 := Bool.eq_false_iff.mpr c24
              subst c24
              have H1 : (if a0 = 13 then (val_Two.j2 kj17 a0 (a1_0 == a2_0) (a1_0 == a2_0) a1_0 a1_1 a1_2 l1_3 a2_0 a2_1 a2_2 l2_3) else (if a0 = 14 then (val_Two.j2 kj17 a0 (a1_0 == a2_0) (a1_0 == a2_0) a1_0 a1_1 a1_2 l1_3 a2_0 a2_1 a2_2 l2_3) else (val_Two.j2 kj17 a0 (a1_0 == a2_0) false a1_0 a1_1 a1_2 l1_3 a2_0 a2_1 a2_2 l2_3))) = some (r1, r2, r3, r4, r5) := by rw [if_neg (show ¬ (false = true) by decide)] at H; exact H
              clear H
              have H := H1
              clear H1
              have HC44 := Aside0.mk H
              clear H
              go_upto_region 8 with (fail)
              go_cut [51] (fun v51 wc => ∃ (kq : Nat) (x51_43 : Bool), v51 = .bool x51_43 ∧ Aside0 (val_Two.j2 kq a0 (a1_0 == a2_0) x51_43 a1_0 a1_1 a1_2 l1_3 a2_0 a2_1 a2_2 l2_3 = some (r1, r2, r3, r4, r5)) ∧ Aside0 (kq ≤ kj17) ∧ Aside0 (wc.heap[gb111]? = some (.cells #[.int .i64 a1_0, .int .i64 a1_1, .string a1_2, (.slice A1_3 l1_3.length c1_3)] 25 (0, 0))) ∧ Aside0 (wc.heap[gb112]? = some (.cells #[.int .i64 a2_0, .int .i64 a2_1, .string a2_2, (.slice A2_3 l2_3.length c2_3)] 25 (0, 0))) ∧ Aside0 (wc.heap[gb113]? = some (.cells #[.int .i64 0, .int .i64 0, .string (⟨#[]⟩ : ByteArray), (.slice none 0 0)] 25 (0, 0))) ∧ Aside0 (Below w.heap.size w wc))
              case first =>
                have H := HC44.out
                clear HC44
                by_cases c45 : a0 = 13
                · rw [if_pos c45] at H
                  have c45b0 : (a0 == 13) = true := beq_iff_eq.mpr c45
                  have c45b1 : (a0 != 13) = false := bne_eq_false_iff_eq.mpr c45
                  clear c45
                  (first | rw [c45b0] | (simp only [i64_w, i32_w]; rw [c45b0]) | skip)
                  have H' := Aside0.mk H
                  clear H
                  go_wp2
                  go_meet
                  case rel => exact ⟨_, ((a1_0 == a2_0)), xQ, H', ⟨by have := HJ3.out; have := HJ17.out; first | omega | exact Nat.le_refl _⟩, ⟨xB⟩, ⟨xB⟩, ⟨xB⟩, ⟨xHB⟩⟩
                · rw [if_neg c45] at H
                  have c45b0 : (a0 == 13) = false := beq_eq_false_iff_ne.mpr c45
                  have c45b1 : (a0 != 13) = true := bne_iff_ne.mpr c45
                  (first | rw [c45b0] | (simp only [i64_w, i32_w]; rw [c45b0]) | skip)
                  by_cases c46 : a0 = 14
                  · rw [if_pos c46] at H
                    have c46b0 : (a0 == 14) = true := beq_iff_eq.mpr c46
                    have c46b1 : (a0 != 14) = false := bne_eq_false_iff_eq.mpr c46
                    clear c46
                    have H' := Aside0.mk H
                    clear H
                    go_wp2
                    go_meet
                    case rel => exact ⟨_, ((a1_0 == a2_0)), xQ, H', ⟨by have := HJ3.out; have := HJ17.out; first | omega | exact Nat.le_refl _⟩, ⟨xB⟩, ⟨xB⟩, ⟨xB⟩, ⟨xHB⟩⟩
                  · rw [if_neg c46] at H
                    have c46b0 : (a0 == 14) = false := beq_eq_false_iff_ne.mpr c46
                    have c46b1 : (a0 != 14) = true := bne_iff_ne.mpr c46
                    have H' := Aside0.mk H
                    clear H
                    go_wp2
                    go_meet
                    case rel => exact ⟨_, (false), xQ, H', ⟨by have := HJ3.out; have := HJ17.out; first | omega | exact Nat.le_refl _⟩, ⟨xB⟩, ⟨xB⟩, ⟨xB⟩, ⟨xHB⟩⟩
              case rest =>
                clear HC44
                try clear c1; try clear c2; try clear p2; try clear c3; try clear c4; try clear p6; try clear c8; try clear c9; try clear c11; try clear c13; try clear c13b0; try clear c14; try clear c15; try clear c16; try clear c19; try clear c19b0; try clear c20; try clear c20b0; try clear c20b1; try clear c20b2; try clear c21; try clear c22; try clear c24; try clear c25; try clear c25b0; try clear c25b1; try clear c27; try clear c28; try clear c30; try clear c36; try clear c37; try clear c39; try clear c45; try clear c45b0; try clear c45b1; try clear c46; try clear c46b0; try clear c46b1; try clear hcz10_0; try clear hcz10_1; try clear hcz10_2; try clear hcz10_3; try clear hcz12_0; try clear hcz12_1; try clear hcz12_2; try clear hcz12_3; try clear hcz17_0; try clear hcz17_1; try clear hcz17_2; try clear hcz17_3; try clear hcz23_0; try clear hcz23_1; try clear hcz23_2; try clear hcz23_3; try clear hcz29_0; try clear hcz29_1; try clear hcz29_2; try clear hcz29_3; try clear hcz31_0; try clear hcz31_1; try clear hcz31_2; try clear hcz31_3; try clear hcz33_0; try clear hcz33_1; try clear hcz33_2; try clear hcz33_3; try clear hcz38_0; try clear hcz38_1; try clear hcz38_2; try clear hcz38_3; try clear hcz40_0; try clear hcz40_1; try clear hcz40_2; try clear hcz40_3; try clear hcz42_0; try clear hcz42_1; try clear hcz42_2; try clear hcz42_3; try clear hfz10_0; try clear hfz10_1; try clear hfz10_2; try clear hfz10_3; try clear hfz12_0; try clear hfz12_1; try clear hfz12_2; try clear hfz12_3; try clear hfz17_0; try clear hfz17_1; try clear hfz17_2; try clear hfz17_3; try clear hfz23_0; try clear hfz23_1; try clear hfz23_2; try clear hfz23_3; try clear hfz29_0; try clear hfz29_1; try clear hfz29_2; try clear hfz29_3; try clear hfz31_0; try clear hfz31_1; try clear hfz31_2; try clear hfz31_3; try clear hfz33_0; try clear hfz33_1; try clear hfz33_2; try clear hfz33_3; try clear hfz38_0; try clear hfz38_1; try clear hfz38_2; try clear hfz38_3; try clear hfz40_0; try clear hfz40_1; try clear hfz40_2; try clear hfz40_3; try clear hfz42_0; try clear hfz42_1; try clear hfz42_2; try clear hfz42_3; try clear p2
                obtain ⟨kq, x51_43, rfl, HA, HJ43, BK111, BK112, BK113, HB⟩ := hcut
                cases kq with
                | zero => exact absurd HA.out (by simp [val_Two.j2])
                | succ kj43 =>
                  have H := HA.out
                  clear HA
                  simp only [val_Two.j2] at H
                  by_cases c47 : x51_43 = true
                  · subst c47
                    have H1 : ((val_Same.f kj43 a1_0 a1_1 a1_2 l1_3 a2_0 a2_1 a2_2 l2_3).bind fun t126 => ((val_Bool.f (t126 == (a0 == 13))).bind fun bt127 => (some (bt127.1, bt127.2.1, bt127.2.2.1, bt127.2.2.2, 0)))) = some (r1, r2, r3, r4, r5) := by rw [if_pos rfl] at H; exact H
                    clear H
                    have H := H1
                    clear H1
                    replace H := Option.bind_eq_some_iff.mp H
                    obtain ⟨t126, A480, H⟩ := H
                    replace H : ((val_Bool.f (t126 == (a0 == 13))).bind fun bt127 => (some (bt127.1, bt127.2.1, bt127.2.2.1, bt127.2.2.2, 0))) = some (r1, r2, r3, r4, r5) := H
                    have A48 := Aside0.mk A480
                    clear A480
                    replace H := Option.bind_eq_some_iff.mp H
                    obtain ⟨⟨t127, t128, t129, t130⟩, A490, H⟩ := H
                    replace H : (some (t127, t128, t129, t130, 0)) = some (r1, r2, r3, r4, r5) := H
                    have A49 := Aside0.mk A490
                    clear A490
                    simp only [Option.some.injEq, Prod.mk.injEq] at H
                    obtain ⟨rfl, rfl, rfl, rfl, rfl⟩ := H
                    have hnb50 := NB111_112.out
                    have hnc50 := NB112_111.out
                    have hnb51 := NB111_113.out
                    have hnc51 := NB113_111.out
                    have hcz52_0 : wc.cell? ⟨gb111, 0, none⟩ = some (.int .i64 a1_0) := (blk_cell BK111.out 0).trans rfl
                    have hcz52_1 : wc.cell? ⟨gb111, 1, none⟩ = some (.int .i64 a1_1) := (blk_cell BK111.out 1).trans rfl
                    have hcz52_2 : wc.cell? ⟨gb111, 2, none⟩ = some (.string a1_2) := (blk_cell BK111.out 2).trans rfl
                    have hcz52_3 : wc.cell? ⟨gb111, 3, none⟩ = some (.slice A1_3 l1_3.length c1_3) := (blk_cell BK111.out 3).trans rfl
                    have hfz52_0 := blk_frozen BK111.out 0
                    have hfz52_1 := blk_frozen BK111.out 1
                    have hfz52_2 := blk_frozen BK111.out 2
                    have hfz52_3 := blk_frozen BK111.out 3
                    have hnb53 := NB112_113.out
                    have hnc53 := NB113_112.out
                    have hcz54_0 : wc.cell? ⟨gb112, 0, none⟩ = some (.int .i64 a2_0) := (blk_cell BK112.out 0).trans rfl
                    have hcz54_1 : wc.cell? ⟨gb112, 1, none⟩ = some (.int .i64 a2_1) := (blk_cell BK112.out 1).trans rfl
                    have hcz54_2 : wc.cell? ⟨gb112, 2, none⟩ = some (.string a2_2) := (blk_cell BK112.out 2).trans rfl
                    have hcz54_3 : wc.cell? ⟨gb112, 3, none⟩ = some (.slice A2_3 l2_3.length c2_3) := (blk_cell BK112.out 3).trans rfl
                    have hfz54_0 := blk_frozen BK112.out 0
                    have hfz54_1 := blk_frozen BK112.out 1
                    have hfz54_2 := blk_frozen BK112.out 2
                    have hfz54_3 := blk_frozen BK112.out 3
                    go_wp2_with (first | ((with_reducible refine gate_callee (f := 22) rfl ?_); refine goesL_ (some 63) rfl rfl Try.func22 (by kernel_rfl) rfl #[.agg #[.int .i64 a1_0, .int .i64 a1_1, .string a1_2, .slice A1_3 l1_3.length c1_3], .agg #[.int .i64 a2_0, .int .i64 a2_1, .string a2_2, .slice A2_3 l2_3.length c2_3]] rfl (by (try simp only [List.map_toArray, List.map_cons, List.map_nil]); first | done | rfl | (simp only [List.length_drop, List.length_take]; rfl)) ?_; (with_reducible refine (val_Same.calls kj43 a1_0 a1_1 a1_2 _ _ l1_3 a2_0 a2_1 a2_2 _ _ l2_3 t126 _ ?side1 ?side2 ?side3 ?side4 A48.out).mono ?_); (case side1 => repeat (first | exact (Kd.C_below HR1_3.out HB.out) | (with_reducible refine Kd.C_alloc ?_ _) | (with_reducible refine Kd.C_drewN ?_ _) | (with_reducible refine Kd.C_drew ?_))); (case side2 => exact HC1_3.out); (case side3 => repeat (first | exact (Kd.C_below HR2_3.out HB.out) | (with_reducible refine Kd.C_alloc ?_ _) | (with_reducible refine Kd.C_drewN ?_ _) | (with_reducible refine Kd.C_drew ?_))); (case side4 => exact HC2_3.out); rintro e w55 ⟨rfl, hb⟩; refine ⟨_, rfl, ?_⟩; have n0_ := Aside0.mk (blk_below (g := gb111) (o := .cells #[.int .i64 a1_0, .int .i64 a1_1, .string a1_2, .slice A1_3 l1_3.length c1_3] 25 (0, 0)) xB hb); have n1_ := Aside0.mk (blk_below (g := gb112) (o := .cells #[.int .i64 a2_0, .int .i64 a2_1, .string a2_2, .slice A2_3 l2_3.length c2_3] 25 (0, 0)) xB hb); have n2_ := Aside0.mk (blk_below (g := gb113) (o := .cells #[.int .i64 0, .int .i64 0, .string (⟨#[]⟩ : ByteArray), .slice none 0 0] 25 (0, 0)) xB hb); have n3_ := Aside0.mk (below_step xHB hb); clear BK111; clear BK112; clear BK113; clear HB; have BK111 := n0_; have BK112 := n1_; have BK113 := n2_; have HB := n3_; clear n0_ n1_ n2_ n3_; (try clear hb); (try clear hb2); (try clear hk); (try clear hi)) | ((with_reducible refine gate_callee (f := 21) rfl ?_); refine goesL_ (some 67) rfl rfl Try.func21 (by kernel_rfl) rfl #[.bool (t126 == (a0 == 13))] rfl (by (try simp only [List.map_toArray, List.map_cons, List.map_nil]); first | done | rfl | (simp only [List.length_drop, List.length_take]; rfl)) ?_; (with_reducible refine (val_Bool.calls (t126 == (a0 == 13)) t127 t128 t129 t130 _ A49.out).mono ?_); rintro e w56 ⟨v131, rfl, ho0, hb⟩; refine ⟨_, rfl, ?_⟩; have n0_ := Aside0.mk (Kd.R_lower (Kd.R_newB (Kd.R_newB (Kd.R_newB ho0 (g := gb111) (o := .cells #[.int .i64 a1_0, .int .i64 a1_1, .string a1_2, .slice A1_3 l1_3.length c1_3] 25 (0, 0)) xB) (g := gb112) (o := .cells #[.int .i64 a2_0, .int .i64 a2_1, .string a2_2, .slice A2_3 l2_3.length c2_3] 25 (0, 0)) xB) (g := gb113) (o := .cells #[.int .i64 0, .int .i64 0, .string (⟨#[]⟩ : ByteArray), .slice none 0 0] 25 (0, 0)) xB) (below_size xHB)); have n1_ := Aside0.mk (blk_below (g := gb111) (o := .cells #[.int .i64 a1_0, .int .i64 a1_1, .string a1_2, .slice A1_3 l1_3.length c1_3] 25 (0, 0)) xB hb); have n2_ := Aside0.mk (blk_below (g := gb112) (o := .cells #[.int .i64 a2_0, .int .i64 a2_1, .string a2_2, .slice A2_3 l2_3.length c2_3] 25 (0, 0)) xB hb); have n3_ := Aside0.mk (blk_below (g := gb113) (o := .cells #[.int .i64 0, .int .i64 0, .string (⟨#[]⟩ : ByteArray), .slice none 0 0] 25 (0, 0)) xB hb); have n4_ := Aside0.mk (below_step xHB hb); clear BK111; clear BK112; clear BK113; clear HB; have HO132 := n0_; have BK111 := n1_; have BK112 := n2_; have BK113 := n3_; have HB := n4_; clear n0_ n1_ n2_ n3_ n4_; (try clear hb); (try clear hb2); (try clear hk); (try clear hi); (try clear ho0); have hcz57_0 : w56.cell? ⟨gb113, 0, none⟩ = some (.int .i64 0) := (blk_cell BK113.out 0).trans rfl; have hcz57_1 : w56.cell? ⟨gb113, 1, none⟩ = some (.int .i64 0) := (blk_cell BK113.out 1).trans rfl; have hcz57_2 : w56.cell? ⟨gb113, 2, none⟩ = some (.string (⟨#[]⟩ : ByteArray)) := (blk_cell BK113.out 2).trans rfl; have hcz57_3 : w56.cell? ⟨gb113, 3, none⟩ = some (.slice none 0 0) := (blk_cell BK113.out 3).trans rfl; have hfz57_0 := blk_frozen BK113.out 0; have hfz57_1 := blk_frozen BK113.out 1; have hfz57_2 := blk_frozen BK113.out 2; have hfz57_3 := blk_frozen BK113.out 3; obtain ⟨Ao58, co58, eo58⟩ := Kd.R_slice HO132.out; subst eo58))
                    refine bodyPost_ret (results_ct rfl _ _ gb113 25 #[.int .i64 t127, .int .i64 t128, .string t129, .slice Ao58 t130.length co58] (0, 0) _ rfl xB Try.underlying25 rfl (by kernel_rfl)) rfl ?_
                    exact ⟨_, xR, by (with_reducible repeat (first | apply Kd.R_alloc | apply Kd.R_drewN | apply Kd.R_drew)); exact Kd.R_mono (Kd.R_far (p := ⟨gb113, 3, none⟩) (Kd.R_far (p := ⟨gb113, 2, none⟩) (Kd.R_far (p := ⟨gb113, 1, none⟩) (Kd.R_far (p := ⟨gb113, 0, none⟩) (Kd.R_mono HO132.out (fun k_ hk => (⟨hk, hk.2⟩ : _ ∧ k_ ≠ gb113))) (fun _ hk => hk.2) (.int .i64 t127)) (fun _ hk => hk.2) (.int .i64 t128)) (fun _ hk => hk.2) (.string t129)) (fun _ hk => hk.2) (.slice Ao58 t130.length co58)) (fun _ hk => trivial), xHB⟩
                  · replace c47 := Bool.eq_false_iff.mpr c47
                    subst c47
                    have H1 : (if a0 ≤ 14 then (val_Two.j3 kj43 a0 true a1_0 a1_1 a1_2 l1_3 a2_0 a2_1 a2_2 l2_3) else (if (a1_0 == a2_0) = true then (val_Two.j3 kj43 a0 (a1_0 != 1) a1_0 a1_1 a1_2 l1_3 a2_0 a2_1 a2_2 l2_3) else (val_Two.j3 kj43 a0 true a1_0 a1_1 a1_2 l1_3 a2_0 a2_1 a2_2 l2_3))) = some (r1, r2, r3, r4, r5) := by rw [if_neg (show ¬ (false = true) by decide)] at H; exact H
                    clear H
                    have H := H1
                    clear H1
                    have HC59 := Aside0.mk H
                    clear H
                    go_upto_region 10 with (fail)
                    go_cut [68] (fun v68 wc => ∃ (kq : Nat) (x68_58 : Bool), v68 = .bool x68_58 ∧ Aside0 (val_Two.j3 kq a0 x68_58 a1_0 a1_1 a1_2 l1_3 a2_0 a2_1 a2_2 l2_3 = some (r1, r2, r3, r4, r5)) ∧ Aside0 (kq ≤ kj43) ∧ Aside0 (wc.heap[gb111]? = some (.cells #[.int .i64 a1_0, .int .i64 a1_1, .string a1_2, (.slice A1_3 l1_3.length c1_3)] 25 (0, 0))) ∧ Aside0 (wc.heap[gb112]? = some (.cells #[.int .i64 a2_0, .int .i64 a2_1, .string a2_2, (.slice A2_3 l2_3.length c2_3)] 25 (0, 0))) ∧ Aside0 (wc.heap[gb113]? = some (.cells #[.int .i64 0, .int .i64 0, .string (⟨#[]⟩ : ByteArray), (.slice none 0 0)] 25 (0, 0))) ∧ Aside0 (Below w.heap.size w wc))
                    case first =>
                      have H := HC59.out
                      clear HC59
                      by_cases c60 : a0 ≤ 14
                      · rw [if_pos c60] at H
                        have c60b0 : decide (a0 ≤ 14) = true := decide_eq_true c60
                        clear c60
                        (first | rw [c60b0] | (simp only [i64_w, i32_w]; rw [c60b0]) | skip)
                        have H' := Aside0.mk H
                        clear H
                        go_wp2
                        go_meet
                        case rel => exact ⟨_, (true), xQ, H', ⟨by have := HJ3.out; have := HJ17.out; have := HJ43.out; first | omega | exact Nat.le_refl _⟩, ⟨xB⟩, ⟨xB⟩, ⟨xB⟩, ⟨xHB⟩⟩
                      · rw [if_neg c60] at H
                        have c60b0 : decide (a0 ≤ 14) = false := decide_eq_false c60
                        clear c60
                        (first | rw [c60b0] | (simp only [i64_w, i32_w]; rw [c60b0]) | skip)
                        by_cases c61 : (a1_0 == a2_0) = true
                        · rw [if_pos c61] at H
                          have c61b0 : (a1_0 == a2_0) = true := c61
                          (try (have c61b1 : decide (a1_0 = a2_0) = true := by simpa using c61))
                          (try (have c61b2 : (a1_0 == a2_0) = true := by simpa using c61))
                          clear c61
                          have H' := Aside0.mk H
                          clear H
                          have hnb62 := NB111_112.out
                          have hnc62 := NB112_111.out
                          have hnb63 := NB111_113.out
                          have hnc63 := NB113_111.out
                          have hcz64_0 : wc.cell? ⟨gb111, 0, none⟩ = some (.int .i64 a1_0) := (blk_cell BK111.out 0).trans rfl
                          have hcz64_1 : wc.cell? ⟨gb111, 1, none⟩ = some (.int .i64 a1_1) := (blk_cell BK111.out 1).trans rfl
                          have hcz64_2 : wc.cell? ⟨gb111, 2, none⟩ = some (.string a1_2) := (blk_cell BK111.out 2).trans rfl
                          have hcz64_3 : wc.cell? ⟨gb111, 3, none⟩ = some (.slice A1_3 l1_3.length c1_3) := (blk_cell BK111.out 3).trans rfl
                          have hfz64_0 := blk_frozen BK111.out 0
                          have hfz64_1 := blk_frozen BK111.out 1
                          have hfz64_2 := blk_frozen BK111.out 2
                          have hfz64_3 := blk_frozen BK111.out 3
                          go_wp2
                          go_meet
                          case rel => exact ⟨_, ((a1_0 != 1)), xQ, H', ⟨by have := HJ3.out; have := HJ17.out; have := HJ43.out; first | omega | exact Nat.le_refl _⟩, ⟨xB⟩, ⟨xB⟩, ⟨xB⟩, ⟨xHB⟩⟩
                        · rw [if_neg c61] at H
                          have c61b0 : (a1_0 == a2_0) = false := by simpa using c61
                          (try (have c61b1 : decide (a1_0 = a2_0) = false := by simpa using c61))
                          (try (have c61b2 : (a1_0 == a2_0) = false := by simpa using c61))
                          (try (have c61b3 : ¬ (a1_0 = a2_0) := by simpa using c61))
                          clear c61
                          have H' := Aside0.mk H
                          clear H
                          go_wp2
                          go_meet
                          case rel => exact ⟨_, (true), xQ, H', ⟨by have := HJ3.out; have := HJ17.out; have := HJ43.out; first | omega | exact Nat.le_refl _⟩, ⟨xB⟩, ⟨xB⟩, ⟨xB⟩, ⟨xHB⟩⟩
                    case rest =>
                      clear HC59
                      try clear c1; try clear c2; try clear p2; try clear c3; try clear c4; try clear c5; try clear c6; try clear p6; try clear c8; try clear c9; try clear c11; try clear c13; try clear c13b0; try clear c14; try clear c15; try clear c16; try clear c19; try clear c19b0; try clear c20; try clear c20b0; try clear c20b1; try clear c20b2; try clear c21; try clear c22; try clear c24; try clear c25; try clear c25b0; try clear c25b1; try clear c27; try clear c28; try clear c30; try clear c36; try clear c37; try clear c39; try clear c45; try clear c45b0; try clear c45b1; try clear c46; try clear c46b0; try clear c46b1; try clear c47; try clear c50; try clear c51; try clear c53; try clear c60; try clear c60b0; try clear c61; try clear c61b0; try clear c61b1; try clear c61b2; try clear c62; try clear c63; try clear p64; try clear hcz10_0; try clear hcz10_1; try clear hcz10_2; try clear hcz10_3; try clear hcz12_0; try clear hcz12_1; try clear hcz12_2; try clear hcz12_3; try clear hcz17_0; try clear hcz17_1; try clear hcz17_2; try clear hcz17_3; try clear hcz23_0; try clear hcz23_1; try clear hcz23_2; try clear hcz23_3; try clear hcz29_0; try clear hcz29_1; try clear hcz29_2; try clear hcz29_3; try clear hcz31_0; try clear hcz31_1; try clear hcz31_2; try clear hcz31_3; try clear hcz33_0; try clear hcz33_1; try clear hcz33_2; try clear hcz33_3; try clear hcz38_0; try clear hcz38_1; try clear hcz38_2; try clear hcz38_3; try clear hcz40_0; try clear hcz40_1; try clear hcz40_2; try clear hcz40_3; try clear hcz42_0; try clear hcz42_1; try clear hcz42_2; try clear hcz42_3; try clear hcz52_0; try clear hcz52_1; try clear hcz52_2; try clear hcz52_3; try clear hcz54_0; try clear hcz54_1; try clear hcz54_2; try clear hcz54_3; try clear hcz57_0; try clear hcz57_1; try clear hcz57_2; try clear hcz57_3; try clear hcz64_0; try clear hcz64_1; try clear hcz64_2; try clear hcz64_3; try clear hfz10_0; try clear hfz10_1; try clear hfz10_2; try clear hfz10_3; try clear hfz12_0; try clear hfz12_1; try clear hfz12_2; try clear hfz12_3; try clear hfz17_0; try clear hfz17_1; try clear hfz17_2; try clear hfz17_3; try clear hfz23_0; try clear hfz23_1; try clear hfz23_2; try clear hfz23_3; try clear hfz29_0; try clear hfz29_1; try clear hfz29_2; try clear hfz29_3; try clear hfz31_0; try clear hfz31_1; try clear hfz31_2; try clear hfz31_3; try clear hfz33_0; try clear hfz33_1; try clear hfz33_2; try clear hfz33_3; try clear hfz38_0; try clear hfz38_1; try clear hfz38_2; try clear hfz38_3; try clear hfz40_0; try clear hfz40_1; try clear hfz40_2; try clear hfz40_3; try clear hfz42_0; try clear hfz42_1; try clear hfz42_2; try clear hfz42_3; try clear hfz52_0; try clear hfz52_1; try clear hfz52_2; try clear hfz52_3; try clear hfz54_0; try clear hfz54_1; try clear hfz54_2; try clear hfz54_3; try clear hfz57_0; try clear hfz57_1; try clear hfz57_2; try clear hfz57_3; try clear hfz64_0; try clear hfz64_1; try clear hfz64_2; try clear hfz64_3; try clear p2; try clear p6
                      obtain ⟨kq, x68_58, rfl, HA, HJ58, BK111, BK112, BK113, HB⟩ := hcut
                      cases kq with
                      | zero => exact absurd HA.out (by simp [val_Two.j3])
                      | succ kj58 =>
                        have H := HA.out
                        clear HA
                        simp only [val_Two.j3] at H
                        by_cases c65 : x68_58 = true
                        · subst c65
                          have H1 : (some (0, 0, (⟨#[]⟩ : ByteArray), ([] : List (S25)), 7)) = some (r1, r2, r3, r4, r5) := by rw [if_pos rfl] at H; exact H
                          clear H
                          have H := H1
                          clear H1
                          simp only [Option.some.injEq, Prod.mk.injEq] at H
                          obtain ⟨rfl, rfl, rfl, rfl, rfl⟩ := H
                          have hnb66 := NB113_111.out
                          have hnc66 := NB111_113.out
                          have hnb67 := NB113_112.out
                          have hnc67 := NB112_113.out
                          have hcz68_0 : wc.cell? ⟨gb113, 0, none⟩ = some (.int .i64 0) := (blk_cell BK113.out 0).trans rfl
                          have hcz68_1 : wc.cell? ⟨gb113, 1, none⟩ = some (.int .i64 0) := (blk_cell BK113.out 1).trans rfl
                          have hcz68_2 : wc.cell? ⟨gb113, 2, none⟩ = some (.string (⟨#[]⟩ : ByteArray)) := (blk_cell BK113.out 2).trans rfl
                          have hcz68_3 : wc.cell? ⟨gb113, 3, none⟩ = some (.slice none 0 0) := (blk_cell BK113.out 3).trans rfl
                          have hfz68_0 := blk_frozen BK113.out 0
                          have hfz68_1 := blk_frozen BK113.out 1
                          have hfz68_2 := blk_frozen BK113.out 2
                          have hfz68_3 := blk_frozen BK113.out 3
                          go_wp2
                          refine bodyPost_ret (results_ct rfl _ _ gb113 25 #[.int .i64 0, .int .i64 0, .string (⟨#[]⟩ : ByteArray), .slice none 0 0] (0, 0) _ rfl xB Try.underlying25 rfl (by kernel_rfl)) rfl ?_
                          exact ⟨_, xR, by first | exact Kd.R_nil _ _ _ _ _ | exact Kd.N_nil _ _ _ _ _ | exact Kd.V_nil _ _ _ _ _ | exact Kd.Q_nil _ _ _ _ _ | exact Kd.S_nil _ _ _ _ _, xHB⟩
                        · replace c65 := Bool.eq_false_iff.mpr c65
                          subst c65
                          have H1 : (if a0 ≤ 18 then ((val_compare.f a0 a1_1 a2_1).bind fun t133 => ((val_Bool.f t133).bind fun bt134 => (some (bt134.1, bt134.2.1, bt134.2.2.1, bt134.2.2.2, 0)))) else ((val_reckon.f a0 a1_1 a2_1).bind fun bt140 => (if bt140.2 = 0 then ((val_Int.f bt140.1).bind fun bt142 => (some (bt142.1, bt142.2.1, bt142.2.2.1, bt142.2.2.2, 0))) else (some (0, 0, (⟨#[]⟩ : ByteArray), ([] : List (S25)), bt140.2))))) = some (r1, r2, r3, r4, r5) := by rw [if_neg (show ¬ (false = true) by decide)] at H; exact H
                          clear H
                          have H := H1
                          clear H1
                          by_cases c69 : a0 ≤ 18
                          · rw [if_pos c69] at H
                            have c69b0 : decide (a0 ≤ 18) = true := decide_eq_true c69
                            clear c69
                            replace H := Option.bind_eq_some_iff.mp H
                            obtain ⟨t133, A700, H⟩ := H
                            replace H : ((val_Bool.f t133).bind fun bt134 => (some (bt134.1, bt134.2.1, bt134.2.2.1, bt134.2.2.2, 0))) = some (r1, r2, r3, r4, r5) := H
                            have A70 := Aside0.mk A700
                            clear A700
                            replace H := Option.bind_eq_some_iff.mp H
                            obtain ⟨⟨t134, t135, t136, t137⟩, A710, H⟩ := H
                            replace H : (some (t134, t135, t136, t137, 0)) = some (r1, r2, r3, r4, r5) := H
                            have A71 := Aside0.mk A710
                            clear A710
                            simp only [Option.some.injEq, Prod.mk.injEq] at H
                            obtain ⟨rfl, rfl, rfl, rfl, rfl⟩ := H
                            have hnb72 := NB111_112.out
                            have hnc72 := NB112_111.out
                            have hnb73 := NB111_113.out
                            have hnc73 := NB113_111.out
                            have hcz74_0 : wc.cell? ⟨gb111, 0, none⟩ = some (.int .i64 a1_0) := (blk_cell BK111.out 0).trans rfl
                            have hcz74_1 : wc.cell? ⟨gb111, 1, none⟩ = some (.int .i64 a1_1) := (blk_cell BK111.out 1).trans rfl
                            have hcz74_2 : wc.cell? ⟨gb111, 2, none⟩ = some (.string a1_2) := (blk_cell BK111.out 2).trans rfl
                            have hcz74_3 : wc.cell? ⟨gb111, 3, none⟩ = some (.slice A1_3 l1_3.length c1_3) := (blk_cell BK111.out 3).trans rfl
                            have hfz74_0 := blk_frozen BK111.out 0
                            have hfz74_1 := blk_frozen BK111.out 1
                            have hfz74_2 := blk_frozen BK111.out 2
                            have hfz74_3 := blk_frozen BK111.out 3
                            have hnb75 := NB112_113.out
                            have hnc75 := NB113_112.out
                            have hcz76_0 : wc.cell? ⟨gb112, 0, none⟩ = some (.int .i64 a2_0) := (blk_cell BK112.out 0).trans rfl
                            have hcz76_1 : wc.cell? ⟨gb112, 1, none⟩ = some (.int .i64 a2_1) := (blk_cell BK112.out 1).trans rfl
                            have hcz76_2 : wc.cell? ⟨gb112, 2, none⟩ = some (.string a2_2) := (blk_cell BK112.out 2).trans rfl
                            have hcz76_3 : wc.cell? ⟨gb112, 3, none⟩ = some (.slice A2_3 l2_3.length c2_3) := (blk_cell BK112.out 3).trans rfl
                            have hfz76_0 := blk_frozen BK112.out 0
                            have hfz76_1 := blk_frozen BK112.out 1
                            have hfz76_2 := blk_frozen BK112.out 2
                            have hfz76_3 := blk_frozen BK112.out 3
                            go_wp2_with (first | ((with_reducible refine gate_callee (f := 23) rfl ?_); refine goesL_ (some 89) rfl rfl Try.func23 (by kernel_rfl) rfl #[.int .i64 a0, .int .i64 a1_1, .int .i64 a2_1] rfl (by (try simp only [List.map_toArray, List.map_cons, List.map_nil]); first | done | rfl | (simp only [List.length_drop, List.length_take]; rfl)) ?_; (with_reducible refine (val_compare.calls a0 a1_1 a2_1 t133 _ A70.out).mono ?_); rintro e w' ⟨rfl, ⟨nd, rfl⟩⟩; refine ⟨_, rfl, ?_⟩; (try (rw [drewN_self wc]; generalize hq_ : World.drewN wc _ = wc; have n0_ : Aside0 (wc.heap[gb111]? = some (.cells #[.int .i64 a1_0, .int .i64 a1_1, .string a1_2, .slice A1_3 l1_3.length c1_3] 25 (0, 0))) := ⟨by rw [← hq_]; exact xB⟩; have n1_ : Aside0 (wc.heap[gb112]? = some (.cells #[.int .i64 a2_0, .int .i64 a2_1, .string a2_2, .slice A2_3 l2_3.length c2_3] 25 (0, 0))) := ⟨by rw [← hq_]; exact xB⟩; have n2_ : Aside0 (wc.heap[gb113]? = some (.cells #[.int .i64 0, .int .i64 0, .string (⟨#[]⟩ : ByteArray), .slice none 0 0] 25 (0, 0))) := ⟨by rw [← hq_]; exact xB⟩; have n3_ : Aside0 (Below w.heap.size w wc) := ⟨by rw [← hq_]; exact xHB⟩; clear BK111 BK112 BK113 HB hq_; have BK111 := n0_; have BK112 := n1_; have BK113 := n2_; have HB := n3_; clear n0_ n1_ n2_ n3_))) | ((with_reducible refine gate_callee (f := 21) rfl ?_); refine goesL_ (some 90) rfl rfl Try.func21 (by kernel_rfl) rfl #[.bool t133] rfl (by (try simp only [List.map_toArray, List.map_cons, List.map_nil]); first | done | rfl | (simp only [List.length_drop, List.length_take]; rfl)) ?_; (with_reducible refine (val_Bool.calls t133 t134 t135 t136 t137 _ A71.out).mono ?_); rintro e w77 ⟨v138, rfl, ho0, hb⟩; refine ⟨_, rfl, ?_⟩; have n0_ := Aside0.mk (Kd.R_lower (Kd.R_newB (Kd.R_newB (Kd.R_newB ho0 (g := gb111) (o := .cells #[.int .i64 a1_0, .int .i64 a1_1, .string a1_2, .slice A1_3 l1_3.length c1_3] 25 (0, 0)) xB) (g := gb112) (o := .cells #[.int .i64 a2_0, .int .i64 a2_1, .string a2_2, .slice A2_3 l2_3.length c2_3] 25 (0, 0)) xB) (g := gb113) (o := .cells #[.int .i64 0, .int .i64 0, .string (⟨#[]⟩ : ByteArray), .slice none 0 0] 25 (0, 0)) xB) (below_size xHB)); have n1_ := Aside0.mk (blk_below (g := gb111) (o := .cells #[.int .i64 a1_0, .int .i64 a1_1, .string a1_2, .slice A1_3 l1_3.length c1_3] 25 (0, 0)) xB hb); have n2_ := Aside0.mk (blk_below (g := gb112) (o := .cells #[.int .i64 a2_0, .int .i64 a2_1, .string a2_2, .slice A2_3 l2_3.length c2_3] 25 (0, 0)) xB hb); have n3_ := Aside0.mk (blk_below (g := gb113) (o := .cells #[.int .i64 0, .int .i64 0, .string (⟨#[]⟩ : ByteArray), .slice none 0 0] 25 (0, 0)) xB hb); have n4_ := Aside0.mk (below_step xHB hb); clear BK111; clear BK112; clear BK113; clear HB; have HO139 := n0_; have BK111 := n1_; have BK112 := n2_; have BK113 := n3_; have HB := n4_; clear n0_ n1_ n2_ n3_ n4_; (try clear hb); (try clear hb2); (try clear hk); (try clear hi); (try clear ho0); have hcz78_0 : w77.cell? ⟨gb113, 0, none⟩ = some (.int .i64 0) := (blk_cell BK113.out 0).trans rfl; have hcz78_1 : w77.cell? ⟨gb113, 1, none⟩ = some (.int .i64 0) := (blk_cell BK113.out 1).trans rfl; have hcz78_2 : w77.cell? ⟨gb113, 2, none⟩ = some (.string (⟨#[]⟩ : ByteArray)) := (blk_cell BK113.out 2).trans rfl; have hcz78_3 : w77.cell? ⟨gb113, 3, none⟩ = some (.slice none 0 0) := (blk_cell BK113.out 3).trans rfl; have hfz78_0 := blk_frozen BK113.out 0; have hfz78_1 := blk_frozen BK113.out 1; have hfz78_2 := blk_frozen BK113.out 2; have hfz78_3 := blk_frozen BK113.out 3; obtain ⟨Ao79, co79, eo79⟩ := Kd.R_slice HO139.out; subst eo79))
                            refine bodyPost_ret (results_ct rfl _ _ gb113 25 #[.int .i64 t134, .int .i64 t135, .string t136, .slice Ao79 t137.length co79] (0, 0) _ rfl xB Try.underlying25 rfl (by kernel_rfl)) rfl ?_
                            exact ⟨_, xR, by (with_reducible repeat (first | apply Kd.R_alloc | apply Kd.R_drewN | apply Kd.R_drew)); exact Kd.R_mono (Kd.R_far (p := ⟨gb113, 3, none⟩) (Kd.R_far (p := ⟨gb113, 2, none⟩) (Kd.R_far (p := ⟨gb113, 1, none⟩) (Kd.R_far (p := ⟨gb113, 0, none⟩) (Kd.R_mono HO139.out (fun k_ hk => (⟨hk, hk.2⟩ : _ ∧ k_ ≠ gb113))) (fun _ hk => hk.2) (.int .i64 t134)) (fun _ hk => hk.2) (.int .i64 t135)) (fun _ hk => hk.2) (.string t136)) (fun _ hk => hk.2) (.slice Ao79 t137.length co79)) (fun _ hk => trivial), xHB⟩
                          · rw [if_neg c69] at H
                            have c69b0 : decide (a0 ≤ 18) = false := decide_eq_false c69
                            clear c69
                            replace H := Option.bind_eq_some_iff.mp H
                            obtain ⟨⟨t140, t141⟩, A800, H⟩ := H
                            replace H : (if t141 = 0 then ((val_Int.f t140).bind fun bt142 => (some (bt142.1, bt142.2.1, bt142.2.2.1, bt142.2.2.2, 0))) else (some (0, 0, (⟨#[]⟩ : ByteArray), ([] : List (S25)), t141))) = some (r1, r2, r3, r4, r5) := H
                            have A80 := Aside0.mk A800
                            clear A800
                            by_cases c81 : t141 = 0
                            · rw [if_pos c81] at H
                              have c81b0 : (t141 == 0) = true := beq_iff_eq.mpr c81
                              have c81b1 : (t141 != 0) = false := bne_eq_false_iff_eq.mpr c81
                              clear c81
                              replace H := Option.bind_eq_some_iff.mp H
                              obtain ⟨⟨t142, t143, t144, t145⟩, A820, H⟩ := H
                              replace H : (some (t142, t143, t144, t145, 0)) = some (r1, r2, r3, r4, r5) := H
                              have A82 := Aside0.mk A820
                              clear A820
                              simp only [Option.some.injEq, Prod.mk.injEq] at H
                              obtain ⟨rfl, rfl, rfl, rfl, rfl⟩ := H
                              have hnb83 := NB111_112.out
                              have hnc83 := NB112_111.out
                              have hnb84 := NB111_113.out
                              have hnc84 := NB113_111.out
                              have hcz85_0 : wc.cell? ⟨gb111, 0, none⟩ = some (.int .i64 a1_0) := (blk_cell BK111.out 0).trans rfl
                              have hcz85_1 : wc.cell? ⟨gb111, 1, none⟩ = some (.int .i64 a1_1) := (blk_cell BK111.out 1).trans rfl
                              have hcz85_2 : wc.cell? ⟨gb111, 2, none⟩ = some (.string a1_2) := (blk_cell BK111.out 2).trans rfl
                              have hcz85_3 : wc.cell? ⟨gb111, 3, none⟩ = some (.slice A1_3 l1_3.length c1_3) := (blk_cell BK111.out 3).trans rfl
                              have hfz85_0 := blk_frozen BK111.out 0
                              have hfz85_1 := blk_frozen BK111.out 1
                              have hfz85_2 := blk_frozen BK111.out 2
                              have hfz85_3 := blk_frozen BK111.out 3
                              have hnb86 := NB112_113.out
                              have hnc86 := NB113_112.out
                              have hcz87_0 : wc.cell? ⟨gb112, 0, none⟩ = some (.int .i64 a2_0) := (blk_cell BK112.out 0).trans rfl
                              have hcz87_1 : wc.cell? ⟨gb112, 1, none⟩ = some (.int .i64 a2_1) := (blk_cell BK112.out 1).trans rfl
                              have hcz87_2 : wc.cell? ⟨gb112, 2, none⟩ = some (.string a2_2) := (blk_cell BK112.out 2).trans rfl
                              have hcz87_3 : wc.cell? ⟨gb112, 3, none⟩ = some (.slice A2_3 l2_3.length c2_3) := (blk_cell BK112.out 3).trans rfl
                              have hfz87_0 := blk_frozen BK112.out 0
                              have hfz87_1 := blk_frozen BK112.out 1
                              have hfz87_2 := blk_frozen BK112.out 2
                              have hfz87_3 := blk_frozen BK112.out 3
                              go_wp2_with (first | ((with_reducible refine gate_callee (f := 24) rfl ?_); refine goesL_ (some 97) rfl rfl Try.func24 (by kernel_rfl) rfl #[.int .i64 a0, .int .i64 a1_1, .int .i64 a2_1] rfl (by (try simp only [List.map_toArray, List.map_cons, List.map_nil]); first | done | rfl | (simp only [List.length_drop, List.length_take]; rfl)) ?_; (with_reducible refine (val_reckon.calls a0 a1_1 a2_1 t140 t141 _ A80.out).mono ?_); rintro e w' ⟨rfl, ⟨nd, rfl⟩⟩; refine ⟨_, rfl, ?_⟩; (try (rw [drewN_self wc]; generalize hq_ : World.drewN wc _ = wc; have n0_ : Aside0 (wc.heap[gb111]? = some (.cells #[.int .i64 a1_0, .int .i64 a1_1, .string a1_2, .slice A1_3 l1_3.length c1_3] 25 (0, 0))) := ⟨by rw [← hq_]; exact xB⟩; have n1_ : Aside0 (wc.heap[gb112]? = some (.cells #[.int .i64 a2_0, .int .i64 a2_1, .string a2_2, .slice A2_3 l2_3.length c2_3] 25 (0, 0))) := ⟨by rw [← hq_]; exact xB⟩; have n2_ : Aside0 (wc.heap[gb113]? = some (.cells #[.int .i64 0, .int .i64 0, .string (⟨#[]⟩ : ByteArray), .slice none 0 0] 25 (0, 0))) := ⟨by rw [← hq_]; exact xB⟩; have n3_ : Aside0 (Below w.heap.size w wc) := ⟨by rw [← hq_]; exact xHB⟩; clear BK111 BK112 BK113 HB hq_; have BK111 := n0_; have BK112 := n1_; have BK113 := n2_; have HB := n3_; clear n0_ n1_ n2_ n3_))) | ((with_reducible refine gate_callee (f := 25) rfl ?_); refine goesL_ (some 105) rfl rfl Try.func25 (by kernel_rfl) rfl #[.int .i64 t140] rfl (by (try simp only [List.map_toArray, List.map_cons, List.map_nil]); first | done | rfl | (simp only [List.length_drop, List.length_take]; rfl)) ?_; (with_reducible refine (val_Int.calls t140 t142 t143 t144 t145 _ A82.out).mono ?_); rintro e w88 ⟨v146, rfl, ho0, hb⟩; refine ⟨_, rfl, ?_⟩; have n0_ := Aside0.mk (Kd.R_lower (Kd.R_newB (Kd.R_newB (Kd.R_newB ho0 (g := gb111) (o := .cells #[.int .i64 a1_0, .int .i64 a1_1, .string a1_2, .slice A1_3 l1_3.length c1_3] 25 (0, 0)) xB) (g := gb112) (o := .cells #[.int .i64 a2_0, .int .i64 a2_1, .string a2_2, .slice A2_3 l2_3.length c2_3] 25 (0, 0)) xB) (g := gb113) (o := .cells #[.int .i64 0, .int .i64 0, .string (⟨#[]⟩ : ByteArray), .slice none 0 0] 25 (0, 0)) xB) (below_size xHB)); have n1_ := Aside0.mk (blk_below (g := gb111) (o := .cells #[.int .i64 a1_0, .int .i64 a1_1, .string a1_2, .slice A1_3 l1_3.length c1_3] 25 (0, 0)) xB hb); have n2_ := Aside0.mk (blk_below (g := gb112) (o := .cells #[.int .i64 a2_0, .int .i64 a2_1, .string a2_2, .slice A2_3 l2_3.length c2_3] 25 (0, 0)) xB hb); have n3_ := Aside0.mk (blk_below (g := gb113) (o := .cells #[.int .i64 0, .int .i64 0, .string (⟨#[]⟩ : ByteArray), .slice none 0 0] 25 (0, 0)) xB hb); have n4_ := Aside0.mk (below_step xHB hb); clear BK111; clear BK112; clear BK113; clear HB; have HO147 := n0_; have BK111 := n1_; have BK112 := n2_; have BK113 := n3_; have HB := n4_; clear n0_ n1_ n2_ n3_ n4_; (try clear hb); (try clear hb2); (try clear hk); (try clear hi); (try clear ho0); have hcz89_0 : w88.cell? ⟨gb113, 0, none⟩ = some (.int .i64 0) := (blk_cell BK113.out 0).trans rfl; have hcz89_1 : w88.cell? ⟨gb113, 1, none⟩ = some (.int .i64 0) := (blk_cell BK113.out 1).trans rfl; have hcz89_2 : w88.cell? ⟨gb113, 2, none⟩ = some (.string (⟨#[]⟩ : ByteArray)) := (blk_cell BK113.out 2).trans rfl; have hcz89_3 : w88.cell? ⟨gb113, 3, none⟩ = some (.slice none 0 0) := (blk_cell BK113.out 3).trans rfl; have hfz89_0 := blk_frozen BK113.out 0; have hfz89_1 := blk_frozen BK113.out 1; have hfz89_2 := blk_frozen BK113.out 2; have hfz89_3 := blk_frozen BK113.out 3; obtain ⟨Ao90, co90, eo90⟩ := Kd.R_slice HO147.out; subst eo90))
                              refine bodyPost_ret (results_ct rfl _ _ gb113 25 #[.int .i64 t142, .int .i64 t143, .string t144, .slice Ao90 t145.length co90] (0, 0) _ rfl xB Try.underlying25 rfl (by kernel_rfl)) rfl ?_
                              exact ⟨_, xR, by (with_reducible repeat (first | apply Kd.R_alloc | apply Kd.R_drewN | apply Kd.R_drew)); exact Kd.R_mono (Kd.R_far (p := ⟨gb113, 3, none⟩) (Kd.R_far (p := ⟨gb113, 2, none⟩) (Kd.R_far (p := ⟨gb113, 1, none⟩) (Kd.R_far (p := ⟨gb113, 0, none⟩) (Kd.R_mono HO147.out (fun k_ hk => (⟨hk, hk.2⟩ : _ ∧ k_ ≠ gb113))) (fun _ hk => hk.2) (.int .i64 t142)) (fun _ hk => hk.2) (.int .i64 t143)) (fun _ hk => hk.2) (.string t144)) (fun _ hk => hk.2) (.slice Ao90 t145.length co90)) (fun _ hk => trivial), xHB⟩
                            · rw [if_neg c81] at H
                              have c81b0 : (t141 == 0) = false := beq_eq_false_iff_ne.mpr c81
                              have c81b1 : (t141 != 0) = true := bne_iff_ne.mpr c81
                              simp only [Option.some.injEq, Prod.mk.injEq] at H
                              obtain ⟨rfl, rfl, rfl, rfl, rfl⟩ := H
                              have hnb91 := NB111_112.out
                              have hnc91 := NB112_111.out
                              have hnb92 := NB111_113.out
                              have hnc92 := NB113_111.out
                              have hcz93_0 : wc.cell? ⟨gb111, 0, none⟩ = some (.int .i64 a1_0) := (blk_cell BK111.out 0).trans rfl
                              have hcz93_1 : wc.cell? ⟨gb111, 1, none⟩ = some (.int .i64 a1_1) := (blk_cell BK111.out 1).trans rfl
                              have hcz93_2 : wc.cell? ⟨gb111, 2, none⟩ = some (.string a1_2) := (blk_cell BK111.out 2).trans rfl
                              have hcz93_3 : wc.cell? ⟨gb111, 3, none⟩ = some (.slice A1_3 l1_3.length c1_3) := (blk_cell BK111.out 3).trans rfl
                              have hfz93_0 := blk_frozen BK111.out 0
                              have hfz93_1 := blk_frozen BK111.out 1
                              have hfz93_2 := blk_frozen BK111.out 2
                              have hfz93_3 := blk_frozen BK111.out 3
                              have hnb94 := NB112_113.out
                              have hnc94 := NB113_112.out
                              have hcz95_0 : wc.cell? ⟨gb112, 0, none⟩ = some (.int .i64 a2_0) := (blk_cell BK112.out 0).trans rfl
                              have hcz95_1 : wc.cell? ⟨gb112, 1, none⟩ = some (.int .i64 a2_1) := (blk_cell BK112.out 1).trans rfl
                              have hcz95_2 : wc.cell? ⟨gb112, 2, none⟩ = some (.string a2_2) := (blk_cell BK112.out 2).trans rfl
                              have hcz95_3 : wc.cell? ⟨gb112, 3, none⟩ = some (.slice A2_3 l2_3.length c2_3) := (blk_cell BK112.out 3).trans rfl
                              have hfz95_0 := blk_frozen BK112.out 0
                              have hfz95_1 := blk_frozen BK112.out 1
                              have hfz95_2 := blk_frozen BK112.out 2
                              have hfz95_3 := blk_frozen BK112.out 3
                              go_wp2_with (first | ((with_reducible refine gate_callee (f := 24) rfl ?_); refine goesL_ (some 97) rfl rfl Try.func24 (by kernel_rfl) rfl #[.int .i64 a0, .int .i64 a1_1, .int .i64 a2_1] rfl (by (try simp only [List.map_toArray, List.map_cons, List.map_nil]); first | done | rfl | (simp only [List.length_drop, List.length_take]; rfl)) ?_; (with_reducible refine (val_reckon.calls a0 a1_1 a2_1 t140 t141 _ A80.out).mono ?_); rintro e w' ⟨rfl, ⟨nd, rfl⟩⟩; refine ⟨_, rfl, ?_⟩; (try (rw [drewN_self wc]; generalize hq_ : World.drewN wc _ = wc; have n0_ : Aside0 (wc.heap[gb111]? = some (.cells #[.int .i64 a1_0, .int .i64 a1_1, .string a1_2, .slice A1_3 l1_3.length c1_3] 25 (0, 0))) := ⟨by rw [← hq_]; exact xB⟩; have n1_ : Aside0 (wc.heap[gb112]? = some (.cells #[.int .i64 a2_0, .int .i64 a2_1, .string a2_2, .slice A2_3 l2_3.length c2_3] 25 (0, 0))) := ⟨by rw [← hq_]; exact xB⟩; have n2_ : Aside0 (wc.heap[gb113]? = some (.cells #[.int .i64 0, .int .i64 0, .string (⟨#[]⟩ : ByteArray), .slice none 0 0] 25 (0, 0))) := ⟨by rw [← hq_]; exact xB⟩; have n3_ : Aside0 (Below w.heap.size w wc) := ⟨by rw [← hq_]; exact xHB⟩; clear BK111 BK112 BK113 HB hq_; have BK111 := n0_; have BK112 := n1_; have BK113 := n2_; have HB := n3_; clear n0_ n1_ n2_ n3_)); have hcz96_0 : wc.cell? ⟨gb113, 0, none⟩ = some (.int .i64 0) := (blk_cell BK113.out 0).trans rfl; have hcz96_1 : wc.cell? ⟨gb113, 1, none⟩ = some (.int .i64 0) := (blk_cell BK113.out 1).trans rfl; have hcz96_2 : wc.cell? ⟨gb113, 2, none⟩ = some (.string (⟨#[]⟩ : ByteArray)) := (blk_cell BK113.out 2).trans rfl; have hcz96_3 : wc.cell? ⟨gb113, 3, none⟩ = some (.slice none 0 0) := (blk_cell BK113.out 3).trans rfl; have hfz96_0 := blk_frozen BK113.out 0; have hfz96_1 := blk_frozen BK113.out 1; have hfz96_2 := blk_frozen BK113.out 2; have hfz96_3 := blk_frozen BK113.out 3))
                              refine bodyPost_ret (results_ct rfl _ _ gb113 25 #[.int .i64 0, .int .i64 0, .string (⟨#[]⟩ : ByteArray), .slice none 0 0] (0, 0) _ rfl xB Try.underlying25 rfl (by kernel_rfl)) rfl ?_
                              exact ⟨_, xR, by first | exact Kd.R_nil _ _ _ _ _ | exact Kd.N_nil _ _ _ _ _ | exact Kd.V_nil _ _ _ _ _ | exact Kd.Q_nil _ _ _ _ _ | exact Kd.S_nil _ _ _ _ _, xHB⟩

end Go.Proofs.Ytebflncfgjnkkaa.X
