/- Of vec: what its functions answer for a few amounts. -/
import Derived.Test.YtebflncfgjnkkaaDoorX4
import Derived.Test.YtebflncfgjnkkaaDoorX6
namespace Go.Proofs.YtebflncfgjnkkaaDoor.Pure
open Go.RowKit Go.Proofs.YtebflncfgjnkkaaDoor.X Go.Proofs.YtebflncfgjnkkaaDoorW.PrintWords Go.Proofs.YtebflncfgjnkkaaDoorW.PrintLast Go.Proofs.YtebflncfgjnkkaaDoorW.PrintMore
theorem u16_in {a : Int} (h : (Lit.int .u16 a).wf = true) : 0 ≤ a ∧ a ≤ 65535 := by
  simp [Lit.wf, IntKind.min, IntKind.max, IntKind.signed, IntKind.bits] at h
  omega
theorem w64 {a : Int} (h0 : -1000000 ≤ a) (h1 : a ≤ 1000000) : wrap64 a = a := by unfold wrap64; omega
theorem add0 (k : Nat) : vec_Add.f (k + 1) [] = some (0, 0, 0) := by
  simp [vec_Add.f, vec_by.f, vec_by.l0]
theorem text1 : vec_Text.f 1 0 0 = some ⟨#[99, 112, 117, 61, 49, 32, 109, 101, 109, 61, 48, 32, 112, 111, 100, 115, 61, 48]⟩ := by kernel_rfl
theorem awake_true (k : Nat) : doorkeeperlaw10_awake.f (k + 1) = some true := by
  simp [doorkeeperlaw10_awake.f, add0, vec_Most.f, text1]
theorem max3 (k : Nat) (x y z : S24) : vec_Max.f (k + 4) [x, y, z] = some (mx (mx (mx 0 x.f0) y.f0) z.f0, mx (mx (mx 0 x.f1) y.f1) z.f1, mx (mx (mx 0 x.f2) y.f2) z.f2) := by
  simp [vec_Max.f, vec_by.f, vec_by.l0, vec_Max_1.f, rd_T24, w64]
theorem mx0 {a : Int} (h : 0 ≤ a) : mx 0 a = a := by unfold mx; split <;> omega
end Go.Proofs.YtebflncfgjnkkaaDoor.Pure
