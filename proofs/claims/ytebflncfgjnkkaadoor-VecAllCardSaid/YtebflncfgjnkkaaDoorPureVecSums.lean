/- doorkeeperlaw10.VecSums: sums of amounts of sixteen bits each don't hang on the order, and what was added and taken away is as it was. -/
import Derived.Test.YtebflncfgjnkkaaDoorX5
namespace Go.Proofs.YtebflncfgjnkkaaDoor.Pure
open Go.RowKit Go.Proofs.YtebflncfgjnkkaaDoor.X Go.Proofs.YtebflncfgjnkkaaDoorW.PrintWords Go.Proofs.YtebflncfgjnkkaaDoorW.PrintLast

theorem u16_in {a : Int} (h : (Lit.int .u16 a).wf = true) : 0 ≤ a ∧ a ≤ 65535 := by
  simp [Lit.wf, IntKind.min, IntKind.max, IntKind.signed, IntKind.bits] at h
  omega
theorem w64 {a : Int} (h0 : -1000000 ≤ a) (h1 : a ≤ 1000000) : wrap64 a = a := by unfold wrap64; omega
theorem add0 (k : Nat) : vec_Add.f (k + 1) [] = some (0, 0, 0) := by
  simp [vec_Add.f, vec_by.f, vec_by.l0]
theorem add1 (k : Nat) (x : S24) : vec_Add.f (k + 2) [x] = some (wrap64 (0 + x.f0), wrap64 (0 + x.f1), wrap64 (0 + x.f2)) := by
  simp [vec_Add.f, vec_by.f, vec_by.l0, vec_Add_1.f, rd_T24, w64]
theorem add2 (k : Nat) (x y : S24) : vec_Add.f (k + 3) [x, y] = some (wrap64 (wrap64 (0 + x.f0) + y.f0), wrap64 (wrap64 (0 + x.f1) + y.f1), wrap64 (wrap64 (0 + x.f2) + y.f2)) := by
  simp [vec_Add.f, vec_by.f, vec_by.l0, vec_Add_1.f, rd_T24, w64]
theorem add3 (k : Nat) (x y z : S24) : vec_Add.f (k + 4) [x, y, z] = some (wrap64 (wrap64 (wrap64 (0 + x.f0) + y.f0) + z.f0), wrap64 (wrap64 (wrap64 (0 + x.f1) + y.f1) + z.f1), wrap64 (wrap64 (wrap64 (0 + x.f2) + y.f2) + z.f2)) := by
  simp [vec_Add.f, vec_by.f, vec_by.l0, vec_Add_1.f, rd_T24, w64]
theorem sub1 (k : Nat) (a b c d e f : Int) : vec_Sub.f (k + 2) a b c d e f = some (wrap64 (a - d), wrap64 (b - e), wrap64 (c - f)) := by
  simp [vec_Sub.f, vec_by.f, vec_by.l0, vec_Sub_1.f, rd_T24, w64]
theorem text1 : vec_Text.f 1 0 0 = some ⟨#[99, 112, 117, 61, 49, 32, 109, 101, 109, 61, 48, 32, 112, 111, 100, 115, 61, 48]⟩ := by kernel_rfl
theorem awake_true (k : Nat) : doorkeeperlaw10_awake.f (k + 1) = some true := by
  simp [doorkeeperlaw10_awake.f, add0, vec_Most.f, text1]
theorem VecSums : doorkeeperlaw10_VecSums.Pure := by
  intro a b c d e f ha hb hc hd he hf
  obtain ⟨a0, a1⟩ := u16_in ha
  obtain ⟨b0, b1⟩ := u16_in hb
  obtain ⟨c0, c1⟩ := u16_in hc
  obtain ⟨d0, d1⟩ := u16_in hd
  obtain ⟨e0, e1⟩ := u16_in he
  obtain ⟨f0, f1⟩ := u16_in hf
  refine ⟨4, ?_⟩
  have ea : wrap64 a = a := w64 (by omega) (by omega)
  have eb : wrap64 b = b := w64 (by omega) (by omega)
  have ec : wrap64 c = c := w64 (by omega) (by omega)
  have ed : wrap64 d = d := w64 (by omega) (by omega)
  have ee : wrap64 e = e := w64 (by omega) (by omega)
  have ef : wrap64 f = f := w64 (by omega) (by omega)
  have ad : wrap64 (a + d) = a + d := w64 (by omega) (by omega)
  have be : wrap64 (b + e) = b + e := w64 (by omega) (by omega)
  have cf : wrap64 (c + f) = c + f := w64 (by omega) (by omega)
  have da : wrap64 (d + a) = a + d := by rw [w64 (by omega) (by omega)]; omega
  have eb' : wrap64 (e + b) = b + e := by rw [w64 (by omega) (by omega)]; omega
  have fc : wrap64 (f + c) = c + f := by rw [w64 (by omega) (by omega)]; omega
  have sa : a + d - d = a := by omega
  have sb : b + e - e = b := by omega
  have sc : c + f - f = c := by omega
  have la : a ≤ a + d := by omega
  have lb : b ≤ b + e := by omega
  have lc : c ≤ c + f := by omega
  have h0 := awake_true 3
  simp only [doorkeeperlaw10_VecSums.f, doorkeeperlaw10_Make.f, Option.bind_some, add1 2, add2 1, add3 0, sub1 2, ea, eb, ec, ed, ee, ef, Int.zero_add, ad, be, cf, da, eb', fc, sa, sb, sc, vec_Le.f, la, lb, lc, h0, if_true, beq_self_eq_true, Bool.and_self, decide_true]
end Go.Proofs.YtebflncfgjnkkaaDoor.Pure
