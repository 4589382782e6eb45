/- doorkeeperlaw4.ValOrder returns true for every two numbers and every two texts: of two numbers just one is below, or they are alike; no condition. -/
import Derived.Test.YtebflncfgjnkkaaX5
import Derived.Test.YtebflncfgjnkkaaXVa
namespace Go.Proofs.Ytebflncfgjnkkaa.Pure
open Go.RowKit Go.Proofs.Ytebflncfgjnkkaa.X Go.Proofs.YtebflncfgjnkkaaW.PrintWords Go.Proofs.YtebflncfgjnkkaaW.PrintLast

theorem order_main (k : Nat) (a b : Int) (s t : ByteArray) : doorkeeperlaw4_ValOrder.j0 (k + 7) a b s t false = some true := by
  simp only [doorkeeperlaw4_ValOrder.j0, doorkeeperlaw4_num.f, Option.bind_some, two_lt, two_gt, two_eq, two_le, two_ge, two_ne, awake_true, doorkeeperlaw1_Num.f,
    two_type k 15 2 0 2 0 s t (by omega) (by omega) (.inr ⟨by omega, by omega⟩), two_type k 13 1 a 2 0 (⟨#[]⟩ : ByteArray) t (by omega) (by omega) (.inl (by omega))]
  rcases Int.lt_trichotomy a b with h | h | h
  · have h1 : ¬ b < a := by omega
    have h2 : ¬ a = b := by omega
    have h3 : a ≤ b := by omega
    have h4 : ¬ b ≤ a := by omega
    by_cases he : s.toList = t.toList <;> simp [h, h1, h2, h3, h4, he, wrap64]
  · subst h
    by_cases he : s.toList = t.toList <;> simp [he, wrap64]
  · have h1 : ¬ a < b := by omega
    have h2 : ¬ a = b := by omega
    have h3 : b ≤ a := by omega
    have h4 : ¬ a ≤ b := by omega
    by_cases he : s.toList = t.toList <;> simp [h, h1, h2, h3, h4, he, wrap64]
theorem order_awake (k : Nat) (a b : Int) (s t : ByteArray) : doorkeeperlaw4_ValOrder.j0 (k + 7) a b s t true = some true := by
  simp [doorkeeperlaw4_ValOrder.j0, awake_true]
theorem ValOrder : doorkeeperlaw4_ValOrder.Pure := by
  intro a b s t _ _ _ _
  refine ⟨7, ?_⟩
  have h : ∀ q, doorkeeperlaw4_ValOrder.j0 7 a b s t q = some true := fun q => by
    cases q
    · exact order_main 0 a b s t
    · exact order_awake 0 a b s t
  unfold doorkeeperlaw4_ValOrder.f
  split
  · exact h _
  · exact h _
end Go.Proofs.Ytebflncfgjnkkaa.Pure
