/- What val.Two and its kin make of numbers and texts, as the printed functions tell it: plain equations, no program in sight. -/
import Derived.Test.YtebflncfgjnkkaaX4
import Derived.Test.YtebflncfgjnkkaaX5
namespace Go.Proofs.Ytebflncfgjnkkaa.X
open Go.RowKit Go.Proofs.YtebflncfgjnkkaaW.PrintWords Go.Proofs.YtebflncfgjnkkaaW.PrintLast Go.Proofs.YtebflncfgjnkkaaW.PrintMore
set_option linter.unusedSimpArgs false

/-- A value. -/
abbrev SV := S25
/-- The empty text. -/
abbrev eB : ByteArray := ⟨#[]⟩

theorem same_nil (P : PP_slices_EqualFunc_api_Val) (k : Nat) : slices_EqualFunc_api_Val.f (PP := P) (k + 2) [] [] = some true := by
  simp [slices_EqualFunc_api_Val.f, slices_EqualFunc_api_Val.l0]

theorem two_lt (k : Nat) (a b : Int) (s t : ByteArray) : val_Two.f (k + 6) 15 1 a s [] 1 b t [] = some (3, if a < b then 1 else 0, eB, [], 0) := by
  by_cases h : a < b <;> simp [val_Two.f, val_Two.j0, val_Two.j1, val_Two.j2, val_Two.j3, val_compare.f, val_Bool.f, h]
theorem two_le (k : Nat) (a b : Int) (s t : ByteArray) : val_Two.f (k + 6) 16 1 a s [] 1 b t [] = some (3, if a ≤ b then 1 else 0, eB, [], 0) := by
  by_cases h : a ≤ b <;> simp [val_Two.f, val_Two.j0, val_Two.j1, val_Two.j2, val_Two.j3, val_compare.f, val_Bool.f, h]
theorem two_gt (k : Nat) (a b : Int) (s t : ByteArray) : val_Two.f (k + 6) 17 1 a s [] 1 b t [] = some (3, if b < a then 1 else 0, eB, [], 0) := by
  by_cases h : b < a <;> simp [val_Two.f, val_Two.j0, val_Two.j1, val_Two.j2, val_Two.j3, val_compare.f, val_Bool.f, h]
theorem two_ge (k : Nat) (a b : Int) (s t : ByteArray) : val_Two.f (k + 6) 18 1 a s [] 1 b t [] = some (3, if b ≤ a then 1 else 0, eB, [], 0) := by
  by_cases h : b ≤ a <;> simp [val_Two.f, val_Two.j0, val_Two.j1, val_Two.j2, val_Two.j3, val_compare.f, val_Bool.f, h]
theorem same_flat (k : Nat) (kd a b : Int) (s t : ByteArray) : val_Same.f (k + 3) kd a s [] kd b t [] = some (a == b && s.toList == t.toList) := by
  by_cases h : a = b <;> by_cases h2 : s.toList = t.toList <;> simp [val_Same.f, same_nil, h, h2]
theorem two_eq (k : Nat) (kd a b : Int) (s t : ByteArray) : val_Two.f (k + 6) 13 kd a s [] kd b t [] = some (3, if a = b ∧ s.toList = t.toList then 1 else 0, eB, [], 0) := by
  by_cases h : a = b ∧ s.toList = t.toList
  · obtain ⟨h, h2⟩ := h
    simp [val_Two.f, val_Two.j0, val_Two.j1, val_Two.j2, val_Two.j3, same_flat, val_Bool.f, h, h2]
  · have h3 : ¬ (a = b ∧ s.toList = t.toList) := h
    simp only [not_and] at h
    by_cases h2 : a = b
    · have := h h2
      simp [val_Two.f, val_Two.j0, val_Two.j1, val_Two.j2, val_Two.j3, same_flat, val_Bool.f, h2, this]
    · simp [val_Two.f, val_Two.j0, val_Two.j1, val_Two.j2, val_Two.j3, same_flat, val_Bool.f, h2]
theorem two_ne (k : Nat) (kd a b : Int) (s t : ByteArray) : val_Two.f (k + 6) 14 kd a s [] kd b t [] = some (3, if a = b ∧ s.toList = t.toList then 0 else 1, eB, [], 0) := by
  by_cases h : a = b
  · by_cases h2 : s.toList = t.toList <;> simp [val_Two.f, val_Two.j0, val_Two.j1, val_Two.j2, val_Two.j3, same_flat, val_Bool.f, h, h2]
  · simp [val_Two.f, val_Two.j0, val_Two.j1, val_Two.j2, val_Two.j3, same_flat, val_Bool.f, h]
/-- Of two kinds, or of two that are no numbers, nothing is told. -/
theorem two_type (k : Nat) (op ka a kb b : Int) (s t : ByteArray) (h1 : 13 ≤ op) (h2 : op ≤ 23) (h : ka ≠ kb ∨ 15 ≤ op ∧ ka ≠ 1) : val_Two.f (k + 6) op ka a s [] kb b t [] = some (0, 0, eB, [], 7) := by
  have e1 : ¬ op < 11 := by omega
  have e2 : ¬ op > 23 := by omega
  have e3 : ¬ op ≤ 12 := by omega
  rcases h with h | ⟨h, hk⟩
  · by_cases o1 : op = 13 <;> by_cases o2 : op = 14 <;> by_cases o3 : op ≤ 14 <;> simp [val_Two.f, val_Two.j0, val_Two.j1, val_Two.j2, val_Two.j3, e1, e2, e3, h, o1, o2, o3]
  · have o1 : ¬ op = 13 := by omega
    have o2 : ¬ op = 14 := by omega
    have o3 : ¬ op ≤ 14 := by omega
    by_cases hq : ka = kb
    · subst hq
      simp [val_Two.f, val_Two.j0, val_Two.j1, val_Two.j2, val_Two.j3, e1, e2, e3, hk, o1, o2, o3]
    · simp [val_Two.f, val_Two.j0, val_Two.j1, val_Two.j2, val_Two.j3, e1, e2, e3, hq, o1, o2, o3]
theorem awake_true (k : Nat) : doorkeeperlaw4_awake.f (k + 6) = some true := by
  simp [doorkeeperlaw4_awake.f, doorkeeperlaw1_Num.f, val_Two.f, val_Two.j0, val_Two.j1, val_Two.j2, val_Two.j3, val_reckon.f, val_Int.f, wrap64]
end Go.Proofs.Ytebflncfgjnkkaa.X
