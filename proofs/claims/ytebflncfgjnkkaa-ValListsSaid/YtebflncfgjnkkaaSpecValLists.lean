/- ValLists, of all that its parameters' types allow. -/
import Derived.Test.YtebflncfgjnkkaaP9
import Derived.Test.YtebflncfgjnkkaaExts
namespace Go.Proofs.Ytebflncfgjnkkaa.M
set_option linter.unusedSimpArgs false
set_option linter.unusedVariables false
open Go
theorem cells35 : Try.prog.cellsOf 35 = 1 := by kernel_rfl
theorem specValLists : ∀ pvs, HasAll Try.prog [34, 3, 5] pvs → call (SPof Try.prog exts) 5 pvs [] = .ok (.v (.bool true)) [] := by
  intro pvs h
  obtain ⟨v0, r0, rfl, h0, h⟩ := h.cons_inv
  obtain ⟨v1, r1, rfl, h1, h⟩ := h.cons_inv
  obtain ⟨v2, r2, rfl, h2, h⟩ := h.cons_inv
  obtain rfl := h.nil_inv
  obtain ⟨rows, m, rfl, hl, hr⟩ := h0.slice Try.underlying34
  obtain ⟨xs, rfl, hx⟩ := ints_of Try.underlying35 rows hr
  obtain ⟨b, rfl, wb⟩ := h1.int Try.underlying3
  obtain ⟨n, rfl, wn⟩ := h2.int Try.underlying5
  have rn := range wn
  simp [IntKind.min, IntKind.max, IntKind.signed, IntKind.bits] at rn
  obtain ⟨k, rfl⟩ : ∃ k : Nat, n = k := ⟨n.toNat, by omega⟩
  rw [cells35]
  refine ValLists_ok xs b k (fun x hxx => ?_) (by omega) []
  have r := range (hx x hxx)
  simp [IntKind.min, IntKind.max, IntKind.signed, IntKind.bits] at r
  exact r
end Go.Proofs.Ytebflncfgjnkkaa.M
