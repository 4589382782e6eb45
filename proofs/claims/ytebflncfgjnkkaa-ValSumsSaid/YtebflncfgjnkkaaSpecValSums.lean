/- ValSums, of all that its parameters' types allow. -/
import Derived.Test.YtebflncfgjnkkaaP2
import Derived.Test.YtebflncfgjnkkaaMa33
namespace Go.Proofs.Ytebflncfgjnkkaa.M
set_option linter.unusedSimpArgs false
set_option linter.unusedVariables false
open Go
theorem extsOk : ∀ (f : Nat) (y : List PV → Option PV), (fun _ => none : Nat → Option (List PV → Option PV)) f = some y → ExtOk Try.prog f y := fun f y h => by cases h
theorem specValSums : ∀ pvs, HasAll Try.prog [21, 21, 5] pvs → call (SPof Try.prog fun _ => none) 4 pvs [] = .ok (.v (.bool true)) [] := by
  intro pvs h
  obtain ⟨v0, r0, rfl, h0, h⟩ := h.cons_inv
  obtain ⟨v1, r1, rfl, h1, h⟩ := h.cons_inv
  obtain ⟨v2, r2, rfl, h2, h⟩ := h.cons_inv
  obtain rfl := h.nil_inv
  obtain ⟨a, rfl, wa⟩ := h0.int Try.underlying21
  obtain ⟨b, rfl, wb⟩ := h1.int Try.underlying21
  obtain ⟨n, rfl, wn⟩ := h2.int Try.underlying5
  have ra := range wa
  have rb := range wb
  have rn := range wn
  simp [IntKind.min, IntKind.max, IntKind.signed, IntKind.bits] at ra rb rn
  obtain ⟨k, rfl⟩ : ∃ k : Nat, n = k := ⟨n.toNat, by omega⟩
  exact ValSums_ok a b k (by omega) (by omega) (by omega) (by omega) (by omega) []
end Go.Proofs.Ytebflncfgjnkkaa.M
