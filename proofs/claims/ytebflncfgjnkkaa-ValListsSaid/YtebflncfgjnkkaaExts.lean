/- What is told of Go's library by contracts: it holds. -/
import Derived.Test.YtebflncfgjnkkaaP1
namespace Go.Proofs.Ytebflncfgjnkkaa.M
set_option linter.unusedSimpArgs false
set_option linter.unusedVariables false
open Go
theorem comp27' : comp Try.prog Try.f27 = some ⟨1, 8, cloneC 4 56 [.int .i64 0, .int .i64 0, .str [], .nils 4], [.t 2]⟩ := comp27
theorem extsOk : ∀ (f : Nat) (y : List PV → Option PV), exts f = some y → ExtOk Try.prog f y := fun f y h => by
  unfold exts at h
  split at h
  · rename_i e
    subst e
    obtain rfl := Option.some.inj h
    exact clone_ext (by kernel_rfl) Try.func27 comp27' (by decide)
  · cases h
end Go.Proofs.Ytebflncfgjnkkaa.M
