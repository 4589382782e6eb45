/- THE ABSTRACT MACHINE, thirty-sixth part: words for loops. -/
import Derived.Test.YtebflncfgjnkkaaMa4
namespace Go.Proofs.Ytebflncfgjnkkaa.M
set_option linter.unusedSimpArgs false
set_option linter.unusedVariables false
open Go Classical
/-- It leaves block id, so. -/
def IsExt (id : Nat) (Φ : (Nat → PV) → Sto → Prop) : EO → Prop
  | .ext i ac => i = id ∧ Φ ac.e ac.S
  | _ => False
theorem IsExt.elim {id : Nat} {Φ : (Nat → PV) → Sto → Prop} {r : EO} (h : IsExt id Φ r) : ∃ e S, r = .ext id ⟨e, S⟩ ∧ Φ e S := by
  cases r with
  | ext i ac => obtain ⟨rfl, h⟩ := h; exact ⟨ac.e, ac.S, rfl, h⟩
  | _ => exact False.elim h
theorem IsExt.mono {id : Nat} {Φ Ψ : (Nat → PV) → Sto → Prop} {r : EO} (h : IsExt id Φ r) (hi : ∀ e S, Φ e S → Ψ e S) : IsExt id Ψ r := by
  cases r with
  | ext i ac => exact ⟨h.1, hi _ _ h.2⟩
  | _ => exact False.elim h
theorem isExt_ext {id i : Nat} {Φ : (Nat → PV) → Sto → Prop} {ac : Ac} (h : i = id) (h2 : Φ ac.e ac.S) : IsExt id Φ (.ext i ac) := ⟨h, h2⟩
/-- It returns, so. -/
def IsRet (Φ : (Nat → PV) → Sto → Prop) : EO → Prop
  | .ret ac => Φ ac.e ac.S
  | _ => False
theorem IsRet.elim {Φ : (Nat → PV) → Sto → Prop} {r : EO} (h : IsRet Φ r) : ∃ e S, r = .ret ⟨e, S⟩ ∧ Φ e S := by
  cases r with
  | ret ac => exact ⟨ac.e, ac.S, rfl, h⟩
  | _ => exact False.elim h
/-- It runs through, so. -/
def IsNor (Φ : (Nat → PV) → Sto → Prop) : EO → Prop
  | .nor ac => Φ ac.e ac.S
  | _ => False
theorem IsNor.elim {Φ : (Nat → PV) → Sto → Prop} {r : EO} (h : IsNor Φ r) : ∃ e S, r = .nor ⟨e, S⟩ ∧ Φ e S := by
  cases r with
  | nor ac => exact ⟨ac.e, ac.S, rfl, h⟩
  | _ => exact False.elim h
theorem nat_nonneg (n : Nat) : (0 : Int) ≤ (n : Int) := Int.natCast_nonneg n
theorem wrap_i64 {x : Int} (h1 : -9223372036854775808 ≤ x) (h2 : x ≤ 9223372036854775807) : IntKind.i64.wrap x = x := by
  simp only [IntKind.wrap, IntKind.min, IntKind.max, IntKind.signed, IntKind.bits]
  simp
  omega
end Go.Proofs.Ytebflncfgjnkkaa.M
