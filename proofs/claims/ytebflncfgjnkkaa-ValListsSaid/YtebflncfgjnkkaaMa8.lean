/- THE ABSTRACT MACHINE, eighth part: the operations that only yield a value, one by one. -/
import Derived.Test.YtebflncfgjnkkaaMa7
namespace Go.Proofs.Ytebflncfgjnkkaa.M
set_option linter.unusedSimpArgs false
set_option linter.unusedVariables false
open Go
section
variable {g : Gh} {S : Sto} {w : World} {P : Program}
theorem toList_mk (l : List UInt8) : (⟨l.toArray⟩ : ByteArray).toList = l := by rw [ByteArray.toList_eq]
theorem size_mk (l : List UInt8) : (⟨l.toArray⟩ : ByteArray).size = l.length := by show l.toArray.size = _; simp
theorem append_mk (a b : List UInt8) : (⟨a.toArray⟩ ++ ⟨b.toArray⟩ : ByteArray) = ⟨(a ++ b).toArray⟩ := by
  apply ByteArray.ext
  simp
theorem beq_dec {α : Type} [BEq α] [LawfulBEq α] [DecidableEq α] (a b : α) : (a == b) = decide (a = b) := by
  by_cases h : a = b <;> simp [h]
theorem bne_dec {α : Type} [BEq α] [LawfulBEq α] [DecidableEq α] (a b : α) : (a != b) = decide (a ≠ b) := by
  by_cases h : a = b <;> simp [h]
/-- Operators of two values. -/
theorem bin_ok {op : BinOp} {t : TypeId} {x y : Operand} {p q v : PV} {a b : Value} (ha : VR g p a) (hb : VR g q b) (h : binP op p q = some v) :
    ∃ c, (do eqGuard op t x y a b; binOp op t a b : Sem Value).run P w = .ok c w ∧ VR g v c := by
  unfold binP at h
  split at h
  · rename_i k m k' n
    obtain rfl := ha.int_inv
    obtain rfl := hb.int_inv
    rw [eqGuard_at_int]
    have key : ∀ op, k = k' → binInt op k m n = some v → ∃ c, (binOp op t (.int k m) (.int k' n)).run P w = .ok c w ∧ VR g v c := by
      intro op hk h
      subst hk
      cases op <;> simp only [binInt, reduceCtorEq] at h <;> first
        | (split at h
           · cases h
           · rename_i hz
             obtain rfl := Option.some.inj h
             refine ⟨_, ?_, .data _ _ (.int _ _)⟩
             simp [binOp, Op.intDiv, hz])
        | (obtain rfl := Option.some.inj h
           refine ⟨_, ?_, .data _ _ (.int _ _)⟩
           simp [binOp, Op.intArith]
           done)
        | (obtain rfl := Option.some.inj h
           refine ⟨_, ?_, .data _ _ (.bool _)⟩
           simp [binOp, Op.intCmp, beq_dec, bne_dec])
    cases op <;> dsimp only at h <;> first
      | (cases h; done)
      | (split at h
         · rename_i hk
           first
           | exact key _ hk h
           | (obtain rfl := Option.some.inj h
              refine ⟨_, ?_, .data _ _ (.int _ _)⟩
              have : binOp .shr t (.int k m) (.int k' n) = Op.shift .shr k m k' n := by simp [binOp]
              simp [this, shift_shr_any k k' m n hk])
         · cases h)
  · rename_i s u
    obtain rfl := ha.str_inv
    obtain rfl := hb.str_inv
    rw [eqGuard_at_string]
    cases op <;> simp only [binStr] at h <;> first
      | (cases h; done)
      | (split at h
         · rename_i hle
           obtain rfl := Option.some.inj h
           refine ⟨_, ?_, .data _ _ (.str _)⟩
           have h1 : ¬ (IntKind.i64.max < (s.length : Int) + (u.length : Int)) := by
             simp only [maxInt] at hle
             have : IntKind.i64.max = 9223372036854775807 := by decide
             omega
           simp only [pure_bind, binOp, Op.stringOp, size_mk, append_mk]
           rw [if_neg (by push_cast; exact h1)]
           rfl
         · cases h)
      | (obtain rfl := Option.some.inj h
         refine ⟨_, ?_, .data _ _ (.bool _)⟩
         simp [binOp, Op.stringOp, toList_mk, beq_dec, bytesLess])
  · cases h
theorem binb_ok {neg : Bool} {t : TypeId} (ht : P.underlying t = some .bool) {x y : Operand} {p q v : PV} {a b : Value} (ha : VR g p a) (hb : VR g q b) (h : binB neg p q = some v) :
    ∃ c, (do eqGuard (if neg then .neq else .eql) t x y a b; binOp (if neg then .neq else .eql) t a b : Sem Value).run P w = .ok c w ∧ VR g v c := by
  unfold binB at h
  split at h
  · rename_i s u
    obtain rfl := ha.bool_inv
    obtain rfl := hb.bool_inv
    rw [eqGuard_at_bool]
    simp only [Option.some.injEq] at h
    subst h
    refine ⟨_, ?_, .data _ _ (.bool _)⟩
    cases neg
    · simp [run_eql_bool w t s u ht, beq_dec]
    · have : (!(s == u)) = decide (s ≠ u) := by cases s <;> cases u <;> rfl
      simp [run_neq_bool w t s u ht, this]
  · cases h
theorem un_ok {op : UnOp} {p v : PV} {a : Value} (ha : VR g p a) (h : unP op p = some v) : ∃ c, (Op.unary op a).run P w = .ok c w ∧ VR g v c := by
  unfold unP at h
  split at h
  · obtain rfl := ha.int_inv
    simp only [Option.some.injEq] at h; subst h
    exact ⟨_, by simp only [Op.unary, Op.intArith]; rfl, .data _ _ (.int _ _)⟩
  · obtain rfl := ha.bool_inv
    simp only [Option.some.injEq] at h; subst h
    exact ⟨_, by simp only [Op.unary]; rfl, .data _ _ (.bool _)⟩
  · cases h
end
end Go.Proofs.Ytebflncfgjnkkaa.M
