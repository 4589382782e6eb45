/- THE ABSTRACT MACHINE, twenty-second part: an operation that makes, writes, or calls. -/
import Derived.Test.YtebflncfgjnkkaaMa21
namespace Go.Proofs.Ytebflncfgjnkkaa.M
set_option linter.unusedSimpArgs false
set_option linter.unusedVariables false
open Go
section
variable {g g' : Gh} {S S' : Sto} {w w' : World} {P : Program}
theorem inv_nilv {o : Oper} {z : Nat} (h : cOp P o = some (.nilv z)) : ∃ x, o.op = .assign x ∧ isNilSlice x = true := by
  obtain ⟨dst, op, ty, pos, after, guard⟩ := o
  cases op <;> simp only [cOp, reduceCtorEq, Option.map_eq_some_iff] at h
  case assign x =>
    refine ⟨x, rfl, ?_⟩
    split at h
    · assumption
    · rw [Option.map_eq_some_iff] at h
      obtain ⟨_, _, h⟩ := h
      cases h
  case call c =>
    unfold cCall at h
    repeat' split at h
    all_goals cases h
  all_goals first
    | (obtain ⟨_, _, h⟩ := h; cases h; done)
    | (repeat' split at h
       all_goals first | (cases h; done) | (rw [Option.map_eq_some_iff] at h; obtain ⟨_, _, h⟩ := h; cases h))
theorem inv_alloc {o : Oper} {z : List PV} (h : cOp P o = some (.alloc z)) : ∃ t, o.op = .alloc t ∧ cZ P t = some z := by
  obtain ⟨dst, op, ty, pos, after, guard⟩ := o
  cases op <;> simp only [cOp, reduceCtorEq, Option.map_eq_some_iff] at h
  case alloc t =>
    obtain ⟨z', h1, h2⟩ := h
    cases h2
    exact ⟨t, rfl, h1⟩
  case call c =>
    unfold cCall at h
    repeat' split at h
    all_goals cases h
  all_goals first
    | (obtain ⟨_, _, h⟩ := h; cases h; done)
    | (repeat' split at h
       all_goals first | (cases h; done) | (rw [Option.map_eq_some_iff] at h; obtain ⟨_, _, h⟩ := h; cases h))
theorem inv_box {o : Oper} {x : X} (h : cOp P o = some (.box x)) : ∃ t y, o.op = .box t y ∧ cX P 0 y = some x := by
  obtain ⟨dst, op, ty, pos, after, guard⟩ := o
  cases op <;> simp only [cOp, reduceCtorEq, Option.map_eq_some_iff] at h
  case box t y =>
    obtain ⟨z', h1, h2⟩ := h
    cases h2
    exact ⟨t, y, rfl, h1⟩
  case call c =>
    unfold cCall at h
    repeat' split at h
    all_goals cases h
  all_goals first
    | (obtain ⟨_, _, h⟩ := h; cases h; done)
    | (repeat' split at h
       all_goals first | (cases h; done) | (rw [Option.map_eq_some_iff] at h; obtain ⟨_, _, h⟩ := h; cases h))
theorem inv_bslice {o : Oper} {sz n : Nat} {z : List PV} {ps : List (Nat × X)} (h : cOp P o = some (.bslice sz n z ps)) : ∃ t e parts, o.op = .buildSlice t n parts ∧ P.underlying t = some (.slice e) ∧ sz = P.cellsOf e ∧ n * P.cellsOf e ≤ 2 ^ 24 ∧ P.cellsOf e ≠ 0 ∧ (n = 0 → parts.toList = []) ∧ cZ P e = some z ∧ cRows P e parts.toList = some ps := by
  obtain ⟨dst, op, ty, pos, after, guard⟩ := o
  cases op <;> simp only [cOp, reduceCtorEq, Option.map_eq_some_iff] at h
  case buildSlice t n' parts =>
    split at h
    · rename_i e ht
      split at h
      · rename_i hc
        split at h
        · rename_i z' ps' h1 h2
          cases h
          exact ⟨t, e, parts, rfl, ht, rfl, hc.1, hc.2.1, hc.2.2, h1, h2⟩
        · cases h
      · cases h
    · cases h
  case call c =>
    unfold cCall at h
    repeat' split at h
    all_goals cases h
  all_goals first
    | (obtain ⟨_, _, h⟩ := h; cases h; done)
    | (repeat' split at h
       all_goals first | (cases h; done) | (rw [Option.map_eq_some_iff] at h; obtain ⟨_, _, h⟩ := h; cases h))
theorem inv_store {o : Oper} {k : Nat} {x v : X} (h : cOp P o = some (.store k x v)) : ∃ t y u k', o.op = .store t y u ∧ kOf P t = some k' ∧ k = k'.getD 1 ∧ cX P 0 y = some x ∧ cX P t u = some v := by
  obtain ⟨dst, op, ty, pos, after, guard⟩ := o
  cases op <;> simp only [cOp, reduceCtorEq, Option.map_eq_some_iff] at h
  case store t y u =>
    split at h
    · rename_i k' x' v' h1 h2 h3
      cases h
      exact ⟨t, y, u, k', rfl, h1, rfl, h2, h3⟩
    · cases h
  case call c =>
    unfold cCall at h
    repeat' split at h
    all_goals cases h
  all_goals first
    | (obtain ⟨_, _, h⟩ := h; cases h; done)
    | (repeat' split at h
       all_goals first | (cases h; done) | (rw [Option.map_eq_some_iff] at h; obtain ⟨_, _, h⟩ := h; cases h))
theorem inv_panic {o : Oper} {x : X} (h : cOp P o = some (.panic x)) : ∃ y, o.op = .panic y ∧ cX P 0 y = some x := by
  obtain ⟨dst, op, ty, pos, after, guard⟩ := o
  cases op <;> simp only [cOp, reduceCtorEq, Option.map_eq_some_iff] at h
  case panic y =>
    obtain ⟨z', h1, h2⟩ := h
    cases h2
    exact ⟨y, rfl, h1⟩
  case call c =>
    unfold cCall at h
    repeat' split at h
    all_goals cases h
  all_goals first
    | (obtain ⟨_, _, h⟩ := h; cases h; done)
    | (repeat' split at h
       all_goals first | (cases h; done) | (rw [Option.map_eq_some_iff] at h; obtain ⟨_, _, h⟩ := h; cases h))
theorem inv_append {o : Oper} {sz bytes : Nat} {x y : X} (h : cOp P o = some (.append sz bytes x y)) : ∃ c a b t u e z, o.op = .call c ∧ c.callee = .builtin .append ∧ c.args = #[a, b] ∧ c.argTypes = #[t, u] ∧ P.underlying t = some (.slice e) ∧ ((∃ e', P.underlying u = some (.slice e')) ∨ P.underlying u = some .string) ∧ sz = P.cellsOf e ∧ bytes = P.bytesOf e ∧ cZ P e = some z ∧ cX P t a = some x ∧ cX P u b = some y := by
  obtain ⟨dst, op, ty, pos, after, guard⟩ := o
  cases op <;> simp only [cOp, reduceCtorEq, Option.map_eq_some_iff] at h
  case call c =>
    unfold cCall at h
    split at h
    · split at h <;> cases h
    · repeat' split at h
      all_goals cases h
    · rename_i hcal
      split at h
      · rename_i a b t u hargs htys
        have e1 : c.args = #[a, b] := by apply Array.ext'; simpa using hargs
        have e2 : c.argTypes = #[t, u] := by apply Array.ext'; simpa using htys
        split at h
        · rename_i e x' y' ht hu hx hy
          split at h
          · rename_i hc
            cases h
            obtain ⟨z, hz⟩ := Option.isSome_iff_exists.1 hc.2
            exact ⟨c, a, b, t, u, e, z, rfl, hcal, e1, e2, ht, .inr hu, rfl, rfl, hz, hx, hy⟩
          · cases h
        · rename_i e e' x' y' ht hu hx hy
          split at h
          · rename_i hc
            cases h
            obtain ⟨z, hz⟩ := Option.isSome_iff_exists.1 hc.2
            exact ⟨c, a, b, t, u, e, z, rfl, hcal, e1, e2, ht, .inl ⟨e', hu⟩, rfl, rfl, hz, hx, hy⟩
          · cases h
        · cases h
      · cases h
    · repeat' split at h
      all_goals cases h
    · repeat' split at h
      all_goals cases h
    · cases h
  all_goals first
    | (obtain ⟨_, _, h⟩ := h; cases h; done)
    | (repeat' split at h
       all_goals first | (cases h; done) | (rw [Option.map_eq_some_iff] at h; obtain ⟨_, _, h⟩ := h; cases h))
theorem inv_call {o : Oper} {f : X} {xs : List X} (h : cOp P o = some (.call f xs)) : ∃ c y, o.op = .call c ∧ c.callee = .value y ∧ cX P 0 y = some f ∧ cXs P c.args.toList c.argTypes.toList = some xs := by
  obtain ⟨dst, op, ty, pos, after, guard⟩ := o
  cases op <;> simp only [cOp, reduceCtorEq, Option.map_eq_some_iff] at h
  case call c =>
    unfold cCall at h
    split at h
    · rename_i y hcal
      split at h
      · rename_i f' xs' h1 h2
        cases h
        exact ⟨c, y, rfl, hcal, h1, h2⟩
      · cases h
    · repeat' split at h
      all_goals cases h
    · repeat' split at h
      all_goals cases h
    · repeat' split at h
      all_goals cases h
    · repeat' split at h
      all_goals cases h
    · cases h
  all_goals first
    | (obtain ⟨_, _, h⟩ := h; cases h; done)
    | (repeat' split at h
       all_goals first | (cases h; done) | (rw [Option.map_eq_some_iff] at h; obtain ⟨_, _, h⟩ := h; cases h))
end
end Go.Proofs.Ytebflncfgjnkkaa.M
