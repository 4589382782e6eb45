/- THE ABSTRACT MACHINE, thirty-third part: what a parameter's type allows, taken apart. -/
import Derived.Test.YtebflncfgjnkkaaMa32
namespace Go.Proofs.Ytebflncfgjnkkaa.M
set_option linter.unusedSimpArgs false
set_option linter.unusedVariables false
open Go
section
variable {P : Program}
theorem HasAll.cons_inv {t : TypeId} {ts : List TypeId} {pvs : List PV} (h : HasAll P (t :: ts) pvs) : ∃ v vs, pvs = v :: vs ∧ HasV P t v ∧ HasAll P ts vs := by
  cases pvs with
  | nil => exact h.elim
  | cons v vs => exact ⟨v, vs, rfl, h⟩
theorem HasAll.nil_inv {pvs : List PV} (h : HasAll P [] pvs) : pvs = [] := by
  cases pvs with
  | nil => rfl
  | cons v vs => exact h.elim
theorem Has.int {n : Nat} {t : TypeId} {k : IntKind} {vs : List PV} (h : Has P n t vs) (ht : P.underlying t = some (.int k)) : ∃ x, vs = [.int k x] ∧ (Lit.int k x).wf = true := by
  cases n with
  | zero => exact h.elim
  | succ n => simp only [Has, ht] at h; exact h
theorem Has.bool {n : Nat} {t : TypeId} {vs : List PV} (h : Has P n t vs) (ht : P.underlying t = some .bool) : ∃ x, vs = [.bool x] := by
  cases n with
  | zero => exact h.elim
  | succ n => simp only [Has, ht] at h; exact h
theorem Has.str {n : Nat} {t : TypeId} {vs : List PV} (h : Has P n t vs) (ht : P.underlying t = some .string) : ∃ x, vs = [.str x] ∧ x.length ≤ maxLen := by
  cases n with
  | zero => exact h.elim
  | succ n => simp only [Has, ht] at h; exact h
theorem Has.slice {n : Nat} {t e : TypeId} {vs : List PV} (h : Has P (n + 1) t vs) (ht : P.underlying t = some (.slice e)) : ∃ rows, vs = [.list (P.cellsOf e) rows false] ∧ rows.length ≤ maxLen ∧ ∀ r ∈ rows, Has P n e r := by
  simp only [Has, ht] at h
  exact h
theorem Has.struct {n : Nat} {t : TypeId} {fs : Array Field} {vs : List PV} (h : Has P (n + 1) t vs) (ht : P.underlying t = some (.struct fs)) : HasFs (Has P n) fs.toList vs := by
  simp only [Has, ht] at h
  exact h
theorem HasV.int {t : TypeId} {k : IntKind} {v : PV} (h : HasV P t v) (ht : P.underlying t = some (.int k)) : ∃ x, v = .int k x ∧ (Lit.int k x).wf = true := by
  unfold HasV at h
  rw [ht] at h
  obtain ⟨n, h⟩ := h
  obtain ⟨x, h1, h2⟩ := h.int ht
  simp at h1
  exact ⟨x, h1, h2⟩
theorem HasV.bool {t : TypeId} {v : PV} (h : HasV P t v) (ht : P.underlying t = some .bool) : ∃ x, v = .bool x := by
  unfold HasV at h
  rw [ht] at h
  obtain ⟨n, h⟩ := h
  obtain ⟨x, h1⟩ := h.bool ht
  simp at h1
  exact ⟨x, h1⟩
theorem HasV.str {t : TypeId} {v : PV} (h : HasV P t v) (ht : P.underlying t = some .string) : ∃ x, v = .str x ∧ x.length ≤ maxLen := by
  unfold HasV at h
  rw [ht] at h
  obtain ⟨n, h⟩ := h
  obtain ⟨x, h1, h2⟩ := h.str ht
  simp at h1
  exact ⟨x, h1, h2⟩
theorem HasV.slice {t e : TypeId} {v : PV} (h : HasV P t v) (ht : P.underlying t = some (.slice e)) : ∃ rows n, v = .list (P.cellsOf e) rows false ∧ rows.length ≤ maxLen ∧ ∀ r ∈ rows, Has P n e r := by
  unfold HasV at h
  rw [ht] at h
  obtain ⟨n, h⟩ := h
  cases n with
  | zero => exact h.elim
  | succ n =>
    obtain ⟨x, h1, h2, h3⟩ := h.slice ht
    simp at h1
    exact ⟨x, n, h1, h2, h3⟩
theorem HasV.struct {t : TypeId} {fs : Array Field} {v : PV} (h : HasV P t v) (ht : P.underlying t = some (.struct fs)) : ∃ vs n, v = .agg vs ∧ Has P (n + 1) t vs := by
  unfold HasV at h
  rw [ht] at h
  obtain ⟨vs, n, h1, h2⟩ := h
  cases n with
  | zero => exact h2.elim
  | succ n => exact ⟨vs, n, h1, h2⟩
/-- Rows of whole numbers. -/
theorem ints_of {n : Nat} {e : TypeId} {k : IntKind} (he : P.underlying e = some (.int k)) : ∀ (rows : List (List PV)), (∀ r ∈ rows, Has P n e r) → ∃ xs : List Int, rows = xs.map (fun x => [.int k x]) ∧ ∀ x ∈ xs, (Lit.int k x).wf = true
  | [], _ => ⟨[], rfl, fun x h => by cases h⟩
  | r :: rows, h => by
    obtain ⟨x, rfl, hx⟩ := (h r (by simp)).int he
    obtain ⟨xs, rfl, hxs⟩ := ints_of he rows fun r hr => h r (by simp [hr])
    exact ⟨x :: xs, rfl, fun y hy => (List.mem_cons.1 hy).elim (fun e => e ▸ hx) (hxs y)⟩
/-- Rows of texts. -/
theorem strs_of {n : Nat} {e : TypeId} (he : P.underlying e = some .string) : ∀ (rows : List (List PV)), (∀ r ∈ rows, Has P n e r) → ∃ xs : List (List UInt8), rows = xs.map (fun x => [.str x]) ∧ ∀ x ∈ xs, x.length ≤ maxLen
  | [], _ => ⟨[], rfl, fun x h => by cases h⟩
  | r :: rows, h => by
    obtain ⟨x, rfl, hx⟩ := (h r (by simp)).str he
    obtain ⟨xs, rfl, hxs⟩ := strs_of he rows fun r hr => h r (by simp [hr])
    exact ⟨x :: xs, rfl, fun y hy => (List.mem_cons.1 hy).elim (fun e => e ▸ hx) (hxs y)⟩
theorem range {k : IntKind} {x : Int} (h : (Lit.int k x).wf = true) : k.min ≤ x ∧ x ≤ k.max := by
  simp only [Lit.wf, Bool.and_eq_true, decide_eq_true_eq] at h
  exact h
end
end Go.Proofs.Ytebflncfgjnkkaa.M
