/- THE ABSTRACT MACHINE, sixteenth part: rows that grow; cells that are written. -/
import Derived.Test.YtebflncfgjnkkaaMa15
namespace Go.Proofs.Ytebflncfgjnkkaa.M
set_option linter.unusedSimpArgs false
set_option linter.unusedVariables false
open Go
section
variable {g g' : Gh} {S S' : Sto} {w w' : World} {P : Program}
theorem WR.fz_new (hw : WR g S w) (o : Nat) : g.fz w.heap.size o = none := by
  cases h : g.fz w.heap.size o with
  | none => rfl
  | some v => exact absurd (cell_lt (hw.fz _ _ _ h)) (Nat.lt_irrefl _)
/-- A row in a block of its own that is new. -/
theorem growRow (hw : WR g S w) {n : Nat} {k : AK} {A : Arr} {cap : Nat} {cells : Array Value} (e : TypeId) (hsz : cells.size = cap * A.sz) (heach : ∀ r ∈ A.rows, r.length = A.sz) (hcap : A.rows.length ≤ cap) {cs : Nat → Nat → Value}
    (hcs : ∀ i j row v, A.rows[i]? = some row → row[j]? = some v → cells[i * A.sz + j]? = some (cs i j) ∧ FR g.fz v (cs i j)) (hn : n < S.length)
    (hle : ∀ ai0, g.a n k = some ai0 → AIle ai0 ⟨some ⟨w.heap.size, 0, none⟩, cap, A.sz, A.rows.length, A.gen, some w.heap.size⟩) (hnm : ∀ t i, k = .cell t i → ¬ Bare g n t) :
    ∃ g', WR g' (setArr S n k A) (w.drew.alloc (.cells cells e)) ∧ Ext g g' ∧ Tr g w g' (w.drew.alloc (.cells cells e)) ∧ g'.a n k = some ⟨some ⟨w.heap.size, 0, none⟩, cap, A.sz, A.rows.length, A.gen, some w.heap.size⟩ := by
  let ai : AI := ⟨some ⟨w.heap.size, 0, none⟩, cap, A.sz, A.rows.length, A.gen, some w.heap.size⟩
  let w' := w.drew.alloc (.cells cells e)
  have hw1 : WR g S w' := hw.drew.alloc _
  have hnew : w'.heap[w.heap.size]? = some (.cells cells e) := alloc_new w.drew _
  have hcell : ∀ o, w'.cell? ⟨w.heap.size, o, none⟩ = cells[o]? := by
    intro o
    simp [World.cell?, hnew]
  let φ : Fz := frzFz g.fz w' w.heap.size 0 (if A.frz = true then A.rows.length * A.sz else 0)
  have hφ : ∀ b o, b ≠ w.heap.size → φ b o = g.fz b o := by
    intro b o hb
    simp only [φ, frzFz]
    rw [if_neg (fun h => hb h.1)]
  have hsub := frzFz_sub (w := w') (b0 := w.heap.size) (lo := 0) (hi := if A.frz = true then A.rows.length * A.sz else 0) hw1.fz
  have hrel : ArrRel ⟨g.b, g.a, φ⟩ w' A ai := by
    refine ⟨rfl, rfl, rfl, heach, hcap, fun _ => ⟨_, rfl, rfl⟩, ⟨cs, fun i j row v hi hj => (hcs i j row v hi hj).2.mono hsub, fun ad i j row v had hi hj => ?_⟩, ?_, fun h => by cases h⟩
    · obtain rfl := Option.some.inj had
      have h1 := (hcs i j row v hi hj).1
      simp only [Nat.zero_add]
      refine ⟨(hcell _).trans h1, fun hf => ?_⟩
      have := cell_pos (List.getElem?_eq_some_iff.1 hi).1 (show j < A.sz by rw [← heach row (List.mem_of_getElem? hi)]; exact (List.getElem?_eq_some_iff.1 hj).1)
      simp only [φ, frzFz, hf, if_true]
      rw [if_pos ⟨trivial, by omega, this⟩]
      exact (hcell _).trans h1
    · intro b hb
      obtain rfl := Option.some.inj hb
      refine ⟨rfl, ⟨cells, e, hnew, hsz⟩, fun o ho => ?_, fun hf o => ?_⟩
      · simp only [φ, frzFz, ai] at ho ⊢
        rw [if_neg]
        · exact hw.fz_new o
        · rintro ⟨_, _, h⟩
          split at h <;> omega
      · simp only [φ, frzFz, hf, Bool.false_eq_true, if_false]
        rw [if_neg (by omega)]
        exact hw.fz_new o
  obtain ⟨h1, h2⟩ := hw.put (w' := w') (S' := setArr S n k A) (n := n) (k := k) (φ := φ) (frzFz_holds hw1.fz) hsub (fun x b _ hb => by
    have hlt := hw.own_lt hb
    exact ⟨alloc_heap w.drew _ hlt, fun o => hφ b o (by omega)⟩) hrel (fun b hb x _ hx => by
      obtain rfl := Option.some.inj hb
      exact absurd (hw.own_lt hx) (Nat.lt_irrefl _)) hle hnm (by rw [getArr_set, if_pos ⟨rfl, rfl, hn⟩]) (fun m t b _ => getBox_setArr _ _ _ _ _ _) (fun m j _ hne _ => by rw [getArr_set, if_neg (fun e => hne ⟨e.1, e.2.1⟩)])
  exact ⟨_, h1, h2, tr_put h2 rfl rfl rfl (by show w.heap.size ≤ (w.drew.alloc _).heap.size; rw [alloc_size]; exact Nat.le_succ _) (fun j hj _ => alloc_heap w.drew _ hj) (fun b hb => .inr (by obtain rfl := Option.some.inj hb; exact Nat.le_refl _)), by simp [Gh.put, ai]⟩
/-- A row that is as it was, frozen: under a name of its own. -/
theorem aliasRow (hw : WR g S w) {n : Nat} {k : AK} {A : Arr} {a : Option Addr} {cap : Nat} (hcap : cap = A.rows.length) (heach : ∀ r ∈ A.rows, r.length = A.sz) (haddr : A.rows ≠ [] → ∃ ad, a = some ad ∧ ad.spot = none) {cs : Nat → Nat → Value}
    (hcs : ∀ ad i j row v, a = some ad → A.rows[i]? = some row → row[j]? = some v → g.fz ad.block (ad.off + (i * A.sz + j)) = some (cs i j)) (hfr : ∀ i j row v, A.rows[i]? = some row → row[j]? = some v → FR g.fz v (cs i j)) (hf : A.frz = true ∨ A.rows = []) (hn : n < S.length)
    (hle : ∀ ai0, g.a n k = some ai0 → AIle ai0 ⟨a, cap, A.sz, A.rows.length, A.gen, none⟩) (hnm : ∀ t i, k = .cell t i → ¬ Bare g n t) :
    ∃ g', WR g' (setArr S n k A) w ∧ Ext g g' ∧ Tr g w g' w ∧ g'.a n k = some ⟨a, cap, A.sz, A.rows.length, A.gen, none⟩ := by
  subst hcap
  let ai : AI := ⟨a, A.rows.length, A.sz, A.rows.length, A.gen, none⟩
  have hrel : ArrRel ⟨g.b, g.a, g.fz⟩ w A ai := by
    refine ⟨rfl, rfl, rfl, heach, Nat.le_refl _, haddr, ⟨cs, hfr, fun ad i j row v had hi hj => ?_⟩, (fun b hb => by cases hb), fun _ => ⟨rfl, hf⟩⟩
    have := hcs ad i j row v had hi hj
    exact ⟨hw.fz _ _ _ this, fun _ => this⟩
  obtain ⟨h1, h2⟩ := hw.put (w' := w) (S' := setArr S n k A) (n := n) (k := k) (φ := g.fz) hw.fz (fun _ _ _ h => h) (fun x b _ _ => ⟨rfl, fun _ => rfl⟩) hrel (fun b hb => by cases hb) hle hnm (by rw [getArr_set, if_pos ⟨rfl, rfl, hn⟩]) (fun m t b _ => getBox_setArr _ _ _ _ _ _) (fun m j _ hne _ => by rw [getArr_set, if_neg (fun e => hne ⟨e.1, e.2.1⟩)])
  exact ⟨_, h1, h2, tr_put h2 rfl rfl rfl (Nat.le_refl _) (fun _ _ _ => rfl) (fun b hb => by cases hb), by simp [Gh.put, ai]⟩
/-! ### Cells of a block are written -/
theorem setCells_heap (b : Nat) : ∀ (vs : List Value) (o : Nat) (w : World) (cs : Array Value) (e : TypeId) (fr : Nat × Nat), w.heap[b]? = some (.cells cs e fr) → ∃ cs', (w.setCells b o vs).heap[b]? = some (.cells cs' e fr) ∧ cs'.size = cs.size ∧
    (∀ i, cs'[i]? = if o ≤ i ∧ i < o + vs.length ∧ i < cs.size then vs[i - o]? else cs[i]?)
  | [], o, w, cs, e, fr, h => ⟨cs, h, rfl, fun i => by rw [if_neg (by simp only [List.length_nil]; omega)]⟩
  | v :: vs, o, w, cs, e, fr, h => by
    have h1 : (w.setCell ⟨b, o, none⟩ v).heap[b]? = some (.cells (cs.setIfInBounds o v) e fr) := by
      simp only [World.setCell, Array.getElem?_modify, if_true, h, Option.map_some]
      simp
    obtain ⟨cs', q1, q2, q3⟩ := setCells_heap b vs (o + 1) _ _ e fr h1
    refine ⟨cs', by rw [World.setCells]; exact q1, by rw [q2]; simp, fun i => ?_⟩
    rw [q3 i]
    simp only [List.length_cons, Array.size_setIfInBounds]
    by_cases e1 : i = o
    · subst e1
      rw [if_neg (by omega)]
      by_cases hlt : i < cs.size
      · rw [if_pos (by omega), Array.getElem?_setIfInBounds_self_of_lt hlt]
        simp
      · rw [if_neg (by omega), Array.getElem?_eq_none (by simp; omega), Array.getElem?_eq_none (by omega)]
    · by_cases e2 : o + 1 ≤ i ∧ i < o + 1 + vs.length ∧ i < cs.size
      · rw [if_pos e2, if_pos (by omega)]
        have : i - o = (i - (o + 1)) + 1 := by omega
        rw [this, List.getElem?_cons_succ]
      · rw [if_neg e2, if_neg (by omega), Array.getElem?_setIfInBounds_ne (by omega)]
theorem setCells_other (b : Nat) : ∀ (vs : List Value) (o : Nat) (w : World) (k : Nat), k ≠ b → (w.setCells b o vs).heap[k]? = w.heap[k]?
  | [], _, _, _, _ => rfl
  | v :: vs, o, w, k, h => by
    rw [World.setCells, setCells_other b vs (o + 1) _ k h]
    exact Go.RowKit.Below.heap_setCell w ⟨b, o, none⟩ v k h
theorem setCells_rest (b : Nat) : ∀ (vs : List Value) (o : Nat) (w : World), (w.setCells b o vs).os = w.os ∧ (w.setCells b o vs).tape = w.tape ∧ (w.setCells b o vs).output = w.output ∧ (w.setCells b o vs).heap.size = w.heap.size
  | [], _, _ => ⟨rfl, rfl, rfl, rfl⟩
  | v :: vs, o, w => by
    obtain ⟨h1, h2, h3, h4⟩ := setCells_rest b vs (o + 1) (w.setCell ⟨b, o, none⟩ v)
    rw [World.setCells]
    exact ⟨h1, h2, h3, h4.trans (by simp [World.setCell])⟩
theorem there_of {b : Nat} {cs : Array Value} {e : TypeId} (h : w.heap[b]? = some (.cells cs e (0, 0))) {o n : Nat} (hn : o + n ≤ cs.size) : w.there b o n := fun j hj => by
  have hlt : o + j < cs.size := by omega
  refine ⟨?_, ?_⟩
  · simp [World.cell?, h, hlt]
  · simp [World.frozen?, h]
theorem store_run {t : TypeId} {i : TypeInfo} (hi : P.info? t = some i) {b o : Nat} {c : Value} (hsz : c.cells.size = i.size) (ht : w.there b o c.cells.size) (h1 : ∀ v ∈ c.cells.toList, v.oneCell' = true) :
    (Instr.storeAt t (.pointer (some ⟨b, o, none⟩)) c).run P w = .ok () (w.setCells b o c.cells.toList) := by
  have := run_storeCells_cells (P := P) b o c.cells.toList 0 w (fun j hj => by simpa using (ht j (by simpa using hj)).1) (fun j hj => by simpa using (ht j (by simpa using hj)).2) h1
  simp only [Nat.add_zero] at this
  simp [Instr.storeAt, Instr.sureAddr, storeVar, sizeOf, typeInfo, hi, hsz, this]
end
end Go.Proofs.Ytebflncfgjnkkaa.M
