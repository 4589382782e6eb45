/- THE ABSTRACT MACHINE, nineteenth part: append, carried out. -/
import Derived.Test.YtebflncfgjnkkaaMa18
namespace Go.Proofs.Ytebflncfgjnkkaa.M
set_option linter.unusedSimpArgs false
set_option linter.unusedVariables false
open Go
section
variable {g g' : Gh} {S S' : Sto} {w w' : World} {P : Program}
theorem growBy_le (n : Nat) : ∀ (r c : Nat), c ≤ 2 * n + 768 → Builtin.growBy n r c ≤ 2 * n + 768
  | 0, c, h => h
  | r + 1, c, h => by
    unfold Builtin.growBy
    split
    · exact h
    · exact growBy_le n r _ (by omega)
theorem nextcap_le {n old : Nat} (h : old ≤ n) : Builtin.nextslicecap n old ≤ 2 * n + 768 := by
  unfold Builtin.nextslicecap
  split
  · omega
  · split
    · omega
    · exact growBy_le n 4 old (by omega)
theorem big_fits {n old bytes : Nat} (h : old ≤ n) (hb : bigRow n bytes) : Builtin.nextslicecap n old * bytes ≤ 281474976710656 := by
  obtain ⟨h1, h2, h3⟩ := hb
  have := Nat.mul_le_mul_right bytes (nextcap_le h)
  rw [Nat.add_mul] at this
  have e : 2 * n * bytes = 2 * (n * bytes) := by rw [Nat.mul_assoc]
  omega
theorem grownCap_ge (w : World) (need old : Nat) (e : TypeId) : need ≤ grownCap w need old e := by
  unfold grownCap Question.cut
  exact Nat.le_add_right _ _
/-- Nothing is appended. -/
theorem append_zero {t tx ty e : TypeId} {i : TypeInfo} (ht : P.underlying t = some (.slice e)) (hi : P.info? e = some i) {base : Option Addr} {len cap : Nat} (hcap : len ≤ cap) {x : Value} {news : List Value} (hs : Src P i.size tx x 0 news w) :
    (Builtin.append_ #[t, tx] ty #[.slice base len cap, x]).run P w = .ok (.slice base len cap) w := by
  have hn : news = [] := by have := hs.newsLen; rw [Nat.zero_mul] at this; exact List.eq_nil_of_length_eq_zero this
  have hc := hs.cells
  rw [hn] at hc
  rcases hs.kind with ⟨e', hk⟩ | hk <;> cases base <;> simp [Builtin.append_, run_underlying ht, run_underlying hk, sizeOf, typeInfo, hi, hs.len, hcap, hc, storeCells]
theorem zeroCells_size (z : Array Value) (n : Nat) : (Builtin.zeroCells z n).size = n * z.size := by simp [Builtin.zeroCells]
/-- The old cells and the new ones, in a new block. -/
theorem append_grow {t tx ty e : TypeId} {i : TypeInfo} {z : Value} (ht : P.underlying t = some (.slice e)) (hi : P.info? e = some i) (hz : i.zero = some z) (hzs : z.cells.size = i.size) {base : Option Addr} {len cap : Nat} {rows src : List (List PV)} {cs : Nat → Nat → Value}
    (hlen : rows.length = len) (hb : bigRow (len + src.length) i.bytes) (hg : cap < len + src.length) (heach : ∀ r ∈ rows, r.length = i.size) (haddr : rows ≠ [] → ∃ ad, base = some ad ∧ ad.spot = none)
    (hcell : ∀ ad k j row v, base = some ad → rows[k]? = some row → row[j]? = some v → w.cell? ⟨ad.block, ad.off + (k * i.size + j), none⟩ = some (cs k j)) (hfr : ∀ k j row v, rows[k]? = some row → row[j]? = some v → FR g.fz v (cs k j))
    {x : Value} {news : List Value} (hs : Src P i.size tx x src.length news w) (hse : ∀ r ∈ src, r.length = i.size) (hnf : ∀ k j row v, src[k]? = some row → row[j]? = some v → ∃ u, news[k * i.size + j]? = some u ∧ FR g.fz v u) :
    ∃ (cells : Array Value) (cap' : Nat) (cs' : Nat → Nat → Value), (Builtin.append_ #[t, tx] ty #[.slice base len cap, x]).run P w = .ok (.slice (some ⟨w.heap.size, 0, none⟩) (rows ++ src).length cap') (w.drew.alloc (.cells cells e)) ∧ cells.size = cap' * i.size ∧ (rows ++ src).length ≤ cap' ∧
      (∀ r ∈ rows ++ src, r.length = i.size) ∧ ∀ k j row v, (rows ++ src)[k]? = some row → row[j]? = some v → cells[k * i.size + j]? = some (cs' k j) ∧ FR g.fz v (cs' k j) := by
  let olds : List Value := (List.range (rows.length * i.size)).map fun q => cs (q / i.size) (q % i.size)
  have hol : olds.length = len * i.size := by simp [olds, hlen]
  have hq : ∀ q, q < rows.length * i.size → ∃ row v, rows[q / i.size]? = some row ∧ row[q % i.size]? = some v ∧ q / i.size * i.size + q % i.size = q := by
    intro q hq
    have hz : 0 < i.size := by
      rcases Nat.eq_zero_or_pos i.size with h0 | h0
      · rw [h0] at hq; simp at hq
      · exact h0
    have h1 : q / i.size < rows.length := (Nat.div_lt_iff_lt_mul hz).2 hq
    have h2 := heach _ (List.getElem_mem h1)
    have h3 : q % i.size < (rows[q / i.size]).length := by rw [h2]; exact Nat.mod_lt _ hz
    refine ⟨_, _, List.getElem?_eq_getElem h1, List.getElem?_eq_getElem h3, ?_⟩
    have := Nat.div_add_mod q i.size
    rw [Nat.mul_comm] at this
    exact this
  have hold : (Builtin.firstCells i.size len (.slice base len cap)).run P w.drew = .ok olds.toArray w.drew := by
    cases base with
    | none =>
      have : rows = [] := by
        cases rows with
        | nil => rfl
        | cons r rows =>
          obtain ⟨ad, h1, _⟩ := haddr (by simp)
          cases h1
      subst this
      simp only [List.length_nil] at hlen
      subst hlen
      have := run_firstCells_none (P := P) w.drew i.size 0 0 cap
      simpa [olds] using this
    | some ad =>
      refine run_firstCells_some w.drew i.size len ad len cap olds hol (fun j u hj => ?_)
      have hlt : j < rows.length * i.size := by rw [hlen, ← hol]; exact (List.getElem?_eq_some_iff.1 hj).1
      simp only [olds, List.getElem?_map, List.getElem?_range hlt, Option.map_some, Option.some.injEq] at hj
      subst hj
      obtain ⟨row, v, q1, q2, q3⟩ := hq j hlt
      obtain ⟨ad', e1, hsp⟩ := haddr (fun e => by rw [e] at hlt; simp at hlt)
      obtain rfl := Option.some.inj e1
      have := hcell ad (j / i.size) (j % i.size) row v rfl q1 q2
      rw [q3] at this
      rw [add_off hsp]
      exact this
  obtain ⟨b1, b2, b3⟩ := hb
  have hrun := run_append_grow_src w t tx ty e i z ht hi hz base len cap olds hold x src.length news hs hg (by omega) (big_fits (by omega) ⟨b1, b2, b3⟩)
  have hge := grownCap_ge w (len + src.length) cap e
  have hnl := hs.newsLen
  refine ⟨(olds ++ news).toArray ++ Builtin.zeroCells z.cells (grownCap w (len + src.length) cap e - (len + src.length)), grownCap w (len + src.length) cap e, fun k j => (olds ++ news)[k * i.size + j]?.getD undef, ?_, ?_, by rw [List.length_append, hlen]; exact hge, ?_, ?_⟩
  · rw [List.length_append, hlen]
    exact hrun
  · simp only [Array.size_append, List.size_toArray, List.length_append, zeroCells_size, hzs, hol, hnl]
    rw [← Nat.add_mul, ← Nat.add_mul]
    congr 1
    omega
  · intro r hr
    rcases List.mem_append.1 hr with h | h
    · exact heach r h
    · exact hse r h
  · intro k j row v hk hj
    have get : ∀ u, (olds ++ news)[k * i.size + j]? = some u → ((olds ++ news).toArray ++ Builtin.zeroCells z.cells (grownCap w (len + src.length) cap e - (len + src.length)))[k * i.size + j]? = some u := by
      intro u hu
      have hlt := (List.getElem?_eq_some_iff.1 hu).1
      rw [Array.getElem?_append_left (by simpa using hlt)]
      simpa using hu
    rcases Nat.lt_or_ge k len with hlt | hge'
    · rw [List.getElem?_append_left (by omega)] at hk
      have hj' : j < i.size := by rw [← heach row (List.mem_of_getElem? hk)]; exact (List.getElem?_eq_some_iff.1 hj).1
      have hcp := cell_pos (show k < rows.length by omega) hj'
      have hu : (olds ++ news)[k * i.size + j]? = some (cs k j) := by
        have hcp' : k * i.size + j < len * i.size := by rw [← hlen]; exact hcp
        rw [List.getElem?_append_left (by omega)]
        simp only [olds, List.getElem?_map, List.getElem?_range hcp, Option.map_some, Option.some.injEq]
        have e1 : (k * i.size + j) / i.size = k := by rw [Nat.mul_comm, Nat.mul_add_div (by omega), Nat.div_eq_of_lt hj', Nat.add_zero]
        have e2 : (k * i.size + j) % i.size = j := by rw [Nat.mul_comm, Nat.mul_add_mod, Nat.mod_eq_of_lt hj']
        rw [e1, e2]
      refine ⟨?_, ?_⟩
      · exact (get _ hu).trans (by simp [hu])
      · simp only [hu, Option.getD_some]; exact hfr k j row v hk hj
    · rw [List.getElem?_append_right (by omega)] at hk
      obtain ⟨u, h1, h2⟩ := hnf (k - rows.length) j row v hk hj
      have hu : (olds ++ news)[k * i.size + j]? = some u := by
        have : len * i.size ≤ k * i.size := Nat.mul_le_mul_right _ hge'
        rw [List.getElem?_append_right (by omega), hol]
        have e : k * i.size + j - len * i.size = (k - rows.length) * i.size + j := by rw [hlen, Nat.sub_mul]; omega
        rw [e]
        exact h1
      refine ⟨?_, ?_⟩
      · exact (get _ hu).trans (by simp [hu])
      · simp only [hu, Option.getD_some]; exact h2
/-- A base that is no more written: nothing, or a slice that has no room. -/
theorem append_base {ac ac' : Ac} (hw : WR g ac.S w) (hne : 0 < ac.S.length) {kd : Bool} {d : Nat} {t tx ty e : TypeId} {i : TypeInfo} {z : Value} (ht : P.underlying t = some (.slice e)) (hi : P.info? e = some i) (hz : i.zero = some z) (hzs : z.cells.size = i.size) {base : Option Addr} {rows src : List (List PV)} {cs : Nat → Nat → Value} {frz : Bool}
    (hb : bigRow (rows.length + src.length) i.bytes) (heach : ∀ r ∈ rows, r.length = i.size) (haddr : rows ≠ [] → ∃ ad, base = some ad ∧ ad.spot = none) (hc : ∀ ad k j row v, base = some ad → rows[k]? = some row → row[j]? = some v → g.fz ad.block (ad.off + (k * i.size + j)) = some (cs k j))
    (hfr : ∀ k j row v, rows[k]? = some row → row[j]? = some v → FR g.fz v (cs k j)) (hf : frz = true ∨ rows = []) {x : Value} {news : List Value} (hs : Src P i.size tx x src.length news w) (hse : ∀ r ∈ src, r.length = i.size) (hnf : ∀ k j row v, src[k]? = some row → row[j]? = some v → ∃ u, news[k * i.size + j]? = some u ∧ FR g.fz v u)
    (h : newArr kd d ⟨i.size, rows ++ src, frz, 0⟩ ac = .ok ac') : ∃ c w' g', (Builtin.append_ #[t, tx] ty #[.slice base rows.length rows.length, x]).run P w = .ok c w' ∧ Step kd (some d) g ac w ac' c w' g' := by
  rcases Nat.eq_zero_or_pos src.length with h0 | h0
  · have hsrc : src = [] := List.eq_nil_of_length_eq_zero h0
    subst hsrc
    rw [List.append_nil] at h
    have hrun := append_zero (ty := ty) (base := base) (len := rows.length) (cap := rows.length) ht hi (Nat.le_refl _) hs
    obtain ⟨g', hst⟩ := newArr_step (w' := w) (c := .slice base rows.length rows.length) hw hne (fun g0 S0 w0 hfz hn hl => by
      obtain ⟨g', w1, x1, t1, a1⟩ := aliasRow w0 (n := 0) (k := .slot d) (A := ⟨i.size, rows, frz, 0⟩) (a := base) (cap := rows.length) (cs := cs) rfl heach haddr (fun ad k j row v h1 h2 h3 => by rw [hfz]; exact hc ad k j row v h1 h2 h3) (fun k j row v h1 h2 => by rw [hfz]; exact hfr k j row v h1 h2) hf hl (fun ai0 h0 => by rw [hn] at h0; cases h0) nm_slot
      exact ⟨g', w1, x1, t1, _, a1, rfl, rfl, rfl, haddr, Nat.le_refl _⟩) h
    exact ⟨_, w, g', hrun, hst⟩
  · obtain ⟨cells, cap', cs', hrun, h1, h2, h3, h4⟩ := append_grow (g := g) (ty := ty) (cap := rows.length) ht hi hz hzs rfl hb (by omega) heach haddr (fun ad k j row v q1 q2 q3 => hw.fz _ _ _ (hc ad k j row v q1 q2 q3)) hfr hs hse hnf
    obtain ⟨g', hst⟩ := newArr_step (w' := w.drew.alloc (.cells cells e)) (c := .slice (some ⟨w.heap.size, 0, none⟩) (rows ++ src).length cap') hw hne (fun g0 S0 w0 hfz hn hl => by
      obtain ⟨g', w1, x1, t1, a1⟩ := growRow w0 (n := 0) (k := .slot d) (A := ⟨i.size, rows ++ src, frz, 0⟩) e h1 h3 h2 (cs := cs') (fun k j row v q1 q2 => ⟨(h4 k j row v q1 q2).1, by rw [hfz]; exact (h4 k j row v q1 q2).2⟩) hl (fun ai0 h0 => by rw [hn] at h0; cases h0) nm_slot
      exact ⟨g', w1, x1, t1, _, a1, rfl, rfl, rfl, fun _ => ⟨_, rfl, rfl⟩, h2⟩) h
    exact ⟨_, _, g', hrun, hst⟩
end
end Go.Proofs.Ytebflncfgjnkkaa.M
