/- THE ABSTRACT MACHINE, seventh part: loads, literals, comparisons of structs. -/
import Derived.Test.YtebflncfgjnkkaaMa6
namespace Go.Proofs.Ytebflncfgjnkkaa.M
set_option linter.unusedSimpArgs false
set_option linter.unusedVariables false
open Go
section
variable {g : Gh} {S : Sto} {w : World} {P : Program}
theorem info_of {t : TypeId} {d : TypeDesc} (h : P.underlying t = some d) : ∃ i, P.info? t = some i := by
  unfold Program.underlying at h
  cases hi : P.info? t with
  | none => simp [hi] at h
  | some i => exact ⟨i, rfl⟩
theorem cellsOf_info {t : TypeId} {i : TypeInfo} (h : P.info? t = some i) : P.cellsOf t = i.size := by simp [Program.cellsOf, h]
theorem upN_agg (n : Nat) : ∀ vs : List PV, PV.upN n (.agg vs) = .agg (vs.map (PV.upN n)) := by
  induction n with
  | zero => intro vs; simp [PV.upN]
  | succ n ih =>
    intro vs
    simp only [PV.upN, ih, PV.up]
    congr 1
    apply List.ext_getElem?
    intro i
    rw [upL_get, List.getElem?_map, List.getElem?_map, Option.map_map]
    rfl
theorem pickC_map (n : Nat) (k : Option Nat) (cs : List PV) (o : Nat) : (pickC k cs o).map (PV.upN n) = pickC k (cs.map (PV.upN n)) o := by
  cases k with
  | none => simp [pickC]
  | some k =>
    simp only [pickC, List.length_map]
    split
    · simp only [Option.map_some, upN_agg, Option.some.injEq, PV.agg.injEq]
      rw [List.map_take, List.map_drop]
    · rfl
theorem isAgg_plain {t : TypeId} {d : TypeDesc} (h : P.underlying t = some d) (hd : d.isRow = false) (w : World) : (isAgg t).run P w = .ok false w := by
  unfold isAgg
  rw [Sem.run_bind, run_underlying h w]
  cases d <;> simp_all
/-- Cells that lie from p on in block b. -/
def Lies (g : Gh) (w : World) (b p : Nat) (vs : List PV) : Prop := ∀ j v, vs[j]? = some v → ∃ u, w.cell? ⟨b, p + j, none⟩ = some u ∧ VR g v u
theorem kOf_none {t : TypeId} (h : kOf P t = some none) : ∃ d, P.underlying t = some d ∧ d.isRow = false ∧ P.cellsOf t = 1 := by
  unfold kOf at h
  split at h
  · cases h
  · cases h
  · cases h
  · rename_i d _ _ hd
    split at h
    · rename_i h1
      refine ⟨d, hd, ?_, h1⟩
      cases d <;> first | rfl | (exfalso; simp_all)
    · cases h
theorem kOf_some {t : TypeId} {k : Nat} (h : kOf P t = some (some k)) : ∃ fs, P.underlying t = some (.struct fs) ∧ P.cellsOf t = k := by
  unfold kOf at h
  split at h
  · rename_i fs hd
    simp only [Option.some.injEq] at h
    exact ⟨fs, hd, h⟩
  · cases h
  · cases h
  · split at h <;> cases h
theorem load_ok {b p o : Nat} {vs : List PV} (hl : Lies g w b p vs) {t : TypeId} {k : Option Nat} (hk : kOf P t = some k) {v : PV} (hv : pickC k vs o = some v) :
    ∃ c, (Instr.loadAt t (.pointer (some ⟨b, p + o, none⟩))).run P w = .ok c w ∧ VR g v c := by
  cases k with
  | none =>
    obtain ⟨d, hu, hd, _⟩ := kOf_none hk
    obtain ⟨c, hc, hr⟩ := hl o v hv
    refine ⟨c, ?_, hr⟩
    simp [Instr.loadAt, Instr.sureAddr, loadVar, Sem.run_bind, isAgg_plain hu hd, load, Sem.run, hc]
  | some k =>
    obtain ⟨fs, hu, hs⟩ := kOf_some hk
    simp only [pickC] at hv
    split at hv
    · rename_i hle
      simp only [Option.some.injEq] at hv
      subst hv
      have hget : ∀ j, j < k → ∃ v u, vs[o + j]? = some v ∧ w.cell? ⟨b, p + (o + j), none⟩ = some u ∧ VR g v u := by
        intro j hj
        have hlt : o + j < vs.length := by omega
        obtain ⟨u, h1, h2⟩ := hl (o + j) _ (List.getElem?_eq_getElem hlt)
        exact ⟨_, u, List.getElem?_eq_getElem hlt, h1, h2⟩
      let cs : List Value := (List.range k).map fun j => (w.cell? ⟨b, p + (o + j), none⟩).getD undef
      have hcs : cs.length = k := by simp [cs]
      have hra : w.rangeAt b (p + o) cs := by
        intro j u hj
        have hjk : j < k := by rw [← hcs]; exact (List.getElem?_eq_some_iff.1 hj).1
        simp only [cs, List.getElem?_map, List.getElem?_range hjk, Option.map_some, Option.some.injEq] at hj
        subst hj
        obtain ⟨v, u, _, h1, _⟩ := hget j hjk
        rw [Nat.add_assoc, h1]
        rfl
      obtain ⟨i, hi⟩ := info_of hu
      refine ⟨.agg cs.toArray, run_loadAt_mid w b (p + o) t cs _ hra hu rfl (by rw [hi, hcs, ← hs, cellsOf_info hi]; rfl), ?_⟩
      refine .agg _ _ (by simp [hcs]; omega) fun j v hj => ?_
      rw [List.getElem?_take] at hj
      split at hj
      · rename_i hjk
        rw [List.getElem?_drop] at hj
        obtain ⟨v', u, h1, h2, h3⟩ := hget j hjk
        rw [hj] at h1
        obtain rfl := Option.some.inj h1
        have : cs.toArray.getD j undef = u := by
          simp only [cs, Array.getD_eq_getD_getElem?, List.getElem?_toArray, List.getElem?_map, List.getElem?_range hjk, Option.map_some, h2, Option.getD_some]
        rw [this]
        exact h3
      · cases hj
    · cases hv
theorem lies_box (hw : WR g S w) {n t b : Nat} (hb : g.b n t = some b) {cs : List PV} (hc : getBox S n t = some cs) : Lies g w b 0 (cs.map (PV.upN n)) := by
  obtain ⟨vs, us, elem, h1, h2, h3, h4, _⟩ := hw.box n t b hb
  obtain rfl : cs = vs := Option.some.inj (hc.symm.trans h1)
  intro j v hj
  rw [List.getElem?_map, Option.map_eq_some_iff] at hj
  obtain ⟨v', hv', rfl⟩ := hj
  have hlt : j < us.size := by rw [← h3]; exact (List.getElem?_eq_some_iff.1 hv').1
  refine ⟨us.getD j undef, ?_, h4 j v' hv'⟩
  simp [World.cell?, h2, Array.getD, hlt]
theorem lies_row (hw : WR g S w) {b p : Nat} {row : List PV} {cs : Nat → Value} (hc : ∀ j v, row[j]? = some v → g.fz b (p + j) = some (cs j)) (hv : ∀ j v, row[j]? = some v → FR g.fz v (cs j)) : Lies g w b p row :=
  fun j v hj => ⟨cs j, hw.fz _ _ _ (hc j v hj), .data _ _ (hv j v hj)⟩
theorem ld_ok (hw : WR g S w) {p : PV} {c : Value} (h : VR g p c) {k : Option Nat} {v : PV} (hl : ld S k p = some v) {t : TypeId} (hk : kOf P t = some k) : ∃ u, (Instr.loadAt t c).run P w = .ok u w ∧ VR g v u := by
  cases p <;> try cases hl
  case ptr n t' o =>
    obtain ⟨b, hb, rfl⟩ := h.ptr_inv
    simp only [ld] at hl
    split at hl
    · rename_i cs hc
      rw [pickC_map] at hl
      have := load_ok (P := P) (lies_box hw hb hc) hk hl
      rwa [Nat.zero_add] at this
    · cases hl
  case rowp row o =>
    cases h with
    | data _ _ h => cases h
    | rowp _ _ b p cs hc hv => exact load_ok (lies_row hw hc hv) hk hl
  case elem n a i o ver gen =>
    simp only [ld] at hl
    split at hl
    · rename_i R hR
      split at hl
      · rename_i hcur
        split at hl
        · rename_i row hrow
          cases h with
          | data _ _ h => cases h
          | elem _ _ _ _ _ _ ai _ ha hle _ hs =>
            obtain ⟨R', hR', hr⟩ := hw.arr n a ai ha
            obtain rfl : R = R' := Option.some.inj (hR.symm.trans hR')
            obtain ⟨ad, h1, h2, rfl⟩ := hs (hr.gen.trans hcur.1) (hr.len.trans hcur.2)
            obtain ⟨cs, h3, h4⟩ := hr.cells
            have hL : Lies g w ad.block (ad.off + i * R.sz) row := fun j v hj => ⟨cs i j, by
              have := (h4 ad i j row v h1 hrow hj).1
              rwa [Nat.add_assoc], .data _ _ (h3 i j row v hrow hj)⟩
            have := load_ok hL hk hl
            rwa [Nat.add_assoc, ← hr.sz] at this
        · cases hl
      · cases hl
    · cases hl

/-! ### A literal's cells -/
def Cells (g : Gh) (vs : List PV) (cs : Array Value) : Prop := vs.length = cs.size ∧ ∀ i v, vs[i]? = some v → VR g v (cs.getD i undef)
theorem VR.cells_ {v : PV} {c : Value} (h : VR g v c) (h1 : v.one = true ∨ ∃ vs, v = .agg vs) : Cells g v.cells c.cells := by
  rcases h1 with h1 | ⟨vs, rfl⟩
  · have e1 : v.cells = [v] := by cases v <;> first | rfl | cases h1
    have e2 : c.cells = #[c] := by
      have := h.oneCell h1
      cases c <;> first | rfl | cases this
    rw [e1, e2]
    refine ⟨rfl, fun i v' hi => ?_⟩
    cases i with
    | zero => simp at hi; subst hi; simpa using h
    | succ i => simp at hi
  · obtain ⟨cs, rfl, h2, h3⟩ := h.agg_inv
    exact ⟨h2, h3⟩
theorem setAt_length : ∀ (vs cs : List PV) (o : Nat), (setAt cs o vs).length = cs.length
  | [], cs, o => rfl
  | v :: vs, cs, o => by rw [setAt, setAt_length vs]; simp
theorem setAt_get : ∀ (vs cs : List PV) (o : Nat) (i : Nat), o + vs.length ≤ cs.length → (setAt cs o vs)[i]? = if o ≤ i ∧ i < o + vs.length then vs[i - o]? else cs[i]?
  | [], cs, o, i, _ => by rw [setAt, if_neg (by simp only [List.length_nil]; omega)]
  | v :: vs, cs, o, i, h => by
    simp only [List.length_cons] at h
    rw [setAt, setAt_get vs _ _ i (by simp; omega)]
    simp only [List.length_cons]
    by_cases h1 : i = o
    · subst h1
      rw [if_neg (by omega), if_pos (by omega), List.getElem?_set_self (by omega)]
      simp
    · by_cases h2 : o + 1 ≤ i ∧ i < o + 1 + vs.length
      · rw [if_pos h2, if_pos (by omega)]
        have : i - o = (i - (o + 1)) + 1 := by omega
        rw [this, List.getElem?_cons_succ]
      · rw [if_neg h2, if_neg (by omega), List.getElem?_set_ne (by omega)]
theorem fold_set (cs : Array Value) (us : Array Value) (off : Nat) : (us.zipIdx.foldl (fun cs (c, j) => cs.setIfInBounds (off + j) c) cs).size = cs.size ∧ ∀ i, off + us.size ≤ cs.size → (us.zipIdx.foldl (fun cs (c, j) => cs.setIfInBounds (off + j) c) cs)[i]? = if off ≤ i ∧ i < off + us.size then us[i - off]? else cs[i]? := by
  have key : ∀ (l : List Value) (k : Nat) (cs : Array Value), (((l.zipIdx k).foldl (fun (cs : Array Value) (x : Value × Nat) => cs.setIfInBounds (off + x.2) x.1) cs).size = cs.size) ∧ ∀ i, off + k + l.length ≤ cs.size → ((l.zipIdx k).foldl (fun (cs : Array Value) (x : Value × Nat) => cs.setIfInBounds (off + x.2) x.1) cs)[i]? = if off + k ≤ i ∧ i < off + k + l.length then l[i - (off + k)]? else cs[i]? := by
    intro l
    induction l with
    | nil => intro k cs; exact ⟨rfl, fun i _ => by rw [if_neg (by simp only [List.length_nil]; omega)]; rfl⟩
    | cons c l ih =>
      intro k cs
      simp only [List.zipIdx_cons, List.foldl_cons, List.length_cons]
      obtain ⟨h1, h2⟩ := ih (k + 1) (cs.setIfInBounds (off + k) c)
      refine ⟨by rw [h1]; simp, fun i hle => ?_⟩
      rw [h2 i (by simp; omega)]
      by_cases e : i = off + k
      · subst e
        rw [if_neg (by omega), if_pos (by omega), Array.getElem?_setIfInBounds_self_of_lt (by omega)]
        simp
      · by_cases h3 : off + (k + 1) ≤ i ∧ i < off + (k + 1) + l.length
        · rw [if_pos h3, if_pos (by omega)]
          have : i - (off + k) = (i - (off + (k + 1))) + 1 := by omega
          rw [this, List.getElem?_cons_succ]
        · rw [if_neg h3, if_neg (by omega), Array.getElem?_setIfInBounds_ne (by omega)]
  have h := key us.toList 0 cs
  have e : us.zipIdx.foldl (fun cs (c, j) => cs.setIfInBounds (off + j) c) cs = (us.toList.zipIdx 0).foldl (fun (cs : Array Value) (x : Value × Nat) => cs.setIfInBounds (off + x.2) x.1) cs := by
    rw [← Array.foldl_toList, Array.toList_zipIdx]
  rw [e]
  refine ⟨h.1, fun i hle => ?_⟩
  have := h.2 i (by simpa using hle)
  simpa using this
theorem Cells.set {vs : List PV} {cs : Array Value} (h : Cells g vs cs) {ps : List PV} {us : Array Value} (hp : Cells g ps us) {off : Nat} (hle : off + ps.length ≤ vs.length) :
    Cells g (setAt vs off ps) (us.zipIdx.foldl (fun cs (c, j) => cs.setIfInBounds (off + j) c) cs) := by
  obtain ⟨h1, h2⟩ := fold_set cs us off
  have e := hp.1
  have e2 := h.1
  refine ⟨by rw [setAt_length, h1]; exact h.1, fun i v hi => ?_⟩
  rw [setAt_get ps vs off i hle] at hi
  rw [Array.getD_eq_getD_getElem?, h2 i (by omega)]
  split at hi
  · rename_i hin
    rw [if_pos (by omega)]
    have := hp.2 (i - off) v hi
    rwa [Array.getD_eq_getD_getElem?] at this
  · rename_i hin
    rw [if_neg (by omega)]
    have := h.2 i v hi
    rwa [Array.getD_eq_getD_getElem?] at this
theorem cZ_ok {t : TypeId} {z : List PV} (h : cZ P t = some z) : ∃ i v, P.info? t = some i ∧ i.zero = some v ∧ v.cells.size = P.cellsOf t ∧ Cells g z v.cells ∧ ∀ j p, z[j]? = some p → FR g.fz p (v.cells.getD j undef) := by
  unfold cZ at h
  split at h
  · rename_i v ts hz hts
    split at h
    · rename_i hlen
      rw [Option.bind_eq_some_iff] at hz
      obtain ⟨i, hi, hz⟩ := hz
      have key : ∀ (l : List (Value × TypeId)) (z : List PV), l.mapM (fun (x : Value × TypeId) => cV P x.2 x.1) = some z → z.length = l.length ∧ ∀ (j : Nat) (p : PV), z[j]? = some p → ∃ x : Value × TypeId, l[j]? = some x ∧ cV P x.2 x.1 = some p := by
        intro l
        induction l with
        | nil => intro z hz; simp at hz; subst hz; exact ⟨rfl, fun j p h => by simp at h⟩
        | cons x l ih =>
          intro z hz
          rw [List.mapM_cons] at hz
          simp only [Option.bind_eq_bind, Option.bind_eq_some_iff, Option.pure_def, Option.some.injEq] at hz
          obtain ⟨p, hp, r, hr, rfl⟩ := hz
          obtain ⟨h1, h2⟩ := ih r hr
          refine ⟨by simp [h1], fun j q hq => ?_⟩
          cases j with
          | zero => simp at hq; subst hq; exact ⟨x, rfl, hp⟩
          | succ j => simp at hq; simpa using h2 j q hq
      obtain ⟨h1, h2⟩ := key _ z h
      have hf : ∀ j p, z[j]? = some p → FR g.fz p (v.cells.getD j undef) := by
        intro j p hp
        obtain ⟨x, hx, hc⟩ := h2 j p hp
        have hx' := List.getElem?_zip_eq_some.1 hx
        rw [Array.getD_eq_getD_getElem?]
        have : v.cells[j]? = some x.1 := by simpa using hx'.1
        rw [this]
        exact cV_FR hc
      exact ⟨i, v, hi, hz, hlen.2, ⟨by rw [h1, List.length_zip]; simp; omega, fun j p hp => .data _ _ (hf j p hp)⟩, hf⟩
    · cases h
  · cases h
end
end Go.Proofs.Ytebflncfgjnkkaa.M
