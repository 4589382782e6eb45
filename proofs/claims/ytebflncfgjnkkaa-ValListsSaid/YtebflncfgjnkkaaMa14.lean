/- THE ABSTRACT MACHINE, fourteenth part: a row is put under a name; rows that are handed on are frozen. -/
import Derived.Test.YtebflncfgjnkkaaMa13
namespace Go.Proofs.Ytebflncfgjnkkaa.M
set_option linter.unusedSimpArgs false
set_option linter.unusedVariables false
open Go
section
variable {g g' : Gh} {S S' : Sto} {w w' : World} {P : Program}
def Gh.put (g : Gh) (n : Nat) (k : AK) (ai : AI) (φ : Fz) : Gh := ⟨g.b, fun m j => if m = n ∧ j = k then some ai else g.a m j, φ⟩
theorem put_own {n : Nat} {k : AK} {ai : AI} {φ : Fz} {x : Ow} {b : Nat} (h : (g.put n k ai φ).own x = some b) : (x = .arr n k ∧ ai.blk = some b) ∨ (x ≠ .arr n k ∧ g.own x = some b) := by
  cases x with
  | box m t => exact .inr ⟨(by simp), h⟩
  | arr m j =>
    simp only [Gh.own, Gh.put] at h
    split at h
    · rename_i e
      obtain ⟨rfl, rfl⟩ := e
      exact .inl ⟨rfl, h⟩
    · rename_i e
      exact .inr ⟨(by simpa using e), h⟩
theorem ArrRel.ghost {A : Arr} {ai : AI} (h : ArrRel g w A ai) (hf : g.fz = g'.fz) : ArrRel g' w A ai := by
  obtain ⟨h1, h2, h3, h4, h5, h6, h7, h8, h9⟩ := h
  exact ⟨h1, h2, h3, h4, h5, h6, by rw [← hf]; exact h7, by rw [← hf]; exact h8, h9⟩
/-- A row under a name: new, or instead of what was there. -/
theorem WR.put (hw : WR g S w) {n : Nat} {k : AK} {A : Arr} {ai : AI} {φ : Fz} (hφ : ∀ b o v, φ b o = some v → w'.cell? ⟨b, o, none⟩ = some v) (hsub : ∀ b o v, g.fz b o = some v → φ b o = some v)
    (hoth : ∀ x b, x ≠ .arr n k → g.own x = some b → w'.heap[b]? = w.heap[b]? ∧ ∀ o, φ b o = g.fz b o) (hr : ArrRel ⟨g.b, g.a, φ⟩ w' A ai) (hblk : ∀ b, ai.blk = some b → ∀ x, x ≠ .arr n k → g.own x ≠ some b)
    (hle : ∀ ai0, g.a n k = some ai0 → AIle ai0 ai) (hnm : ∀ t i, k = .cell t i → ¬ Bare g n t) (hS : getArr S' n k = some A) (hSb : ∀ m t b, g.b m t = some b → getBox S' m t = getBox S m t) (hSa : ∀ m j ai, ¬ (m = n ∧ j = k) → g.a m j = some ai → getArr S' m j = getArr S m j) :
    WR (g.put n k ai φ) S' w' ∧ Ext g (g.put n k ai φ) := by
  have hx : Ext g (g.put n k ai φ) := by
    refine ⟨⟨fun _ _ _ h => h, fun m j a0 h => ?_, hsub⟩, fun m t hb => ⟨hb.1, fun i => ?_⟩⟩
    by_cases e : m = n ∧ j = k
    · obtain ⟨rfl, rfl⟩ := e
      exact ⟨ai, by simp [Gh.put], hle a0 h⟩
    · exact ⟨a0, by simp only [Gh.put, if_neg e]; exact h, AIle.refl _⟩
    · show (if m = n ∧ AK.cell t i = k then some ai else g.a m (.cell t i)) = none
      rw [if_neg]
      · exact hb.2 i
      · rintro ⟨rfl, e⟩
        exact hnm t i e.symm hb
  refine ⟨⟨hφ, ?_, ?_, ?_⟩, hx⟩
  · intro m t b hb
    obtain ⟨vs, cs, elem, h1, h2, h3, h4, h5⟩ := hw.box m t b hb
    obtain ⟨q1, q2⟩ := hoth (.box m t) b (by simp) hb
    exact ⟨vs, cs, elem, (hSb m t b hb).trans h1, q1.trans h2, h3, fun i v hi => (h4 i v hi).mono hx, fun o => (q2 o).trans (h5 o)⟩
  · intro m j a0 ha
    simp only [Gh.put] at ha
    split at ha
    · rename_i e
      obtain ⟨rfl, rfl⟩ := e
      obtain rfl := Option.some.inj ha
      exact ⟨A, hS, hr.ghost rfl⟩
    · rename_i e
      obtain ⟨A0, h1, hr0⟩ := hw.arr m j a0 ha
      refine ⟨A0, (hSa m j a0 e ha).trans h1, ?_⟩
      obtain ⟨cs, c1, c2⟩ := hr0.cells
      have hne : Ow.arr m j ≠ .arr n k := by simpa using e
      refine ⟨hr0.sz, hr0.len, hr0.gen, hr0.each, hr0.cap, hr0.addr, ⟨cs, fun i p row v hi hp => (c1 i p row v hi hp).mono hsub, fun ad i p row v had hi hp => ?_⟩, ?_, hr0.free⟩
      · obtain ⟨h4, h5⟩ := c2 ad i p row v had hi hp
        refine ⟨?_, fun hfr => hsub _ _ _ (h5 hfr)⟩
        cases hfr : A0.frz with
        | true => exact hφ _ _ _ (hsub _ _ _ (h5 hfr))
        | false =>
          cases hb : a0.blk with
          | none =>
            rcases (hr0.free hb).2 with h | h
            · rw [hfr] at h; cases h
            · rw [h] at hi; simp at hi
          | some b =>
            have hA := (hr0.own b hb).1
            rw [had] at hA
            obtain rfl := Option.some.inj hA
            have := (hoth (.arr m j) b hne (by simp [Gh.own, ha, hb])).1
            unfold World.cell? at h4 ⊢
            rw [this]
            exact h4
      · intro b hb
        obtain ⟨h2, ⟨cells, elem, h3, h4⟩, h5, h6⟩ := hr0.own b hb
        obtain ⟨q1, q2⟩ := hoth (.arr m j) b hne (by simp [Gh.own, ha, hb])
        exact ⟨h2, ⟨cells, elem, q1.trans h3, h4⟩, fun o ho => (q2 o).trans (h5 o ho), fun hf o => (q2 o).trans (h6 hf o)⟩
  · intro x y b h1 h2
    rcases put_own h1 with ⟨rfl, e1⟩ | ⟨n1, e1⟩ <;> rcases put_own h2 with ⟨rfl, e2⟩ | ⟨n2, e2⟩
    · rfl
    · exact absurd e2 (hblk b e1 y n2)
    · exact absurd e1 (hblk b e2 x n1)
    · exact hw.inj x y b e1 e2
theorem Ext.pop_ {g g' : Gh} (h : Ext g g') : Ext g.pop g'.pop := ⟨⟨fun n t b hb => h.b (n + 1) t b hb, fun n k ai ha => h.a (n + 1) k ai ha, h.fz⟩, fun n t hb => h.nam (n + 1) t hb⟩
theorem tr_put {n : Nat} {k : AK} {ai : AI} {φ : Fz} (hx : Ext g (g.put n k ai φ)) (h1 : w'.os = w.os) (h2 : w'.tape = w.tape) (h3 : w'.output = w.output) (h4 : w.heap.size ≤ w'.heap.size)
    (hk : ∀ j, j < w.heap.size → (∀ x, g.own x ≠ some j) → w'.heap[j]? = w.heap[j]?) (hb : ∀ b, ai.blk = some b → g.own (.arr n k) = some b ∨ w.heap.size ≤ b) : Tr g w (g.put n k ai φ) w' :=
  ⟨h1, h2, h3, h4, hx.fz, hk, fun x b hx => by
    rcases put_own hx with ⟨rfl, e⟩ | ⟨_, e⟩
    · rcases hb b e with h | h
      · exact .inl h
      · exact .inr h
    · exact .inl e, hx.pop_⟩
theorem getArr_set (S : Sto) (n : Nat) (k : AK) (A : Arr) (m : Nat) (j : AK) : getArr (setArr S n k A) m j = if m = n ∧ j = k ∧ n < S.length then some A else getArr S m j := by
  induction S generalizing n m with
  | nil => cases n <;> cases m <;> simp [setArr, getArr]
  | cons f S ih =>
    cases n <;> cases m <;> simp [setArr, getArr, updK, ih]
theorem getBox_setArr (S : Sto) (n : Nat) (k : AK) (A : Arr) (m t : Nat) : getBox (setArr S n k A) m t = getBox S m t := by
  induction S generalizing n m with
  | nil => cases n <;> cases m <;> simp [setArr, getBox]
  | cons f S ih =>
    cases n <;> cases m <;> simp [setArr, getBox, ih]
theorem getArr_lt {S : Sto} {n : Nat} {k : AK} {A : Arr} (h : getArr S n k = some A) : n < S.length := by
  induction S generalizing n with
  | nil => cases n <;> simp [getArr] at h
  | cons f S ih =>
    cases n with
    | zero => simp
    | succ n => simp only [getArr] at h; have := ih h; simp; omega
theorem getBox_lt {S : Sto} {n t : Nat} {A : List PV} (h : getBox S n t = some A) : n < S.length := by
  induction S generalizing n with
  | nil => cases n <;> simp [getBox] at h
  | cons f S ih =>
    cases n with
    | zero => simp
    | succ n => simp only [getBox] at h; have := ih h; simp; omega
theorem setArr_length (S : Sto) (n : Nat) (k : AK) (A : Arr) : (setArr S n k A).length = S.length := by
  induction S generalizing n with
  | nil => cases n <;> simp [setArr]
  | cons f S ih => cases n <;> simp [setArr, ih]
/-! ### A row is frozen -/
/-- The cells from lo on, below hi, of block b0 are frozen, too. -/
def frzFz (fz : Fz) (w : World) (b0 lo hi : Nat) : Fz := fun b o => if b = b0 ∧ lo ≤ o ∧ o < hi then w.cell? ⟨b, o, none⟩ else fz b o
theorem frzFz_sub {fz : Fz} {b0 lo hi : Nat} (h : ∀ b o v, fz b o = some v → w.cell? ⟨b, o, none⟩ = some v) : ∀ b o v, fz b o = some v → frzFz fz w b0 lo hi b o = some v := fun b o v hv => by
  unfold frzFz
  split
  · exact h b o v hv
  · exact hv
theorem frzFz_holds {fz : Fz} {b0 lo hi : Nat} (h : ∀ b o v, fz b o = some v → w.cell? ⟨b, o, none⟩ = some v) : ∀ b o v, frzFz fz w b0 lo hi b o = some v → w.cell? ⟨b, o, none⟩ = some v := fun b o v hv => by
  unfold frzFz at hv
  split at hv
  · exact hv
  · exact h b o v hv
theorem cell_pos {i j len sz : Nat} (hi : i < len) (hj : j < sz) : i * sz + j < len * sz := by
  have : (i + 1) * sz ≤ len * sz := Nat.mul_le_mul_right _ hi
  rw [Nat.add_mul] at this
  omega
/-- A row under a name is frozen. -/
theorem WR.freeze (hw : WR g S w) {n : Nat} {k : AK} {A : Arr} (hA : getArr S n k = some A) {ai : AI} (ha : g.a n k = some ai) : ∃ g', WR g' (setArr S n k { A with frz := true }) w ∧ Ext g g' ∧ Tr g w g' w ∧ g'.a n k = some ai ∧
    ∀ ad i j row v, ai.A = some ad → A.rows[i]? = some row → row[j]? = some v → ∃ c, g'.fz ad.block (ad.off + (i * A.sz + j)) = some c ∧ FR g'.fz v c := by
  obtain ⟨A', hA', hr⟩ := hw.arr n k ai ha
  obtain rfl : A = A' := Option.some.inj (hA.symm.trans hA')
  have hlt := getArr_lt hA
  obtain ⟨cs, c1, c2⟩ := hr.cells
  obtain ⟨φ, hφ⟩ : ∃ φ : Fz, (∃ b0, ai.blk = some b0 ∧ φ = frzFz g.fz w b0 0 (ai.len * A.sz)) ∨ (ai.blk = none ∧ φ = g.fz) := by
    cases hb : ai.blk with
    | none => exact ⟨_, .inr ⟨rfl, rfl⟩⟩
    | some b0 => exact ⟨_, .inl ⟨b0, rfl, rfl⟩⟩
  have hsub : ∀ b o v, g.fz b o = some v → φ b o = some v := by
    intro b o v hv
    rcases hφ with ⟨b0, _, rfl⟩ | ⟨_, rfl⟩
    · exact frzFz_sub hw.fz b o v hv
    · exact hv
  have hhold : ∀ b o v, φ b o = some v → w.cell? ⟨b, o, none⟩ = some v := by
    intro b o v hv
    rcases hφ with ⟨b0, _, rfl⟩ | ⟨_, rfl⟩
    · exact frzFz_holds hw.fz b o v hv
    · exact hw.fz b o v hv
  have hcell : ∀ ad i j row v, ai.A = some ad → A.rows[i]? = some row → row[j]? = some v → φ ad.block (ad.off + (i * A.sz + j)) = some (cs i j) := by
    intro ad i j row v had hi hj
    obtain ⟨h4, h5⟩ := c2 ad i j row v had hi hj
    rcases hφ with ⟨b0, hb, rfl⟩ | ⟨hb, rfl⟩
    · have hA1 := (hr.own b0 hb).1
      rw [had] at hA1
      obtain rfl := Option.some.inj hA1
      have hi' : i < ai.len := by rw [hr.len]; exact (List.getElem?_eq_some_iff.1 hi).1
      have hj' : j < A.sz := by rw [← hr.each row (List.mem_of_getElem? hi)]; exact (List.getElem?_eq_some_iff.1 hj).1
      have := cell_pos hi' hj'
      dsimp only [frzFz]
      rw [if_pos ⟨rfl, by omega, by omega⟩]
      exact h4
    · rcases (hr.free hb).2 with h | h
      · exact h5 h
      · rw [h] at hi; simp at hi
  have hrel : ArrRel ⟨g.b, g.a, φ⟩ w { A with frz := true } ai := by
    refine ⟨hr.sz, hr.len, hr.gen, hr.each, hr.cap, hr.addr, ⟨cs, fun i j row v hi hj => (c1 i j row v hi hj).mono hsub, fun ad i j row v had hi hj => ⟨(c2 ad i j row v had hi hj).1, fun _ => hcell ad i j row v had hi hj⟩⟩, ?_, fun hb => ⟨(hr.free hb).1, .inl rfl⟩⟩
    intro b hb
    obtain ⟨h1, h2, h3, _⟩ := hr.own b hb
    refine ⟨h1, h2, fun o ho => ?_, fun h => by cases h⟩
    dsimp only at ho ⊢
    rcases hφ with ⟨b0, hb0, rfl⟩ | ⟨hb0, rfl⟩
    · rw [hb] at hb0
      obtain rfl := Option.some.inj hb0
      unfold frzFz
      rw [if_neg (by omega)]
      exact h3 o ho
    · exact h3 o ho
  obtain ⟨hw', hx⟩ := hw.put (S' := setArr S n k { A with frz := true }) (w' := w) (n := n) (k := k) hhold hsub (fun x b hne hb => ⟨rfl, fun o => by
    rcases hφ with ⟨b0, hb0, rfl⟩ | ⟨hb0, rfl⟩
    · unfold frzFz
      rw [if_neg]
      rintro ⟨rfl, _⟩
      exact hne (hw.inj x (.arr n k) b hb (by simp [Gh.own, ha, hb0]))
    · rfl⟩) hrel (fun b hb x hne hx => hne (hw.inj x (.arr n k) b hx (by simp [Gh.own, ha, hb]))) (fun ai0 h => by rw [ha] at h; cases h; exact AIle.refl _) (nm_some ha) (by rw [getArr_set, if_pos ⟨rfl, rfl, hlt⟩])
    (fun m t b _ => getBox_setArr _ _ _ _ _ _) (fun m j _ hne _ => by rw [getArr_set, if_neg (fun e => hne ⟨e.1, e.2.1⟩)])
  refine ⟨_, hw', hx, tr_put hx rfl rfl rfl (Nat.le_refl _) (fun _ _ _ => rfl) (fun b hb => .inl (by simp [Gh.own, ha, hb])), by simp [Gh.put], fun ad i j row v had hi hj => ⟨cs i j, hcell ad i j row v had hi hj, (c1 i j row v hi hj).mono hsub⟩⟩
theorem hand1_ok (hw : WR g S w) {v v' : PV} {c : Value} (h : VR g v c) (hh : hand1 S v = some (v', S')) : ∃ g', WR g' S' w ∧ Ext g g' ∧ Tr g w g' w ∧ VR g' v' c := by
  have same : ∀ v'', VR g v'' c → some (v'', S) = some (v', S') → ∃ g', WR g' S' w ∧ Ext g g' ∧ Tr g w g' w ∧ VR g' v' c := by
    intro v'' h1 h2
    cases h2
    exact ⟨g, hw, Ext.refl _, Tr.refl _ _, h1⟩
  unfold hand1 at hh
  split at hh
  · rename_i z
    refine same _ ?_ hh
    cases h with | data _ _ h => cases h with | nils z A =>
    exact .data _ _ (.list z [] false A 0 (fun _ _ => undef) (Nat.le_refl _) (by simp) (by simp) (by simp) (by simp) (by simp))
  · rename_i z rows f
    refine same _ ?_ hh
    cases h with | data _ _ h => cases h with | list _ _ _ A cap cs hl hf hs hA hc hv =>
    exact .data _ _ (.list z rows false A cap cs hl (by simp) hs hA hc hv)
  · rename_i n k off len ver gen f
    split at hh
    · rename_i R hR
      split at hh
      · rename_i hcur
        cases hh
        cases h with
        | data _ _ h => cases h
        | sl _ _ _ _ _ _ _ ai _ hai hle h1c hs =>
          obtain ⟨R', hR', hr⟩ := hw.arr n k ai hai
          obtain rfl : R = R' := Option.some.inj (hR.symm.trans hR')
          obtain ⟨A, cap, rfl, sa⟩ := hs (hr.gen.trans hcur.1) (hr.len.trans hcur.2)
          obtain ⟨g', hw', hx, ht, ha', hc⟩ := hw.freeze hR hai
          refine ⟨g', hw', hx, ht, ?_⟩
          have hfit : off + len ≤ R.rows.length := by rw [← hr.len]; exact sa.fits
          have hlen : ((R.rows.drop off).take len).length = len := by rw [List.length_take, List.length_drop]; omega
          have hget : ∀ i row, ((R.rows.drop off).take len)[i]? = some row → R.rows[off + i]? = some row ∧ i < len := by
            intro i row hi
            rw [List.getElem?_take] at hi
            split at hi
            · rename_i hlt
              rw [List.getElem?_drop] at hi
              exact ⟨hi, hlt⟩
            · cases hi
          have haddr : 0 < len → ∃ ad, ai.A = some ad ∧ ad.spot = none ∧ A = some ⟨ad.block, ad.off + off * R.sz, none⟩ := by
            intro hp
            obtain ⟨ad, q1, q2, q3⟩ := sa.pos hp
            exact ⟨ad, q1, q2, by rw [q3, hr.sz]⟩
          have key := FR.list (fz := g'.fz) R.sz ((R.rows.drop off).take len) false A cap (fun i j => match ai.A with | some ad => (g'.fz ad.block (ad.off + ((off + i) * R.sz + j))).getD undef | none => undef) (by rw [hlen]; exact sa.le) (by simp)
            (fun r hr' => hr.each r (List.mem_of_mem_drop (List.mem_of_mem_take hr'))) ?_ ?_ ?_
          · rw [hlen] at key
            exact .data _ _ key
          · intro hne
            have hp : 0 < len := by
              rcases Nat.eq_zero_or_pos len with h0 | h0
              · subst h0; simp at hne
              · exact h0
            obtain ⟨ad, _, _, q3⟩ := haddr hp
            exact ⟨_, q3, rfl⟩
          · intro ad i j row v had hi hj
            obtain ⟨hi', hlt⟩ := hget i row hi
            obtain ⟨ad', q1, q2, q3⟩ := haddr (by omega)
            rw [had] at q3
            obtain rfl := Option.some.inj q3
            obtain ⟨c, hc1, _⟩ := hc ad' (off + i) j row v q1 hi' hj
            simp only [q1]
            rw [hc1]
            rw [show ad'.off + off * R.sz + (i * R.sz + j) = ad'.off + ((off + i) * R.sz + j) by rw [Nat.add_mul]; omega]
            exact hc1
          · intro i j row v hi hj
            obtain ⟨hi', hlt⟩ := hget i row hi
            obtain ⟨ad', q1, q2, q3⟩ := haddr (by omega)
            obtain ⟨c, hc1, hc2⟩ := hc ad' (off + i) j row v q1 hi' hj
            simp only [q1]
            rw [hc1]
            exact hc2
      · cases hh
    · cases hh
  · exact same _ h hh
end
end Go.Proofs.Ytebflncfgjnkkaa.M
