/- THE ABSTRACT MACHINE, eighteenth part: append. -/
import Derived.Test.YtebflncfgjnkkaaMa17
namespace Go.Proofs.Ytebflncfgjnkkaa.M
set_option linter.unusedSimpArgs false
set_option linter.unusedVariables false
open Go
section
variable {g g' : Gh} {S S' : Sto} {w w' : World} {P : Program}
/-- What a step of the machine says of the world's step: c is what the operation yields. -/
structure Step (kd : Bool) (d : Option Nat) (g : Gh) (ac : Ac) (w : World) (ac' : Ac) (c : Value) (w' : World) (g' : Gh) : Prop where
  wr : WR g' ac'.S w'
  tr : Tr g w g' w'
  dst : ∀ t, d = some t → VR g' (ac'.e t) c
  env : ∀ t, d ≠ some t → ∀ u, VR g (ac.e t) u → VR g' (ac'.e t) u
  ext : kd = false → Exw g g' ∧ (∀ t, d ≠ some t → ac'.e t = ac.e t) ∧ ∀ t, d ≠ some t → Bare g 0 t → Bare g' 0 t
  len : ac'.S.length = ac.S.length
theorem killS_length (d : Nat) (S : Sto) : (killS d S).length = S.length := by cases S <;> rfl
/-- A row that is made. -/
theorem newArr_core {T : Gh → Prop} {ac ac' : Ac} (hw : WR g ac.S w) (hne : 0 < ac.S.length) {kd : Bool} {d : Nat} {A : Arr} {c : Value}
    (mk : ∀ g0 S0, (g0 = g ∨ g0 = g.kill d) → WR g0 S0 w → g0.a 0 (.slot d) = none → 0 < S0.length → ∃ g', WR g' (setArr S0 0 (.slot d) A) w' ∧ Ext g0 g' ∧ T g' ∧ ∃ ai, g'.a 0 (.slot d) = some ai ∧ ai.len = A.rows.length ∧ ai.gen = A.gen ∧ c = .slice ai.A ai.len ai.cap ∧ (A.rows ≠ [] → ∃ ad, ai.A = some ad ∧ ad.spot = none) ∧ ai.len ≤ ai.cap)
    (h : newArr kd d A ac = .ok ac') : ∃ g', T g' ∧ ∀ g1 ac1 w1, ac1.e = ac.e → ac1.S.length = ac.S.length → Ext g1 g → Tr g1 w1 g' w' → Step kd (some d) g1 ac1 w1 ac' c w' g' := by
  have vr : ∀ g' ai, g'.a 0 (.slot d) = some ai → ai.len = A.rows.length → ai.gen = A.gen → c = .slice ai.A ai.len ai.cap → (A.rows ≠ [] → ∃ ad, ai.A = some ad ∧ ad.spot = none) → ai.len ≤ ai.cap → VR g' (.sl 0 (.slot d) 0 A.rows.length A.rows.length A.gen false) c := by
    intro g' ai h1 h2 h3 h4 h5 h6
    refine .sl _ _ _ _ _ _ _ ai _ h1 (.inr ⟨h3.symm, by omega⟩) (by rw [h4]; rfl) (fun _ _ => ⟨ai.A, ai.cap, by rw [h4, h2], ⟨by omega, by omega, fun _ => rfl, fun hp => ?_, fun h => (by cases h), fun _ _ _ => rfl⟩⟩)
    obtain ⟨ad, q1, q2⟩ := h5 (fun e => by rw [e] at hp; simp at hp)
    refine ⟨ad, q1, q2, ?_⟩
    obtain ⟨b, o, s⟩ := ad
    simp only at q2
    subst q2
    simpa using q1
  unfold newArr at h
  split at h
  · rename_i hk
    cases h
    obtain ⟨g', w1, x1, t1, ai, a1, a2, a3, a4, a5, a6⟩ := mk (g.kill d) (killS d ac.S) (.inr rfl) (hw.kill d) (killed_a g rfl) (by rw [killS_length]; exact hne)
    refine ⟨g', t1, fun gb acb wb he hl hxb htb => ⟨w1, htb, fun t ht => ?_, fun t ht u hu => ?_, fun hk' => (by rw [hk'] at hk; cases hk), by rw [setArr_length, killS_length, hl]⟩⟩
    · obtain rfl := Option.some.inj ht
      simp only [upd, if_true]
      exact vr g' ai a1 a2 a3 a4 a5 a6
    · have : t ≠ d := fun e => ht (by rw [e])
      simp only [upd, if_neg this, killE]
      rw [he] at hu
      exact ((hu.mono hxb).kill d).mono x1
  · rename_i hk
    split at h
    · rename_i hno
      cases h
      have hg : g.a 0 (.slot d) = none := by
        cases ha : g.a 0 (.slot d) with
        | none => rfl
        | some ai =>
          obtain ⟨A0, q1, _⟩ := hw.arr 0 _ ai ha
          rw [hno] at q1
          cases q1
      obtain ⟨g', w1, x1, t1, ai, a1, a2, a3, a4, a5, a6⟩ := mk g ac.S (.inl rfl) hw hg hne
      refine ⟨g', t1, fun gb acb wb he hl hxb htb => ⟨w1, htb, fun t ht => ?_, fun t ht u hu => ?_, fun _ => ⟨(hxb.trans x1).toExw, fun t ht => ?_, fun t _ hb => (hxb.trans x1).nam 0 t hb⟩, by rw [setArr_length, hl]⟩⟩
      · obtain rfl := Option.some.inj ht
        simp only [upd, if_true]
        exact vr g' ai a1 a2 a3 a4 a5 a6
      · have : t ≠ d := fun e => ht (by rw [e])
        simp only [upd, if_neg this]
        rw [he] at hu
        exact hu.mono (hxb.trans x1)
      · have : t ≠ d := fun e => ht (by rw [e])
        simp only [upd, if_neg this, he]
    · cases h
/-- A row that is made. -/
theorem newArr_step {ac ac' : Ac} (hw : WR g ac.S w) (hne : 0 < ac.S.length) {kd : Bool} {d : Nat} {A : Arr} {c : Value}
    (mk : ∀ g0 S0, WR g0 S0 w → g0.fz = g.fz → g0.a 0 (.slot d) = none → 0 < S0.length → ∃ g', WR g' (setArr S0 0 (.slot d) A) w' ∧ Ext g0 g' ∧ Tr g0 w g' w' ∧ ∃ ai, g'.a 0 (.slot d) = some ai ∧ ai.len = A.rows.length ∧ ai.gen = A.gen ∧ c = .slice ai.A ai.len ai.cap ∧ (A.rows ≠ [] → ∃ ad, ai.A = some ad ∧ ad.spot = none) ∧ ai.len ≤ ai.cap)
    (h : newArr kd d A ac = .ok ac') : ∃ g', Step kd (some d) g ac w ac' c w' g' := by
  obtain ⟨g', t1, hs⟩ := newArr_core (w' := w') (c := c) (T := fun g' => Tr g w g' w') hw hne (fun g0 S0 hor w0 hn hl => by
    rcases hor with e | e
    · rw [e] at w0 hn ⊢
      exact mk g S0 w0 rfl hn hl
    · rw [e] at w0 hn ⊢
      obtain ⟨g', w1, x1, t1, r⟩ := mk _ S0 w0 rfl hn hl
      exact ⟨g', w1, x1, (Tr.kill g w d).trans t1, r⟩) h
  exact ⟨g', hs g ac w rfl rfl (Ext.refl g) t1⟩
/-- The rows that are appended. -/
theorem srcRows_ok (hw : WR g S w) {tx : TypeId} (hk : (∃ e', P.underlying tx = some (.slice e')) ∨ P.underlying tx = some .string) {sz : Nat} {p : PV} {c : Value} (h : VR g p c) {rows : List (List PV)} (hs : srcRows S sz p = some rows) :
    ∃ news, Src P sz tx c rows.length news w ∧ (∀ r ∈ rows, r.length = sz) ∧ ∀ i j row v, rows[i]? = some row → row[j]? = some v → ∃ u, news[i * sz + j]? = some u ∧ FR g.fz v u := by
  have viaSeen : ∀ z full, view S p = some (z, rows, full) → z = sz → ∃ news, Src P sz tx c rows.length news w ∧ (∀ r ∈ rows, r.length = sz) ∧ ∀ i j row v, rows[i]? = some row → row[j]? = some v → ∃ u, news[i * sz + j]? = some u ∧ FR g.fz v u := by
    intro z full hv hz
    subst hz
    obtain ⟨A, cap, cs, rfl, se⟩ := seen hw h hv
    cases A with
    | none =>
      have : rows = [] := by
        cases rows with
        | nil => rfl
        | cons r rows =>
          obtain ⟨ad, h1, _⟩ := se.addr (by simp)
          cases h1
      subst this
      exact ⟨[], ⟨hk, fun _ => rfl, run_firstCells_none w z 0 0 cap, run_firstCells_none w.drew z 0 0 cap, by simp, fun _ h => by cases h⟩, (fun r hr => by cases hr), fun i j row v hi => by simp at hi⟩
    | some ad =>
      let news : List Value := (List.range (rows.length * z)).map fun q => cs (q / z) (q % z)
      have hnl : news.length = rows.length * z := by simp [news]
      have hq : ∀ q, q < rows.length * z → ∃ row v, rows[q / z]? = some row ∧ row[q % z]? = some v ∧ q / z * z + q % z = q := by
        intro q hq
        have hz : 0 < z := by
          rcases Nat.eq_zero_or_pos z with h0 | h0
          · rw [h0] at hq; simp at hq
          · exact h0
        have h1 : q / z < rows.length := (Nat.div_lt_iff_lt_mul hz).2 hq
        have h2 := se.each _ (List.getElem_mem h1)
        have h3 : q % z < (rows[q / z]).length := by rw [h2]; exact Nat.mod_lt _ hz
        refine ⟨_, _, List.getElem?_eq_getElem h1, List.getElem?_eq_getElem h3, ?_⟩
        have := Nat.div_add_mod q z
        rw [Nat.mul_comm] at this
        exact this
      have hnews : ∀ j u, news[j]? = some u → w.cell? (ad.add j) = some u := by
        intro j u hj
        have hlt : j < rows.length * z := by rw [← hnl]; exact (List.getElem?_eq_some_iff.1 hj).1
        simp only [news, List.getElem?_map, List.getElem?_range hlt, Option.map_some, Option.some.injEq] at hj
        subst hj
        obtain ⟨row, v, q1, q2, q3⟩ := hq j hlt
        obtain ⟨ad', e1, hsp⟩ := se.addr (fun e => by rw [e] at hlt; simp at hlt)
        obtain rfl := Option.some.inj e1
        have := se.cell ad (j / z) (j % z) row v rfl q1 q2
        rw [q3] at this
        rw [add_off hsp]
        exact this
      have h1 : ∀ u ∈ news, u.oneCell' = true := by
        intro u hu
        obtain ⟨q, hq', rfl⟩ := List.mem_map.1 hu
        obtain ⟨row, v, q1, q2, _⟩ := hq q (by simpa using hq')
        exact (se.fr _ _ row v q1 q2).oneCell
      refine ⟨news, ⟨hk, fun _ => rfl, run_firstCells_some w z rows.length ad rows.length cap news hnl hnews, run_firstCells_some w.drew z rows.length ad rows.length cap news hnl (by simpa using hnews), hnl, h1⟩, se.each, fun i j row v hi hj => ?_⟩
      have hj' : j < z := by rw [← se.each row (List.mem_of_getElem? hi)]; exact (List.getElem?_eq_some_iff.1 hj).1
      have hlt := cell_pos (List.getElem?_eq_some_iff.1 hi).1 hj'
      refine ⟨cs i j, ?_, se.fr i j row v hi hj⟩
      simp only [news, List.getElem?_map, List.getElem?_range hlt, Option.map_some, Option.some.injEq]
      have e1 : (i * z + j) / z = i := by rw [Nat.mul_comm, Nat.mul_add_div (by omega), Nat.div_eq_of_lt hj', Nat.add_zero]
      have e2 : (i * z + j) % z = j := by rw [Nat.mul_comm, Nat.mul_add_mod, Nat.mod_eq_of_lt hj']
      rw [e1, e2]
  unfold srcRows at hs
  split at hs
  · rename_i s
    split at hs
    · rename_i h1
      subst h1
      obtain rfl := Option.some.inj hs
      obtain rfl := h.str_inv
      have hl : (s.map fun b => [PV.int .u8 b.toNat]).length = (⟨s.toArray⟩ : ByteArray).size := by rw [size_mk]; simp
      rw [hl]
      refine ⟨byteCells ⟨s.toArray⟩, ⟨hk, fun _ => rfl, firstCells_string _ w, firstCells_string _ w.drew, by rw [byteCells_length, Nat.mul_one], fun u hu => ?_⟩, fun r hr => ?_, fun i j row v hi hj => ?_⟩
      · obtain ⟨_, _, rfl⟩ := List.mem_map.1 hu
        rfl
      · obtain ⟨_, _, rfl⟩ := List.mem_map.1 hr
        rfl
      · rw [List.getElem?_map, Option.map_eq_some_iff] at hi
        obtain ⟨b, hb, rfl⟩ := hi
        cases j with
        | zero =>
          simp at hj
          subst hj
          refine ⟨.int .u8 b.toNat, ?_, .int _ _⟩
          simp [byteCells, hb]
        | succ j => simp at hj
    · cases hs
  · rename_i z
    obtain rfl := Option.some.inj hs
    cases h with | data _ _ h => cases h with | nils _ A =>
    refine ⟨[], ⟨hk, fun _ => rfl, ?_, ?_, by simp, fun _ h => by cases h⟩, (fun r hr => by cases hr), fun i j row v hi => by simp at hi⟩
    · cases A with
      | none => exact run_firstCells_none w sz 0 0 0
      | some ad => exact run_firstCells_some w sz 0 ad 0 0 [] (by simp) (by simp)
    · cases A with
      | none => exact run_firstCells_none w.drew sz 0 0 0
      | some ad => exact run_firstCells_some w.drew sz 0 ad 0 0 [] (by simp) (by simp)
  · split at hs
    · rename_i z rows' full hv
      split at hs
      · rename_i hz
        obtain rfl := Option.some.inj hs
        exact viaSeen z full hv hz
      · cases hs
    · cases hs
end
end Go.Proofs.Ytebflncfgjnkkaa.M
