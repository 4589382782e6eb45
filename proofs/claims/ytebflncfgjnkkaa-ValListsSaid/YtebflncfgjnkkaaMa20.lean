/- THE ABSTRACT MACHINE, twentieth part: append, all of its ways. -/
import Derived.Test.YtebflncfgjnkkaaMa19
namespace Go.Proofs.Ytebflncfgjnkkaa.M
set_option linter.unusedSimpArgs false
set_option linter.unusedVariables false
open Go
section
variable {g g' : Gh} {S S' : Sto} {w w' : World} {P : Program}
/-- A step behind a step that leaves the world. -/
theorem Step.behind {kd : Bool} {d : Option Nat} {g1 : Gh} {ac ac1 ac' : Ac} {c : Value} (h : Step kd d g1 ac1 w ac' c w' g') (hx : Ext g g1) (ht : Tr g w g1 w) (he : ac1.e = ac.e) (hl : ac1.S.length = ac.S.length) : Step kd d g ac w ac' c w' g' :=
  ⟨h.wr, ht.trans h.tr, h.dst, fun t htd u hu => h.env t htd u (by rw [he]; exact hu.mono hx), fun hk => ⟨hx.toExw.trans (h.ext hk).1, fun t htd => by rw [(h.ext hk).2.1 t htd, he], fun t htd hb => (h.ext hk).2.2 t htd (hx.nam 0 t hb)⟩, h.len.trans hl⟩
/-- A row that is in use grows. -/
theorem append_open {ac ac' : Ac} (hw : WR g ac.S w) {kd : Bool} {d : Nat} {t tx ty e : TypeId} {i : TypeInfo} {z : Value} (ht : P.underlying t = some (.slice e)) (hi : P.info? e = some i) (hz : i.zero = some z) (hzs : z.cells.size = i.size)
    {n : Nat} {k : AK} {R : Arr} (hR : getArr ac.S n k = some R) {ai : AI} (hai : g.a n k = some ai) (hsz : R.sz = i.size) {src : List (List PV)} (hb : bigRow (R.rows.length + src.length) i.bytes) {x : Value} {news : List Value} (hs : Src P i.size tx x src.length news w) (hse : ∀ r ∈ src, r.length = i.size)
    (hnf : ∀ k j row v, src[k]? = some row → row[j]? = some v → ∃ u, news[k * i.size + j]? = some u ∧ FR g.fz v u)
    (h : ac' = ⟨upd ac.e d (.sl n k 0 (R.rows.length + src.length) (R.rows.length + src.length) R.gen false), setArr ac.S n k { R with rows := R.rows ++ src }⟩) :
    ∃ c w' g', (Builtin.append_ #[t, tx] ty #[.slice ai.A ai.len ai.cap, x]).run P w = .ok c w' ∧ Step kd (some d) g ac w ac' c w' g' := by
  subst h
  obtain ⟨R', hR', hr⟩ := hw.arr n k ai hai
  obtain rfl : R = R' := Option.some.inj (hR.symm.trans hR')
  have hn := getArr_lt hR
  have hlen := hr.len
  have step : ∀ c w' g', WR g' (setArr ac.S n k { R with rows := R.rows ++ src }) w' → Ext g g' → Tr g w g' w' → VR g' (.sl n k 0 (R.rows.length + src.length) (R.rows.length + src.length) R.gen false) c →
      Step kd (some d) g ac w ⟨upd ac.e d (.sl n k 0 (R.rows.length + src.length) (R.rows.length + src.length) R.gen false), setArr ac.S n k { R with rows := R.rows ++ src }⟩ c w' g' := by
    intro c w' g' h1 h2 h3 h4
    refine ⟨h1, h3, fun t ht => ?_, fun t ht u hu => ?_, fun _ => ⟨h2.toExw, fun t ht => ?_, fun t _ hb => h2.nam 0 t hb⟩, setArr_length _ _ _ _⟩
    · obtain rfl := Option.some.inj ht
      simp only [upd, if_true]
      exact h4
    · have : t ≠ d := fun e => ht (by rw [e])
      simp only [upd, if_neg this]
      exact hu.mono h2
    · have : t ≠ d := fun e => ht (by rw [e])
      simp only [upd, if_neg this]
  have slat : ∀ (ai' : AI) (hlen' : ai'.len = R.rows.length + src.length) (hle : ai'.len ≤ ai'.cap) (ha : R.rows ++ src ≠ [] → ∃ ad, ai'.A = some ad ∧ ad.spot = none), SlAt ai' 0 (R.rows.length + src.length) false ai'.A ai'.cap := by
    intro ai' h1 h2 h3
    refine ⟨by omega, by omega, fun _ => rfl, fun hp => ?_, (fun h => by cases h), fun _ _ _ => rfl⟩
    obtain ⟨ad, q1, q2⟩ := h3 (fun e => by
      have := congrArg List.length e
      rw [List.length_append] at this
      simp only [List.length_nil] at this
      omega)
    refine ⟨ad, q1, q2, ?_⟩
    obtain ⟨b, o, s⟩ := ad
    simp only at q2
    subst q2
    simpa using q1
  rcases Nat.eq_zero_or_pos src.length with h0 | h0
  · have hsrc : src = [] := List.eq_nil_of_length_eq_zero h0
    subst hsrc
    have hrun := append_zero (ty := ty) (base := ai.A) (len := ai.len) (cap := ai.cap) ht hi hr.cap hs
    refine ⟨_, w, g, hrun, step _ _ _ ?_ (Ext.refl _) (Tr.refl _ _) ?_⟩
    · refine hw.congr (fun m t b _ => getBox_setArr _ _ _ _ _ _) (fun m j ai0 _ => ?_)
      rw [getArr_set]
      split
      · rename_i e
        obtain ⟨rfl, rfl, _⟩ := e
        rw [hR, List.append_nil]
      · rfl
    · refine .sl _ _ _ _ _ _ _ ai _ hai (.inr ⟨hr.gen.symm, by rw [hlen]; exact Nat.le_refl _⟩) rfl (fun _ _ => ⟨ai.A, ai.cap, by rw [hlen]; rfl, slat ai (by rw [hlen]; rfl) hr.cap (fun hne => hr.addr (by simpa using hne))⟩)
  · rcases Nat.lt_or_ge ai.cap (ai.len + src.length) with hg | hroom
    · -- a new block
      obtain ⟨cs, c1, c2⟩ := hr.cells
      obtain ⟨cells, cap', cs', hrun, q1, q2, q3, q4⟩ := append_grow (g := g) (ty := ty) (base := ai.A) (len := ai.len) (cap := ai.cap) (rows := R.rows) (cs := cs) ht hi hz hzs hlen.symm (by rw [hlen]; exact hb) hg (fun r hr' => by rw [← hsz]; exact hr.each r hr') hr.addr
        (fun ad k' j row v h1 h2 h3 => by have := (c2 ad k' j row v h1 h2 h3).1; rwa [hsz] at this) c1 hs hse hnf
      obtain ⟨g', w1, x1, t1, a1⟩ := growRow hw (n := n) (k := k) (A := { R with rows := R.rows ++ src }) e (by rw [hsz]; exact q1) (fun r hr' => by rw [hsz]; exact q3 r hr') q2 (cs := cs') (fun k' j row v h1 h2 => by have := q4 k' j row v h1 h2; simpa only [hsz] using this) hn (fun ai0 h0' => by
        rw [hai] at h0'
        obtain rfl := Option.some.inj h0'
        right; left
        refine ⟨hr.gen, ?_⟩
        simp only [List.length_append]
        omega) (nm_some hai)
      refine ⟨_, _, g', hrun, step _ _ _ w1 x1 t1 ?_⟩
      refine .sl _ _ _ _ _ _ _ _ _ a1 (.inr ⟨rfl, by simp⟩) rfl (fun _ _ => ⟨_, _, by rw [List.length_append], slat _ (by simp) (by simpa using q2) (fun _ => ⟨_, rfl, rfl⟩)⟩)
    · -- there is room
      have hblk : ∃ b, ai.blk = some b := by
        cases hbk : ai.blk with
        | some b => exact ⟨b, rfl⟩
        | none => have := (hr.free hbk).1; omega
      obtain ⟨b, hbk⟩ := hblk
      obtain ⟨hA, ⟨cells, elem, hc1, hc2⟩, hc3, hc4⟩ := hr.own b hbk
      have hnl := hs.newsLen
      have hmul : (ai.len + src.length) * i.size ≤ ai.cap * i.size := Nat.mul_le_mul_right _ hroom
      rw [Nat.add_mul] at hmul
      have hth : w.there b (0 + ai.len * i.size) news.length := there_of hc1 (by rw [hc2, hsz]; omega)
      have hrun := run_append_room_src w t tx ty e i ht hi b 0 ai.len ai.cap x src.length news hs hroom (fun j hj => (hth j hj).1) (fun j hj => (hth j hj).2)
      obtain ⟨cs', s1, s2, s3⟩ := setCells_heap b news (0 + ai.len * i.size) w cells elem _ hc1
      obtain ⟨r1, r2, r3, r4⟩ := setCells_rest b news (0 + ai.len * i.size) w
      let w1 := w.setCells b (0 + ai.len * i.size) news
      have hown : g.own (.arr n k) = some b := by simp [Gh.own, hai, hbk]
      have hcell : ∀ o, w1.cell? ⟨b, o, none⟩ = cs'[o]? := by
        intro o
        simp only [World.cell?, w1, s1]
        rfl
      have hsame : ∀ o, o < ai.len * i.size → w1.cell? ⟨b, o, none⟩ = w.cell? ⟨b, o, none⟩ := by
        intro o ho
        rw [hcell, s3, if_neg (by omega)]
        simp [World.cell?, hc1]
      have hfz : ∀ b' o v, g.fz b' o = some v → w1.cell? ⟨b', o, none⟩ = some v := by
        intro b' o v hf
        by_cases e : b' = b
        · subst e
          have : o < ai.len * i.size := by
            rcases Nat.lt_or_ge o (ai.len * i.size) with h | h
            · exact h
            · have := hc3 o (by rw [hsz]; exact h)
              rw [this] at hf
              cases hf
          rw [hsame o this]
          exact hw.fz _ _ _ hf
        · have := hw.fz b' o v hf
          unfold World.cell? at this ⊢
          simp only [w1]
          rw [setCells_other b _ _ w b' e]
          exact this
      let φ : Fz := frzFz g.fz w1 b 0 (if R.frz = true then (ai.len + src.length) * i.size else 0)
      have hsub : ∀ b' o v, g.fz b' o = some v → φ b' o = some v := frzFz_sub hfz
      let ai' : AI := { ai with len := ai.len + src.length }
      let R' : Arr := { R with rows := R.rows ++ src }
      obtain ⟨cs, c1, c2⟩ := hr.cells
      let cs2 : Nat → Nat → Value := fun p j => if p < ai.len then cs p j else (news[(p - ai.len) * i.size + j]?).getD undef
      have hget : ∀ p j row v, (R.rows ++ src)[p]? = some row → row[j]? = some v → w1.cell? ⟨b, p * i.size + j, none⟩ = some (cs2 p j) ∧ FR g.fz v (cs2 p j) ∧ p < ai.len + src.length ∧ j < i.size := by
        intro p j row v hp hj
        simp only [cs2]
        rcases Nat.lt_or_ge p ai.len with hlt | hge
        · rw [if_pos hlt]
          rw [List.getElem?_append_left (by omega)] at hp
          have hj' : j < i.size := by rw [← hsz, ← hr.each row (List.mem_of_getElem? hp)]; exact (List.getElem?_eq_some_iff.1 hj).1
          have hcp := cell_pos hlt hj'
          have := (c2 _ p j row v hA hp hj).1
          simp only [Nat.zero_add, hsz] at this
          exact ⟨by rw [hsame _ hcp]; exact this, c1 p j row v hp hj, by omega, hj'⟩
        · rw [if_neg (by omega)]
          rw [List.getElem?_append_right (by omega)] at hp
          rw [← hlen] at hp
          obtain ⟨u, h1, h2⟩ := hnf (p - ai.len) j row v hp hj
          have hlt := (List.getElem?_eq_some_iff.1 h1).1
          have hp' := (List.getElem?_eq_some_iff.1 hp).1
          have hj' : j < i.size := by rw [← hse row (List.mem_of_getElem? hp)]; exact (List.getElem?_eq_some_iff.1 hj).1
          have e1 : p * i.size = ai.len * i.size + (p - ai.len) * i.size := by rw [← Nat.add_mul]; congr 1; omega
          refine ⟨?_, by rw [h1]; exact h2, by omega, hj'⟩
          rw [hcell, s3, if_pos ⟨by omega, by omega, by rw [hc2, hsz]; omega⟩]
          have : p * i.size + j - (0 + ai.len * i.size) = (p - ai.len) * i.size + j := by omega
          rw [this, h1]
          rfl
      have hrel : ArrRel ⟨g.b, g.a, φ⟩ w1 R' ai' := by
        refine ⟨hr.sz, by simp [ai', R', hlen], hr.gen, fun r hr' => ?_, hroom, fun _ => ⟨_, hA, rfl⟩, ⟨cs2, fun p j row v hp hj => (hget p j row v hp hj).2.1.mono hsub, fun ad p j row v had hp hj => ?_⟩, fun b' hb' => ?_, fun hb' => by simp only [ai'] at hb'; rw [hbk] at hb'; cases hb'⟩
        · rcases List.mem_append.1 hr' with h | h
          · exact hr.each r h
          · rw [hse r h]; exact hsz.symm
        · simp only [ai'] at had
          rw [hA] at had
          obtain rfl := Option.some.inj had
          obtain ⟨q1, q2, q3, q4⟩ := hget p j row v hp hj
          simp only [R', hsz, Nat.zero_add]
          refine ⟨q1, fun hf => ?_⟩
          have := cell_pos q3 q4
          simp only [φ, frzFz, hf, if_true]
          rw [if_pos ⟨trivial, by omega, this⟩]
          exact q1
        · simp only [ai'] at hb'
          rw [hbk] at hb'
          obtain rfl := Option.some.inj hb'
          refine ⟨hA, ⟨cs', elem, s1, by rw [s2]; exact hc2⟩, fun o ho => ?_, fun hf o => ?_⟩
          · simp only [ai', R', hsz] at ho
            rw [Nat.add_mul] at ho
            simp only [φ, frzFz]
            rw [if_neg]
            · exact hc3 o (by rw [hsz]; omega)
            · rintro ⟨_, _, h⟩
              split at h
              · rw [Nat.add_mul] at h; omega
              · omega
          · simp only [R'] at hf
            simp only [φ, frzFz, hf, Bool.false_eq_true, if_false]
            rw [if_neg (by omega)]
            exact hc4 hf o
      obtain ⟨p1, p2⟩ := hw.put (w' := w1) (S' := setArr ac.S n k R') (n := n) (k := k) (ai := ai') (φ := φ) (frzFz_holds hfz) hsub (fun x' b' hne hx => ⟨setCells_other b _ _ w b' (fun e => by subst e; exact hne (hw.inj x' (.arr n k) _ hx hown)), fun o => by
        simp only [φ, frzFz]
        rw [if_neg]
        rintro ⟨rfl, _⟩
        exact hne (hw.inj x' (.arr n k) _ hx hown)⟩) hrel (fun b' hb' x' hne hx => by
          simp only [ai'] at hb'
          rw [hbk] at hb'
          obtain rfl := Option.some.inj hb'
          exact hne (hw.inj x' (.arr n k) _ hx hown)) (fun ai0 h0' => by
          rw [hai] at h0'
          obtain rfl := Option.some.inj h0'
          right; left
          exact ⟨rfl, by simp only [ai']; omega⟩) (nm_some hai) (by rw [getArr_set, if_pos ⟨rfl, rfl, hn⟩]) (fun m t b _ => getBox_setArr _ _ _ _ _ _) (fun m j _ hne _ => by rw [getArr_set, if_neg (fun e => hne ⟨e.1, e.2.1⟩)])
      have t1 := tr_put p2 r1 r2 r3 (Nat.le_of_eq r4.symm) (fun j _ hne => setCells_other b _ _ w j (fun e => by subst e; exact hne _ hown)) (fun b' hb' => .inl (by
        simp only [ai'] at hb'
        rw [hbk] at hb'
        obtain rfl := Option.some.inj hb'
        exact hown))
      refine ⟨_, w1, _, by rw [hA]; exact hrun, step _ _ _ p1 p2 t1 ?_⟩
      have ha' : (g.put n k ai' φ).a n k = some ai' := by simp [Gh.put]
      refine .sl _ _ _ _ _ _ _ ai' _ ha' (.inr ⟨hr.gen.symm, by simp only [ai']; omega⟩) rfl (fun _ _ => ⟨ai'.A, ai'.cap, by simp only [ai', hA, hlen], slat ai' (by simp only [ai', hlen]) hroom (fun _ => ⟨_, hA, rfl⟩)⟩)
end
end Go.Proofs.Ytebflncfgjnkkaa.M
