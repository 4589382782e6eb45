/- THE ABSTRACT MACHINE, twenty-first part: the operations that make, and write: each does what the machine does. -/
import Derived.Test.YtebflncfgjnkkaaMa20
namespace Go.Proofs.Ytebflncfgjnkkaa.M
set_option linter.unusedSimpArgs false
set_option linter.unusedVariables false
open Go
section
variable {g g' : Gh} {S S' : Sto} {w w' : World} {P : Program}
theorem append_ok {ac ac' : Ac} (hw : WR g ac.S w) (hne : 0 < ac.S.length) {kd : Bool} {d : Nat} {t tx ty e : TypeId} (ht : P.underlying t = some (.slice e)) (hk : (∃ e', P.underlying tx = some (.slice e')) ∨ P.underlying tx = some .string) {zs : List PV} (hz : cZ P e = some zs)
    {x y : PV} {b c : Value} (hx : VR g x b) (hy : VR g y c) (h : appendP kd d (P.cellsOf e) (P.bytesOf e) x y ac = .ok ac') : ∃ u w' g', (Builtin.append_ #[t, tx] ty #[b, c]).run P w = .ok u w' ∧ Step kd (some d) g ac w ac' u w' g' := by
  obtain ⟨i, z, hi, hz', hzs, _, _⟩ := cZ_ok (g := g) hz
  have e1 : P.cellsOf e = i.size := cellsOf_info hi
  have e2 : P.bytesOf e = i.bytes := by simp [Program.bytesOf, hi]
  rw [e1] at hzs
  rw [e1, e2] at h
  unfold appendP at h
  split at h
  · cases h
  · rename_i src hsrc
    obtain ⟨news, hs, hse, hnf⟩ := srcRows_ok hw hk hy hsrc
    split at h
    · rename_i z0
      split at h
      · rename_i hb
        cases hx with | data _ _ hx => cases hx with | nils _ A =>
        exact append_base hw hne (rows := []) (base := A) (cs := fun _ _ => undef) (frz := false) ht hi hz' hzs (by simpa using hb) (fun r hr => by cases hr) (fun h => absurd rfl h) (fun _ k _ _ _ _ h => by simp at h) (fun k _ _ _ h => by simp at h) (.inr rfl) hs hse hnf h
      · cases h
    · rename_i z0 rows
      split at h
      · rename_i hb
        obtain ⟨hz0, hb⟩ := hb
        subst hz0
        cases hx with | data _ _ hx => cases hx with | list _ _ _ A cap cs hl hf hs' hA hc hv =>
        obtain rfl := hf rfl
        exact append_base hw hne (rows := rows) (base := A) (cs := cs) (frz := true) ht hi hz' hzs hb hs' hA hc hv (.inl rfl) hs hse hnf h
      · cases h
    · rename_i n k off len ver gen full
      split at h
      · cases h
      · rename_i R hR
        split at h
        · rename_i hcur
          obtain ⟨hg1, hg2, hg3, hb⟩ := hcur
          cases hx with
          | data _ _ hx => cases hx
          | sl _ _ _ _ _ _ _ ai _ hai hle h1c hsl =>
            obtain ⟨R', hR', hr⟩ := hw.arr n k ai hai
            obtain rfl : R = R' := Option.some.inj (hR.symm.trans hR')
            obtain ⟨A, cap, rfl, sa⟩ := hsl (hr.gen.trans hg1) (hr.len.trans hg2)
            split at h
            · rename_i hfull
              subst hfull
              obtain ⟨g1, w1, x1, t1, a1, hc1⟩ := hw.freeze hR hai
              have hcap := sa.whole rfl
              subst hcap
              have hfit : off + cap ≤ R.rows.length := by rw [← hr.len]; exact sa.fits
              have hlen : ((R.rows.drop off).take cap).length = cap := by rw [List.length_take, List.length_drop]; omega
              have hget : ∀ p row, ((R.rows.drop off).take cap)[p]? = some row → R.rows[off + p]? = some row ∧ p < cap := by
                intro p row hp
                rw [List.getElem?_take] at hp
                split at hp
                · rename_i hlt
                  rw [List.getElem?_drop] at hp
                  exact ⟨hp, hlt⟩
                · cases hp
              have haddr : 0 < cap → ∃ ad, ai.A = some ad ∧ ad.spot = none ∧ A = some ⟨ad.block, ad.off + off * R.sz, none⟩ := by
                intro hp
                obtain ⟨ad, q1, q2, q3⟩ := sa.pos hp
                exact ⟨ad, q1, q2, by rw [q3, hr.sz]⟩
              have hnf1 : ∀ p j row v, src[p]? = some row → row[j]? = some v → ∃ u, news[p * i.size + j]? = some u ∧ FR g1.fz v u := fun p j row v h1 h2 => by
                obtain ⟨u, q1, q2⟩ := hnf p j row v h1 h2
                exact ⟨u, q1, q2.mono x1.fz⟩
              have := append_base (g := g1) (w := w) (P := P) (ty := ty) (tx := tx) w1 (by rw [setArr_length]; exact hne) (rows := (R.rows.drop off).take cap) (base := A) (frz := true) (cs := fun p j => match ai.A with | some ad => (g1.fz ad.block (ad.off + ((off + p) * R.sz + j))).getD undef | none => undef) ht hi hz' hzs (by rw [hlen]; exact hb) (fun r hr' => by rw [← hg3]; exact hr.each r (List.mem_of_mem_drop (List.mem_of_mem_take hr')))
                (fun hne' => by
                  have hp : 0 < cap := by
                    rcases Nat.eq_zero_or_pos cap with h0 | h0
                    · subst h0; simp at hne'
                    · exact h0
                  obtain ⟨ad, _, _, q3⟩ := haddr hp
                  exact ⟨_, q3, rfl⟩)
                (fun ad p j row v had hp hj => by
                  obtain ⟨hp', hlt⟩ := hget p row hp
                  obtain ⟨ad', q1, q2, q3⟩ := haddr (by omega)
                  rw [had] at q3
                  obtain rfl := Option.some.inj q3
                  obtain ⟨u, u1, _⟩ := hc1 ad' (off + p) j row v q1 hp' hj
                  simp only [q1]
                  rw [u1, ← hg3]
                  rw [show ad'.off + off * R.sz + (p * R.sz + j) = ad'.off + ((off + p) * R.sz + j) by rw [Nat.add_mul]; omega]
                  exact u1)
                (fun p j row v hp hj => by
                  obtain ⟨hp', hlt⟩ := hget p row hp
                  obtain ⟨ad', q1, q2, q3⟩ := haddr (by omega)
                  obtain ⟨u, u1, u2⟩ := hc1 ad' (off + p) j row v q1 hp' hj
                  simp only [q1]
                  rw [u1]
                  exact u2) (.inl rfl) hs hse hnf1 (t := t) h
              rw [hlen] at this
              obtain ⟨u, w2, g2, hrun, hst⟩ := this
              exact ⟨u, w2, g2, hrun, hst.behind x1 t1 rfl (setArr_length _ _ _ _)⟩
            · rename_i hfull
              have hff : full = false := by simpa using hfull
              subst hff
              split at h
              · rename_i hc
                obtain ⟨rfl, rfl, _⟩ := hc
                cases h
                have hcap := sa.open_ rfl (by rw [hr.len, hg2]) rfl
                have hA := sa.zero rfl
                subst hA hcap
                subst hg1 hg2
                have := append_open (kd := kd) (d := d) (ty := ty) hw ht hi hz' hzs hR hai hg3 hb hs hse hnf rfl
                rw [hr.len] at this
                exact this
              · cases h
        · cases h
    · cases h
/-- A literal's rows. -/
def Rows (g : Gh) (sz : Nat) (rows : List (List PV)) (cells : Array Value) : Prop := cells.size = rows.length * sz ∧ (∀ r ∈ rows, r.length = sz) ∧ ∀ i j row v, rows[i]? = some row → row[j]? = some v → FR g.fz v (cells.getD (i * sz + j) undef)
theorem allPure_FR {vs : List PV} {f : Nat → Value} (hp : allPure vs = true) (h : ∀ i v, vs[i]? = some v → VR g v (f i)) : ∀ i v, vs[i]? = some v → FR g.fz v (f i) := fun i v hi => (h i v hi).pure_FR (List.all_eq_true.1 hp v (List.mem_of_getElem? hi))
theorem Rows.mono {sz : Nat} {rows : List (List PV)} {cells : Array Value} (hx : Ext g g') (h : Rows g sz rows cells) : Rows g' sz rows cells := ⟨h.1, h.2.1, fun i j row v hi hj => (h.2.2 i j row v hi hj).mono hx.fz⟩
theorem rows_fill {e : TypeId} : ∀ (parts : List (Nat × Operand)) (ps : List (Nat × X)) (rows rows' : List (List PV)) (S S' : Sto) (g : Gh) (cells : Array Value) (ac : Ac) (a : Act), cRows P e parts = some ps → WR g S w → (∀ t, VR g (ac.e t) (a.eval (.tmp t))) → Rows g (P.cellsOf e) rows cells → rowsP S ac.ev (P.cellsOf e) rows ps = some (rows', S') →
    ∃ g' cells', WR g' S' w ∧ Ext g g' ∧ Tr g w g' w ∧ Rows g' (P.cellsOf e) rows' cells' ∧ Instr.fill (fun i => some (i * P.cellsOf e, P.cellsOf e)) cells (parts.map fun (i, x) => (i, a.eval x)) = some cells' ∧ S'.length = S.length ∧ rows'.length = rows.length
  | [], ps, rows, rows', S, S', g, cells, ac, a, hc, hw, he, hr, h => by
    simp only [cRows, Option.some.injEq] at hc
    subst hc
    simp only [rowsP, Option.some.injEq, Prod.mk.injEq] at h
    obtain ⟨rfl, rfl⟩ := h
    exact ⟨g, cells, hw, Ext.refl _, Tr.refl _ _, hr, rfl, rfl, rfl⟩
  | (i, x) :: r, ps, rows, rows', S, S', g, cells, ac, a, hc, hw, he, hr, h => by
    simp only [cRows] at hc
    split at hc
    · rename_i x' r' hx hr'
      obtain rfl := Option.some.inj hc
      simp only [rowsP] at h
      split at h
      · rename_i vs S1 hh
        split at h
        · rename_i hcnd
          obtain ⟨h1, h2, h3⟩ := hcnd
          have hev : VR g (ac.ev x') (a.eval x) := Rel.ev (P := P) (w := w) (ac := { ac with S := S }) ⟨hw, he⟩ hx
          have hone : (ac.ev x').one = true ∨ ∃ vs, ac.ev x' = .agg vs := by
            cases hq : ac.ev x' <;> first | exact .inl rfl | exact .inr ⟨_, rfl⟩ | skip
            all_goals
              rw [hq] at hh
              simp only [PV.cells, handL, hand1, Option.some.injEq, Prod.mk.injEq] at hh
              obtain ⟨rfl, _⟩ := hh
              simp [allPure, PV.pure] at h2
          have hcl := hev.cells_ hone
          obtain ⟨g1, w1, x1, t1, l1, r1⟩ := handL_ok (ac.ev x').cells vs S S1 g (fun i => (a.eval x).cells.getD i Go.undef) hw hcl.2 hh
          have hfr := allPure_FR h2 r1
          have hsz : (a.eval x).cells.size = P.cellsOf e := by rw [← hcl.1, ← l1, h1]
          obtain ⟨f1, f2⟩ := fold_set cells (a.eval x).cells (i * P.cellsOf e)
          have hfit : (i + 1) * P.cellsOf e ≤ rows.length * P.cellsOf e := Nat.mul_le_mul_right _ h3
          rw [Nat.add_mul, Nat.one_mul] at hfit
          have hrows : Rows g1 (P.cellsOf e) (rows.set i vs) ((a.eval x).cells.zipIdx.foldl (fun cs (c, j) => cs.setIfInBounds (i * P.cellsOf e + j) c) cells) := by
            refine ⟨by rw [f1, hr.1]; simp, fun r' hr'' => ?_, fun p j row v hp hj => ?_⟩
            · rcases List.mem_or_eq_of_mem_set hr'' with h | h
              · exact hr.2.1 r' h
              · rw [h]; exact h1
            · rw [Array.getD_eq_getD_getElem?, f2 _ (by rw [hr.1]; omega)]
              by_cases ep : p = i
              · subst ep
                rw [List.getElem?_set_self h3] at hp
                obtain rfl := Option.some.inj hp
                have hj' := (List.getElem?_eq_some_iff.1 hj).1
                rw [if_pos ⟨by omega, by omega⟩]
                have := hfr j v hj
                rw [Array.getD_eq_getD_getElem?] at this
                rwa [show p * P.cellsOf e + j - p * P.cellsOf e = j by omega]
              · rw [List.getElem?_set_ne (Ne.symm ep)] at hp
                have hj' : j < P.cellsOf e := by rw [← hr.2.1 row (List.mem_of_getElem? hp)]; exact (List.getElem?_eq_some_iff.1 hj).1
                have := hr.2.2 p j row v hp hj
                rw [Array.getD_eq_getD_getElem?] at this
                rw [if_neg]
                · exact this.mono x1.fz
                · intro hh
                  rcases Nat.lt_or_ge p i with h | h
                  · have : (p + 1) * P.cellsOf e ≤ i * P.cellsOf e := Nat.mul_le_mul_right _ h
                    rw [Nat.add_mul, Nat.one_mul] at this
                    omega
                  · have h' : i + 1 ≤ p := by omega
                    have : (i + 1) * P.cellsOf e ≤ p * P.cellsOf e := Nat.mul_le_mul_right _ h'
                    rw [Nat.add_mul, Nat.one_mul] at this
                    omega
          obtain ⟨g2, cells', w2, x2, t2, r2, q2, l2, l3⟩ := rows_fill r r' _ rows' S1 S' g1 _ ac a hr' w1 (fun t => (he t).mono x1) hrows h
          refine ⟨g2, cells', w2, x1.trans x2, t1.trans t2, r2, ?_, l2.trans (handL_length _ _ _ _ hh), l3.trans (by simp)⟩
          simp only [List.map_cons, Instr.fill]
          rw [if_neg (by simp [hsz, hr.1]; omega)]
          exact q2
        · cases h
      · cases h
    · cases hc
end
end Go.Proofs.Ytebflncfgjnkkaa.M
