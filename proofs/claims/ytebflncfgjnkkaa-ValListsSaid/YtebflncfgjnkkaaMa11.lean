/- THE ABSTRACT MACHINE, eleventh part: literals of structs, comparisons of structs, texts' bytes; and all of the value operations at once. -/
import Derived.Test.YtebflncfgjnkkaaMa10
namespace Go.Proofs.Ytebflncfgjnkkaa.M
set_option linter.unusedSimpArgs false
set_option linter.unusedVariables false
open Go
section
variable {g : Gh} {S : Sto} {w : World} {P : Program}
theorem extract_mk (l : List UInt8) (a b : Nat) : (⟨l.toArray⟩ : ByteArray).extract a b = ⟨((l.drop a).take (b - a)).toArray⟩ := by
  apply ByteArray.ext
  simp
theorem sls_ok {t : TypeId} (ht : P.underlying t = some .string) {v u : PV} {c : Value} {lo hi : Option PV} {lo' hi' : Option Value} (hv : VR g v c) (hlo : OptR g lo lo') (hhi : OptR g hi hi') (h : slsP v lo hi = some u) :
    ∃ c', (Instr.sliceAt t c lo' hi' none).run P w = .ok c' w ∧ VR g u c' := by
  cases v <;> try (cases h; done)
  rename_i s
  obtain rfl := hv.str_inv
  simp only [slsP] at h
  split at h
  · rename_i a b h1 h2
    split at h
    · rename_i hab
      obtain rfl := Option.some.inj h
      refine ⟨_, ?_, .data _ _ (.str _)⟩
      have hb := bounds_ok (P := P) (w := w) hlo hhi (mx := none) (mx' := none) trivial h1 h2 (m := s.length) rfl hab.1 hab.2 (Nat.le_refl _) (Nat.le_refl _) (.inl rfl) false
      have : (Instr.sliceAt t (.string ⟨s.toArray⟩) lo' hi' none).run P w = (Instr.slice t (.string ⟨s.toArray⟩) lo' hi' none).run P w := by
        simp [Instr.sliceAt, run_underlying ht]
      rw [this]
      simp only [Instr.slice, Sem.run_bind, run_underlying ht, Result.andThen_ok, size_mk, Option.isSome_none, Bool.false_eq_true, if_false, hb]
      simp [extract_mk]
    · cases h
  · cases h
theorem istr_ok {t : TypeId} (ht : P.underlying t = some .string) {p q v : PV} {a b : Value} (ha : VR g p a) (hb : VR g q b) {s : List UInt8} {k : IntKind} {i : Int} (hp : p = .str s) (hq : q = .int k i) (h0 : 0 ≤ i) {c : UInt8} (hc : s[i.toNat]? = some c) (hv : v = .int .u8 c.toNat) :
    ∃ u, (Instr.index t a b).run P w = .ok u w ∧ VR g v u := by
  subst hp hq hv
  obtain rfl := ha.str_inv
  obtain rfl := hb.int_inv
  refine ⟨_, ?_, .data _ _ (.int _ _)⟩
  obtain ⟨hlt, hc'⟩ := List.getElem?_eq_some_iff.1 hc
  rw [run_index_string w t _ k i ht, dif_pos ⟨h0, by rw [size_mk]; omega⟩]
  have : (⟨s.toArray⟩ : ByteArray)[i.toNat]'(by rw [size_mk]; exact hlt) = c := by
    show s.toArray[i.toNat] = c
    simp [hc']
  rw [this]
/-! ### Structs' equality -/
theorem eqCells_ok : ∀ (fs : List Field) (ks : List FK) (i d : Nat) (ps qs : List PV) (xs ys : Array Value) (r : Bool), flatK P i fs = some ks → (∀ j v, ps[j]? = some v → VR g v (xs.getD (i + j) undef) ∧ i + j < xs.size) → (∀ j v, qs[j]? = some v → VR g v (ys.getD (i + j) undef) ∧ i + j < ys.size) →
    eqCells ks ps qs = some r → (Op.eqFields (d + 1) xs ys fs).run P w = .ok r w
  | [], ks, i, d, ps, qs, xs, ys, r, hf, _, _, h => by
    simp only [flatK, Option.some.injEq] at hf
    subst hf
    cases ps <;> cases qs <;> simp [eqCells] at h
    subst h
    simp [Op.eqFields]
  | f :: fs, ks, i, d, ps, qs, xs, ys, r, hf, hx, hy, h => by
    simp only [flatK] at hf
    split at hf
    · rename_i hof
      obtain ⟨ho, hn⟩ := hof
      split at hf
      · rename_i k ks' hk hks
        obtain rfl := Option.some.inj hf
        have hu : ∃ t, P.underlying f.type = some t ∧ t.isRow = false := by
          unfold fkOf at hk
          split at hk <;> first | (rename_i e; exact ⟨_, e, rfl⟩) | cases hk
        have hpart : ∀ (zs : Array Value), i < zs.size → (part f.type zs f.offset).run P w = .ok (zs.getD i undef) w := by
          intro zs hz
          obtain ⟨t, hu, hr⟩ := hu
          simp [part, Sem.run_bind, isAgg_plain hu hr, ho, hz]
        have step : ∀ p ps' q qs' (t r' : Bool), ps = p :: ps' → qs = q :: qs' → (∀ a b, VR g p a → VR g q b → (Op.equalIn (d + 1) f.type a b).run P w = .ok t w) → eqCells ks' ps' qs' = some r' → r = (t && r') → (Op.eqFields (d + 1) xs ys (f :: fs)).run P w = .ok r w := by
          intro p ps' q qs' t r' e1 e2 h1 h2 h3
          subst e1 e2
          obtain ⟨hx0, hxs⟩ := hx 0 p rfl
          obtain ⟨hy0, hys⟩ := hy 0 q rfl
          rw [Nat.add_zero] at hx0 hxs hy0 hys
          have ih := eqCells_ok fs ks' (i + 1) d ps' qs' xs ys r' hks (fun j v hj => by
            have := hx (j + 1) v (by simpa using hj)
            rwa [show i + (j + 1) = i + 1 + j by omega] at this) (fun j v hj => by
            have := hy (j + 1) v (by simpa using hj)
            rwa [show i + (j + 1) = i + 1 + j by omega] at this) h2
          simp only [Op.eqFields, if_pos hn, Sem.run_bind, hpart xs hxs, hpart ys hys, Result.andThen_ok, h1 _ _ hx0 hy0]
          cases t
          · simp [h3]
          · simp [h3, ih]
        unfold eqCells at h
        split at h
        · exact absurd ‹k :: ks' = []› (by simp)
        · rename_i e
          cases e
          split at h
          · rename_i hkk
            subst hkk
            rw [Option.map_eq_some_iff] at h
            obtain ⟨r', hr', rfl⟩ := h
            refine step _ _ _ _ _ r' rfl rfl (fun a b ha hb => ?_) hr' rfl
            obtain rfl := ha.int_inv
            obtain rfl := hb.int_inv
            unfold fkOf at hk
            split at hk <;> cases hk
            rename_i e
            rw [run_equalIn_int w d _ _ _ _ _ e, beq_dec]
          · cases h
        · rename_i e
          cases e
          rw [Option.map_eq_some_iff] at h
          obtain ⟨r', hr', rfl⟩ := h
          refine step _ _ _ _ _ r' rfl rfl (fun a b ha hb => ?_) hr' rfl
          obtain rfl := ha.str_inv
          obtain rfl := hb.str_inv
          unfold fkOf at hk
          split at hk <;> cases hk
          rename_i e
          rw [run_equalIn_string w d _ _ _ e, toList_mk, toList_mk, beq_dec]
        · rename_i e
          cases e
          rw [Option.map_eq_some_iff] at h
          obtain ⟨r', hr', rfl⟩ := h
          refine step _ _ _ _ _ r' rfl rfl (fun a b ha hb => ?_) hr' rfl
          obtain rfl := ha.bool_inv
          obtain rfl := hb.bool_inv
          unfold fkOf at hk
          split at hk <;> cases hk
          rename_i e
          rw [run_equalIn_bool' w d _ _ _ e, beq_dec]
        · cases h
      · cases hf
    · cases hf
theorem eqs_ok {t : TypeId} {fs : Array Field} (ht : P.underlying t = some (.struct fs)) {ks : List FK} (hf : flat P t fs = some ks) {neg : Bool} {x y : Operand} {ps qs : List PV} {a b : Value} (ha : VR g (.agg ps) a) (hb : VR g (.agg qs) b) {r : Bool} (h : eqCells ks ps qs = some r) :
    (do eqGuard (if neg then .neq else .eql) t x y a b; binOp (if neg then .neq else .eql) t a b : Sem Value).run P w = .ok (.bool (if neg then !r else r)) w := by
  obtain ⟨xs, rfl, hx1, hx2⟩ := ha.agg_inv
  obtain ⟨ys, rfl, hy1, hy2⟩ := hb.agg_inv
  unfold flat at hf
  split at hf
  · rename_i hc
    have hfo : P.fieldsOf t = fs := by simp [Program.fieldsOf, ht]
    have hq : (Op.equalIn 10000 t (.agg xs) (.agg ys)).run P w = .ok r w := by
      rw [run_equalIn_agg w 9999 t xs ys (by rw [hfo]; exact ht) hc.1, hfo]
      exact eqCells_ok fs.toList ks 0 9998 ps qs xs ys r hf (fun j v hj => by rw [Nat.zero_add]; exact ⟨hx2 j v hj, by rw [← hx1]; exact (List.getElem?_eq_some_iff.1 hj).1⟩) (fun j v hj => by rw [Nat.zero_add]; exact ⟨hy2 j v hj, by rw [← hy1]; exact (List.getElem?_eq_some_iff.1 hj).1⟩) h
    rw [Sem.run_bind, run_eqGuard_agg w _ t x y xs ys hc.2.1]
    cases neg
    · simp [run_eql_struct, hq]
    · simp [run_neq_struct, hq]
  · cases hf
/-! ### A struct's literal -/
theorem cells_one {v : PV} (h : v.cells.all PV.one = true) : v.one = true ∨ ∃ vs, v = .agg vs := by
  cases v <;> first | exact .inr ⟨_, rfl⟩ | (simp [PV.cells, PV.one] at h; done) | exact .inl rfl
theorem fill_ok {fs : Array Field} {places : Array (Nat × Nat)} (hp : ∀ (i : Nat) (f : Field), fs[i]? = some f → places[i]? = some (f.offset, P.cellsOf f.type)) {ac : Ac} {a : Act} (hr : Rel g ac a w) : ∀ (parts : List (Nat × Operand)) (ps : List (Nat × Nat × X)) (vs : List PV) (cs : Array Value) (us : List PV),
    cParts P fs parts = some ps → Cells g vs cs → fillP vs ac.ev ps = some us → ∃ us', Instr.fill (places[·]?) cs (parts.map fun (i, x) => (i, a.eval x)) = some us' ∧ Cells g us us'
  | [], ps, vs, cs, us, hc, hv, h => by
    simp only [cParts, Option.some.injEq] at hc
    subst hc
    simp only [fillP, Option.some.injEq] at h
    subst h
    exact ⟨cs, rfl, hv⟩
  | (i, x) :: r, ps, vs, cs, us, hc, hv, h => by
    simp only [cParts] at hc
    split at hc
    · rename_i f hf
      split at hc
      · rename_i x' r' hx hr'
        obtain rfl := Option.some.inj hc
        simp only [fillP] at h
        split at h
        · rename_i hcnd
          obtain ⟨h1, h2, h3⟩ := hcnd
          have hev := (hr.ev hx).cells_ (cells_one h3)
          have hset := hv.set hev (off := f.offset) (by omega)
          obtain ⟨us', q1, q2⟩ := fill_ok hp hr r r' _ _ us hr' hset h
          refine ⟨us', ?_, q2⟩
          simp only [List.map_cons, Instr.fill, hp i f hf]
          have e1 : (a.eval x).cells.size = P.cellsOf f.type := by rw [← hev.1, h1]
          have e2 : ¬ (f.offset + P.cellsOf f.type > cs.size) := by rw [← hv.1]; omega
          rw [if_neg (by simp [e1]; omega)]
          exact q1
        · cases h
      · cases hc
    · cases hc
theorem build_ok {t : TypeId} {fs : Array Field} (ht : P.underlying t = some (.struct fs)) (hall : fs.toList.all (fun f => (P.info? f.type).isSome) = true) {z : List PV} (hz : cZ P t = some z) {parts : Array (Nat × Operand)} {ps : List (Nat × Nat × X)} (hps : cParts P fs parts.toList = some ps) {ac : Ac} {a : Act} (hr : Rel g ac a w) {us : List PV} (h : fillP z ac.ev ps = some us) :
    ∃ c, (Instr.build t (parts.map fun (i, x) => (i, a.eval x))).run P w = .ok c w ∧ VR g (.agg us) c := by
  obtain ⟨it, zv, hi, hzv, hsz, hcells, _⟩ := cZ_ok (g := g) hz
  let pl : List (Nat × Nat) := fs.toList.map fun f => (f.offset, P.cellsOf f.type)
  have hpl : fs.toList.mapM (fun (f : Field) => (P.info? f.type).map fun i => (f.offset, i.size)) = some pl := by
    have : ∀ l : List Field, l.all (fun f => (P.info? f.type).isSome) = true → l.mapM (fun (f : Field) => (P.info? f.type).map fun i => (f.offset, i.size)) = some (l.map fun (f : Field) => (f.offset, P.cellsOf f.type)) := by
      intro l
      induction l with
      | nil => intro _; simp
      | cons f l ih =>
        intro hl
        simp only [List.all_cons, Bool.and_eq_true] at hl
        obtain ⟨i, hi⟩ := Option.isSome_iff_exists.1 hl.1
        rw [List.mapM_cons, ih hl.2]
        simp [hi, Program.cellsOf]
    exact this _ hall
  obtain ⟨us', q1, q2⟩ := fill_ok (P := P) (fs := fs) (places := pl.toArray) (fun i f hf => by
    have : fs.toList[i]? = some f := by simpa using hf
    simp [pl, hf]) hr parts.toList ps z zv.cells us hps hcells h
  refine ⟨.agg us', ?_, .agg _ _ q2.1 q2.2⟩
  apply run_build
  unfold Program.built
  simp only [hi, ht, hzv, hpl]
  rw [Array.toList_map]
  exact q1
end
end Go.Proofs.Ytebflncfgjnkkaa.M
