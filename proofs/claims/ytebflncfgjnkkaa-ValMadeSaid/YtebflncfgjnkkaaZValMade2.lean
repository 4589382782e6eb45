/- Parts of a proof, one behind another: Ma10, Ma11, Ma12, Ma13, Ma14, Ma15, Ma16, Ma17, Ma18, Ma19, Ma20, Ma21, Ma22, Ma23, Ma24, Ma25, Ma26, Ma27, Ma28, Ma29. -/
import Derived.Test.YtebflncfgjnkkaaZValMade1
import Derived.Laws.Cover3
import Derived.Great.BuildSlice
import Derived.WalkSmall
import Derived.Tactics
import Derived.Orders
/- THE ABSTRACT MACHINE, tenth part: the rest of the operations that only yield a value. -/
namespace Go.Proofs.Ytebflncfgjnkkaa.M
set_option linter.unusedSimpArgs false
set_option linter.unusedVariables false
open Go
section
variable {g : Gh} {S : Sto} {w : World} {P : Program}
theorem encode_ascii (n : Int) (h0 : 0 ≤ n) (h1 : n < 128) : Utf8.encode n = ⟨[UInt8.ofNat n.toNat].toArray⟩ := by
  have hv : Utf8.valid n = true := by simp [Utf8.valid]; omega
  unfold Utf8.encode
  simp only [hv, if_true]
  rw [if_pos (by omega)]
theorem bytesOf_inv : ∀ (rows : List (List PV)) (s : List UInt8), bytesOf rows = some s → rows.length = s.length ∧ ∀ (i : Nat) (row : List PV), rows[i]? = some row → ∃ n, row = [.int .u8 n] ∧ s[i]? = some (UInt8.ofNat n.toNat)
  | [], s, h => by
    simp only [bytesOf, Option.some.injEq] at h
    subst h
    exact ⟨rfl, fun i row h => by simp at h⟩
  | r :: rows, s, h => by
    unfold bytesOf at h
    split at h
    · rename_i e
      cases e
    · rename_i n r' e
      cases e
      rw [Option.map_eq_some_iff] at h
      obtain ⟨s', hs', rfl⟩ := h
      obtain ⟨h1, h2⟩ := bytesOf_inv _ s' hs'
      refine ⟨by simp [h1], fun i row hi => ?_⟩
      cases i with
      | zero => simp at hi; subst hi; exact ⟨n, rfl, rfl⟩
      | succ i => simp at hi; simpa using h2 i row hi
    · cases h
theorem foldl_push (ns : List Int) (s : ByteArray) : ns.foldl (fun r n => r.push (UInt8.ofNat n.toNat)) s = s ++ ⟨(ns.map fun n => UInt8.ofNat n.toNat).toArray⟩ := by
  induction ns generalizing s with
  | nil => apply ByteArray.ext; simp
  | cons n ns ih =>
    rw [List.foldl_cons, ih]
    apply ByteArray.ext
    simp
theorem conv_int {s t : TypeId} {k k' : IntKind} (hs : P.underlying s = some (.int k')) (ht : P.underlying t = some (.int k)) {p v : PV} {a : Value} (ha : VR g p a) (h : convP S (.int k) p = some v) : ∃ u, (convert s t a).run P w = .ok u w ∧ VR g v u := by
  cases p <;> try (simp [convP] at h; done)
  obtain rfl := ha.int_inv
  obtain rfl := Option.some.inj h
  refine ⟨_, ?_, .data _ _ (.int _ _)⟩
  simp [convert, run_underlying hs, run_underlying ht, Conv.intToInt]
theorem conv_chr {s t : TypeId} {k' : IntKind} (hs : P.underlying s = some (.int k')) (ht : P.underlying t = some .string) {p v : PV} {a : Value} (ha : VR g p a) (h : convP S .chr p = some v) : ∃ u, (convert s t a).run P w = .ok u w ∧ VR g v u := by
  cases p <;> try (simp [convP] at h; done)
  rename_i k0 n
  obtain rfl := ha.int_inv
  simp only [convP] at h
  split at h
  · rename_i hn
    obtain rfl := Option.some.inj h
    refine ⟨_, ?_, .data _ _ (.str _)⟩
    rw [run_convert_int_string w s t k0 n (by simp [hs]) ht, encode_ascii n hn.1 hn.2]
  · cases h
theorem conv_id {s t : TypeId} (hs : P.underlying s = some .string) (ht : P.underlying t = some .string) {p v : PV} {a : Value} (ha : VR g p a) (h : convP S .id p = some v) : ∃ u, (convert s t a).run P w = .ok u w ∧ VR g v u := by
  cases p <;> try (simp [convP] at h; done)
  obtain rfl := ha.str_inv
  obtain rfl := Option.some.inj h
  refine ⟨_, ?_, .data _ _ (.str _)⟩
  simp [convert, run_underlying hs, run_underlying ht]
theorem conv_bytes (hw : WR g S w) {s t e : TypeId} (hs : P.underlying s = some (.slice e)) (he : P.underlying e = some (.int .u8)) (ht : P.underlying t = some .string) {p v : PV} {a : Value} (ha : VR g p a) (h : convP S .bytes p = some v) : ∃ u, (convert s t a).run P w = .ok u w ∧ VR g v u := by
    have h : (match view S p with | some (_, rows, _) => (bytesOf rows).map .str | none => none) = some v := by cases p <;> exact h
    split at h
    · rename_i z rows full hv
      rw [Option.map_eq_some_iff] at h
      obtain ⟨bs, hbs, rfl⟩ := h
      obtain ⟨A, cap, cs, rfl, se⟩ := seen hw ha hv
      obtain ⟨hlen, hb⟩ := bytesOf_inv rows bs hbs
      refine ⟨_, ?_, .data _ _ (.str bs)⟩
      rw [run_convert_bytes_string w s t e A _ cap hs he ht]
      cases A with
      | none =>
        have : rows = [] := by
          cases rows with
          | nil => rfl
          | cons r rows =>
            obtain ⟨ad, h1, _⟩ := se.addr (by simp)
            cases h1
        subst this
        have : bs = [] := by simpa using hlen.symm
        subst this
        simp [Conv.bytesToString]
        rfl
      | some ad =>
        have hz : rows ≠ [] → z = 1 := by
          intro hne
          cases rows with
          | nil => exact absurd rfl hne
          | cons r rows =>
            obtain ⟨n, rfl, _⟩ := hb 0 r rfl
            exact (se.each _ List.mem_cons_self).symm
        let ns : List Int := rows.map fun r => match r with | [.int .u8 n] => n | _ => 0
        have hns : ∀ (i : Nat) (n : Int), rows[i]? = some [PV.int .u8 n] → ns[i]? = some n := by
          intro i n hi
          simp [ns, hi]
        have hcells : (loadCells ad rows.length).run P w = .ok (ns.map (Value.int .u8)).toArray w := by
          have := run_loadCells_list (P := P) w ad (ns.map (Value.int .u8)) (fun j v hj => by
            rw [List.getElem?_map, Option.map_eq_some_iff] at hj
            obtain ⟨n, hn, rfl⟩ := hj
            have hlt : j < rows.length := by have := (List.getElem?_eq_some_iff.1 hn).1; simpa [ns] using this
            obtain ⟨m, hm, _⟩ := hb j _ (List.getElem?_eq_getElem hlt)
            have hr : rows[j]? = some [PV.int .u8 m] := by rw [List.getElem?_eq_getElem hlt, hm]
            obtain rfl : m = n := Option.some.inj ((hns j m hr).symm.trans hn)
            obtain ⟨ad', e1, hsp⟩ := se.addr (fun e => by rw [e] at hlt; simp at hlt)
            obtain rfl := Option.some.inj e1
            have h1 := se.cell ad j 0 _ (.int .u8 m) rfl hr rfl
            have h2 := se.fr j 0 _ (.int .u8 m) hr rfl
            rw [hz (fun e => by rw [e] at hlt; simp at hlt), Nat.mul_one, Nat.add_zero] at h1
            rw [add_off hsp, h1, VR.int_inv (VR.data (g := g) _ _ h2)])
          simpa [ns] using this
        rw [run_bytesToString w ad rows.length cap ns hcells, foldl_push]
        have e2 : ns.map (fun n => UInt8.ofNat n.toNat) = bs := by
          apply List.ext_getElem?
          intro i
          rw [List.getElem?_map]
          rcases Nat.lt_or_ge i rows.length with hlt | hge
          · obtain ⟨n, hn, hb'⟩ := hb i _ (List.getElem?_eq_getElem hlt)
            rw [hns i n (by rw [List.getElem?_eq_getElem hlt, hn]), hb']
            rfl
          · rw [List.getElem?_eq_none (by simpa [ns] using hge), List.getElem?_eq_none (by omega)]
            rfl
        rw [e2]
        have : ByteArray.empty ++ ⟨bs.toArray⟩ = (⟨bs.toArray⟩ : ByteArray) := by apply ByteArray.ext; simp
        rw [this]
    · cases h
theorem part_ok {vs : List PV} {cs : Array Value} (hc : Cells g vs cs) {t : TypeId} {k : Option Nat} (hk : kOf P t = some k) {o : Nat} {v : PV} (h : pickC k vs o = some v) : ∃ c, (part t cs o).run P w = .ok c w ∧ VR g v c := by
  cases k with
  | none =>
    obtain ⟨d, hu, hd, _⟩ := kOf_none hk
    have hlt : o < cs.size := by rw [← hc.1]; exact (List.getElem?_eq_some_iff.1 h).1
    refine ⟨cs.getD o undef, ?_, hc.2 o v h⟩
    simp [part, Sem.run_bind, isAgg_plain hu hd, hlt]
  | some k =>
    obtain ⟨fs, hu, hs⟩ := kOf_some hk
    simp only [pickC] at h
    split at h
    · rename_i hle
      obtain rfl := Option.some.inj h
      obtain ⟨i, hi⟩ := info_of hu
      have hsz : i.size = k := by rw [← hs, cellsOf_info hi]
      have h1 := hc.1
      refine ⟨.agg (cs.extract o (o + k)), ?_, .agg _ _ (by simp; omega) fun j v hj => ?_⟩
      · have hagg : (isAgg t).run P w = .ok true w := by
          unfold isAgg
          rw [Sem.run_bind, run_underlying hu w]
          simp
        simp [part, Sem.run_bind, hagg, sizeOf, typeInfo, hi, hsz]
      · rw [List.getElem?_take] at hj
        split at hj
        · rename_i hjk
          rw [List.getElem?_drop] at hj
          have := hc.2 (o + j) v hj
          have e : (cs.extract o (o + k)).getD j undef = cs.getD (o + j) undef := by
            rw [Array.getD_eq_getD_getElem?, Array.getD_eq_getD_getElem?, Array.getElem?_extract, if_pos (by omega)]
          rw [e]
          exact this
        · cases hj
    · cases h
theorem iaddr_ok (hw : WR g S w) {t e : TypeId} (ht : P.underlying t = some (.slice e)) (he : ∃ i, P.info? e = some i) {p q v : PV} {a b : Value} (ha : VR g p a) (hb : VR g q b) (h : iaddrP S (P.cellsOf e) p q = some v) :
    ∃ c, (Instr.indexAt t a b).run P w = .ok c w ∧ VR g v c := by
  obtain ⟨ie, hie⟩ := he
  have hsz : ie.size = P.cellsOf e := (cellsOf_info hie).symm
  unfold iaddrP at h
  split at h
  · rename_i k i
    obtain rfl := hb.int_inv
    split at h
    · rename_i h0
      split at h
      · rename_i z rows f
        split at h
        · rename_i hz
          subst hz
          split at h
          · rename_i row hrow
            obtain rfl := Option.some.inj h
            have hlt : i.toNat < rows.length := (List.getElem?_eq_some_iff.1 hrow).1
            cases ha with
            | data _ _ ha =>
              cases ha with
              | list _ _ _ A cap cs hl hf hs hA hc hv =>
                obtain ⟨ad, rfl, hsp⟩ := hA (fun e => by rw [e] at hlt; simp at hlt)
                refine ⟨.pointer (some ⟨ad.block, ad.off + i.toNat * P.cellsOf e + 0, none⟩), ?_, .rowp row 0 ad.block (ad.off + i.toNat * P.cellsOf e) (cs i.toNat) (fun j v hj => by
                  rw [Nat.add_assoc]; exact hc ad i.toNat j row v rfl hrow hj) (fun j v hj => hv i.toNat j row v hrow hj)⟩
                have h2 : i < (rows.length : Int) := by omega
                simp [Instr.indexAt, run_underlying ht, asIntOf, h0, h2, sizeOf, typeInfo, hie, hsz, add_off hsp]
          · cases h
        · cases h
      · rename_i n t' off len ver gen f
        split at h
        · rename_i R hR
          split at h
          · rename_i hc
            obtain rfl := Option.some.inj h
            cases ha with
            | data _ _ ha => cases ha
            | sl _ _ _ _ _ _ _ ai _ hai hle h1c hs =>
              obtain ⟨R', hR', hr⟩ := hw.arr n t' ai hai
              obtain rfl : R = R' := Option.some.inj (hR.symm.trans hR')
              obtain ⟨A, cap, rfl, sa⟩ := hs (hr.gen.trans hc.1) (hr.len.trans hc.2.1)
              obtain ⟨ad, q1, q2, rfl⟩ := sa.pos (by omega)
              have e1 : ai.sz = P.cellsOf e := hr.sz.trans hc.2.2.1
              refine ⟨.pointer (some ⟨ad.block, ad.off + ((off + i.toNat) * ai.sz + 0), none⟩), ?_, .elem _ _ _ _ _ _ ai _ hai hle rfl (fun _ _ => ⟨ad, q1, q2, rfl⟩)⟩
              have h2 : i < (len : Int) := by omega
              simp [Instr.indexAt, run_underlying ht, asIntOf, h0, h2, sizeOf, typeInfo, hie, hsz, e1, Addr.add_mid, Nat.add_mul, Nat.add_assoc]
          · cases h
        · cases h
      · cases h
    · cases h
  · cases h
theorem lenS_ok {t ty : TypeId} {p v : PV} {a : Value} (ht : P.underlying t = some .string) (ha : VR g p a) (h : lenS p = some v) : ∃ c, (Builtin.len_ #[t] ty #[a]).run P w = .ok c w ∧ VR g v c := by
  unfold lenS at h
  split at h
  · obtain rfl := ha.str_inv
    obtain rfl := Option.some.inj h
    refine ⟨_, ?_, .data _ _ (.int _ _)⟩
    simp [Builtin.len_, run_underlying ht, goInt, size_mk]
  · cases h
theorem len_ok (hw : WR g S w) {t ty e : TypeId} {p v : PV} {a : Value} (he : P.underlying t = some (.slice e)) (ha : VR g p a) (h : lenP S p = some v) : ∃ c, (Builtin.len_ #[t] ty #[a]).run P w = .ok c w ∧ VR g v c := by
  unfold lenP at h
  split at h
  · cases ha with | data _ _ ha => cases ha with | nils z A =>
    obtain rfl := Option.some.inj h
    refine ⟨_, ?_, .data _ _ (.int _ _)⟩
    simp [Builtin.len_, run_underlying he, goInt]
  · cases ha with | data _ _ ha => cases ha with | list =>
    obtain rfl := Option.some.inj h
    refine ⟨_, ?_, .data _ _ (.int _ _)⟩
    simp [Builtin.len_, run_underlying he, goInt]
  · rename_i n t' off len ver gen f
    split at h
    · rename_i R hR
      split at h
      · rename_i hc
        cases ha with
        | data _ _ ha => cases ha
        | sl _ _ _ _ _ _ _ ai _ hai hle h1c hs' =>
          obtain ⟨R', hR', hr⟩ := hw.arr n t' ai hai
          obtain rfl : R = R' := Option.some.inj (hR.symm.trans hR')
          obtain ⟨A, cap, rfl, sa⟩ := hs' (hr.gen.trans hc.1) (hr.len.trans hc.2)
          obtain rfl := Option.some.inj h
          refine ⟨_, ?_, .data _ _ (.int _ _)⟩
          simp [Builtin.len_, run_underlying he, goInt]
      · cases h
    · cases h
  · cases h
end
end Go.Proofs.Ytebflncfgjnkkaa.M

/- THE ABSTRACT MACHINE, eleventh part: literals of structs, comparisons of structs, texts' bytes; and all of the value operations at once. -/
namespace Go.Proofs.Ytebflncfgjnkkaa.M
set_option linter.unusedSimpArgs false
set_option linter.unusedVariables false
open Go
section
variable {g : Gh} {S : Sto} {w : World} {P : Program}
theorem extract_mk (l : List UInt8) (a b : Nat) : (⟨l.toArray⟩ : ByteArray).extract a b = ⟨((l.drop a).take (b - a)).toArray⟩ := by
  apply ByteArray.ext
  simp
theorem sls_ok {t : TypeId} (ht : P.underlying t = some .string) {v u : PV} {c : Value} {lo hi : Option PV} {lo' hi' : Option Value} (hv : VR g v c) (hlo : OptR g lo lo') (hhi : OptR g hi hi') (h : slsP v lo hi = some u) :
    ∃ c', (Instr.sliceAt t c lo' hi' none).run P w = .ok c' w ∧ VR g u c' := by
  cases v <;> try (cases h; done)
  rename_i s
  obtain rfl := hv.str_inv
  simp only [slsP] at h
  split at h
  · rename_i a b h1 h2
    split at h
    · rename_i hab
      obtain rfl := Option.some.inj h
      refine ⟨_, ?_, .data _ _ (.str _)⟩
      have hb := bounds_ok (P := P) (w := w) hlo hhi (mx := none) (mx' := none) trivial h1 h2 (m := s.length) rfl hab.1 hab.2 (Nat.le_refl _) (Nat.le_refl _) (.inl rfl) false
      have : (Instr.sliceAt t (.string ⟨s.toArray⟩) lo' hi' none).run P w = (Instr.slice t (.string ⟨s.toArray⟩) lo' hi' none).run P w := by
        simp [Instr.sliceAt, run_underlying ht]
      rw [this]
      simp only [Instr.slice, Sem.run_bind, run_underlying ht, Result.andThen_ok, size_mk, Option.isSome_none, Bool.false_eq_true, if_false, hb]
      simp [extract_mk]
    · cases h
  · cases h
theorem istr_ok {t : TypeId} (ht : P.underlying t = some .string) {p q v : PV} {a b : Value} (ha : VR g p a) (hb : VR g q b) {s : List UInt8} {k : IntKind} {i : Int} (hp : p = .str s) (hq : q = .int k i) (h0 : 0 ≤ i) {c : UInt8} (hc : s[i.toNat]? = some c) (hv : v = .int .u8 c.toNat) :
    ∃ u, (Instr.index t a b).run P w = .ok u w ∧ VR g v u := by
  subst hp hq hv
  obtain rfl := ha.str_inv
  obtain rfl := hb.int_inv
  refine ⟨_, ?_, .data _ _ (.int _ _)⟩
  obtain ⟨hlt, hc'⟩ := List.getElem?_eq_some_iff.1 hc
  rw [run_index_string w t _ k i ht, dif_pos ⟨h0, by rw [size_mk]; omega⟩]
  have : (⟨s.toArray⟩ : ByteArray)[i.toNat]'(by rw [size_mk]; exact hlt) = c := by
    show s.toArray[i.toNat] = c
    simp [hc']
  rw [this]
/-! ### Structs' equality -/
theorem eqCells_ok : ∀ (fs : List Field) (ks : List FK) (i d : Nat) (ps qs : List PV) (xs ys : Array Value) (r : Bool), flatK P i fs = some ks → (∀ j v, ps[j]? = some v → VR g v (xs.getD (i + j) undef) ∧ i + j < xs.size) → (∀ j v, qs[j]? = some v → VR g v (ys.getD (i + j) undef) ∧ i + j < ys.size) →
    eqCells ks ps qs = some r → (Op.eqFields (d + 1) xs ys fs).run P w = .ok r w
  | [], ks, i, d, ps, qs, xs, ys, r, hf, _, _, h => by
    simp only [flatK, Option.some.injEq] at hf
    subst hf
    cases ps <;> cases qs <;> simp [eqCells] at h
    subst h
    simp [Op.eqFields]
  | f :: fs, ks, i, d, ps, qs, xs, ys, r, hf, hx, hy, h => by
    simp only [flatK] at hf
    split at hf
    · rename_i hof
      obtain ⟨ho, hn⟩ := hof
      split at hf
      · rename_i k ks' hk hks
        obtain rfl := Option.some.inj hf
        have hu : ∃ t, P.underlying f.type = some t ∧ t.isRow = false := by
          unfold fkOf at hk
          split at hk <;> first | (rename_i e; exact ⟨_, e, rfl⟩) | cases hk
        have hpart : ∀ (zs : Array Value), i < zs.size → (part f.type zs f.offset).run P w = .ok (zs.getD i undef) w := by
          intro zs hz
          obtain ⟨t, hu, hr⟩ := hu
          simp [part, Sem.run_bind, isAgg_plain hu hr, ho, hz]
        have step : ∀ p ps' q qs' (t r' : Bool), ps = p :: ps' → qs = q :: qs' → (∀ a b, VR g p a → VR g q b → (Op.equalIn (d + 1) f.type a b).run P w = .ok t w) → eqCells ks' ps' qs' = some r' → r = (t && r') → (Op.eqFields (d + 1) xs ys (f :: fs)).run P w = .ok r w := by
          intro p ps' q qs' t r' e1 e2 h1 h2 h3
          subst e1 e2
          obtain ⟨hx0, hxs⟩ := hx 0 p rfl
          obtain ⟨hy0, hys⟩ := hy 0 q rfl
          rw [Nat.add_zero] at hx0 hxs hy0 hys
          have ih := eqCells_ok fs ks' (i + 1) d ps' qs' xs ys r' hks (fun j v hj => by
            have := hx (j + 1) v (by simpa using hj)
            rwa [show i + (j + 1) = i + 1 + j by omega] at this) (fun j v hj => by
            have := hy (j + 1) v (by simpa using hj)
            rwa [show i + (j + 1) = i + 1 + j by omega] at this) h2
          simp only [Op.eqFields, if_pos hn, Sem.run_bind, hpart xs hxs, hpart ys hys, Result.andThen_ok, h1 _ _ hx0 hy0]
          cases t
          · simp [h3]
          · simp [h3, ih]
        unfold eqCells at h
        split at h
        · exact absurd ‹k :: ks' = []› (by simp)
        · rename_i e
          cases e
          split at h
          · rename_i hkk
            subst hkk
            rw [Option.map_eq_some_iff] at h
            obtain ⟨r', hr', rfl⟩ := h
            refine step _ _ _ _ _ r' rfl rfl (fun a b ha hb => ?_) hr' rfl
            obtain rfl := ha.int_inv
            obtain rfl := hb.int_inv
            unfold fkOf at hk
            split at hk <;> cases hk
            rename_i e
            rw [run_equalIn_int w d _ _ _ _ _ e, beq_dec]
          · cases h
        · rename_i e
          cases e
          rw [Option.map_eq_some_iff] at h
          obtain ⟨r', hr', rfl⟩ := h
          refine step _ _ _ _ _ r' rfl rfl (fun a b ha hb => ?_) hr' rfl
          obtain rfl := ha.str_inv
          obtain rfl := hb.str_inv
          unfold fkOf at hk
          split at hk <;> cases hk
          rename_i e
          rw [run_equalIn_string w d _ _ _ e, toList_mk, toList_mk, beq_dec]
        · rename_i e
          cases e
          rw [Option.map_eq_some_iff] at h
          obtain ⟨r', hr', rfl⟩ := h
          refine step _ _ _ _ _ r' rfl rfl (fun a b ha hb => ?_) hr' rfl
          obtain rfl := ha.bool_inv
          obtain rfl := hb.bool_inv
          unfold fkOf at hk
          split at hk <;> cases hk
          rename_i e
          rw [run_equalIn_bool' w d _ _ _ e, beq_dec]
        · cases h
      · cases hf
    · cases hf
theorem eqs_ok {t : TypeId} {fs : Array Field} (ht : P.underlying t = some (.struct fs)) {ks : List FK} (hf : flat P t fs = some ks) {neg : Bool} {x y : Operand} {ps qs : List PV} {a b : Value} (ha : VR g (.agg ps) a) (hb : VR g (.agg qs) b) {r : Bool} (h : eqCells ks ps qs = some r) :
    (do eqGuard (if neg then .neq else .eql) t x y a b; binOp (if neg then .neq else .eql) t a b : Sem Value).run P w = .ok (.bool (if neg then !r else r)) w := by
  obtain ⟨xs, rfl, hx1, hx2⟩ := ha.agg_inv
  obtain ⟨ys, rfl, hy1, hy2⟩ := hb.agg_inv
  unfold flat at hf
  split at hf
  · rename_i hc
    have hfo : P.fieldsOf t = fs := by simp [Program.fieldsOf, ht]
    have hq : (Op.equalIn 10000 t (.agg xs) (.agg ys)).run P w = .ok r w := by
      rw [run_equalIn_agg w 9999 t xs ys (by rw [hfo]; exact ht) hc.1, hfo]
      exact eqCells_ok fs.toList ks 0 9998 ps qs xs ys r hf (fun j v hj => by rw [Nat.zero_add]; exact ⟨hx2 j v hj, by rw [← hx1]; exact (List.getElem?_eq_some_iff.1 hj).1⟩) (fun j v hj => by rw [Nat.zero_add]; exact ⟨hy2 j v hj, by rw [← hy1]; exact (List.getElem?_eq_some_iff.1 hj).1⟩) h
    rw [Sem.run_bind, run_eqGuard_agg w _ t x y xs ys hc.2.1]
    cases neg
    · simp [run_eql_struct, hq]
    · simp [run_neq_struct, hq]
  · cases hf
/-! ### A struct's literal -/
theorem cells_one {v : PV} (h : v.cells.all PV.one = true) : v.one = true ∨ ∃ vs, v = .agg vs := by
  cases v <;> first | exact .inr ⟨_, rfl⟩ | (simp [PV.cells, PV.one] at h; done) | exact .inl rfl
theorem fill_ok {fs : Array Field} {places : Array (Nat × Nat)} (hp : ∀ (i : Nat) (f : Field), fs[i]? = some f → places[i]? = some (f.offset, P.cellsOf f.type)) {ac : Ac} {a : Act} (hr : Rel g ac a w) : ∀ (parts : List (Nat × Operand)) (ps : List (Nat × Nat × X)) (vs : List PV) (cs : Array Value) (us : List PV),
    cParts P fs parts = some ps → Cells g vs cs → fillP vs ac.ev ps = some us → ∃ us', Instr.fill (places[·]?) cs (parts.map fun (i, x) => (i, a.eval x)) = some us' ∧ Cells g us us'
  | [], ps, vs, cs, us, hc, hv, h => by
    simp only [cParts, Option.some.injEq] at hc
    subst hc
    simp only [fillP, Option.some.injEq] at h
    subst h
    exact ⟨cs, rfl, hv⟩
  | (i, x) :: r, ps, vs, cs, us, hc, hv, h => by
    simp only [cParts] at hc
    split at hc
    · rename_i f hf
      split at hc
      · rename_i x' r' hx hr'
        obtain rfl := Option.some.inj hc
        simp only [fillP] at h
        split at h
        · rename_i hcnd
          obtain ⟨h1, h2, h3⟩ := hcnd
          have hev := (hr.ev hx).cells_ (cells_one h3)
          have hset := hv.set hev (off := f.offset) (by omega)
          obtain ⟨us', q1, q2⟩ := fill_ok hp hr r r' _ _ us hr' hset h
          refine ⟨us', ?_, q2⟩
          simp only [List.map_cons, Instr.fill, hp i f hf]
          have e1 : (a.eval x).cells.size = P.cellsOf f.type := by rw [← hev.1, h1]
          have e2 : ¬ (f.offset + P.cellsOf f.type > cs.size) := by rw [← hv.1]; omega
          rw [if_neg (by simp [e1]; omega)]
          exact q1
        · cases h
      · cases hc
    · cases hc
theorem build_ok {t : TypeId} {fs : Array Field} (ht : P.underlying t = some (.struct fs)) (hall : fs.toList.all (fun f => (P.info? f.type).isSome) = true) {z : List PV} (hz : cZ P t = some z) {parts : Array (Nat × Operand)} {ps : List (Nat × Nat × X)} (hps : cParts P fs parts.toList = some ps) {ac : Ac} {a : Act} (hr : Rel g ac a w) {us : List PV} (h : fillP z ac.ev ps = some us) :
    ∃ c, (Instr.build t (parts.map fun (i, x) => (i, a.eval x))).run P w = .ok c w ∧ VR g (.agg us) c := by
  obtain ⟨it, zv, hi, hzv, hsz, hcells, _⟩ := cZ_ok (g := g) hz
  let pl : List (Nat × Nat) := fs.toList.map fun f => (f.offset, P.cellsOf f.type)
  have hpl : fs.toList.mapM (fun (f : Field) => (P.info? f.type).map fun i => (f.offset, i.size)) = some pl := by
    have : ∀ l : List Field, l.all (fun f => (P.info? f.type).isSome) = true → l.mapM (fun (f : Field) => (P.info? f.type).map fun i => (f.offset, i.size)) = some (l.map fun (f : Field) => (f.offset, P.cellsOf f.type)) := by
      intro l
      induction l with
      | nil => intro _; simp
      | cons f l ih =>
        intro hl
        simp only [List.all_cons, Bool.and_eq_true] at hl
        obtain ⟨i, hi⟩ := Option.isSome_iff_exists.1 hl.1
        rw [List.mapM_cons, ih hl.2]
        simp [hi, Program.cellsOf]
    exact this _ hall
  obtain ⟨us', q1, q2⟩ := fill_ok (P := P) (fs := fs) (places := pl.toArray) (fun i f hf => by
    have : fs.toList[i]? = some f := by simpa using hf
    simp [pl, hf]) hr parts.toList ps z zv.cells us hps hcells h
  refine ⟨.agg us', ?_, .agg _ _ q2.1 q2.2⟩
  apply run_build
  unfold Program.built
  simp only [hi, ht, hzv, hpl]
  rw [Array.toList_map]
  exact q1
end
end Go.Proofs.Ytebflncfgjnkkaa.M

/- THE ABSTRACT MACHINE, twelfth part: whatever operation only yields a value: it yields the one that is reckoned. -/
namespace Go.Proofs.Ytebflncfgjnkkaa.M
set_option linter.unusedSimpArgs false
set_option linter.unusedVariables false
open Go
section
variable {g : Gh} {S : Sto} {w : World} {P : Program}
theorem exec_v {s : Sem Value} {c : Value} (h : s.run P w = .ok c w) : (do pure (Next.value (← s)) : Sem Next).run P w = .ok (.value c) w := by simp [h]
theorem Rel.evs {ac : Ac} {a : Act} (hr : Rel g ac a w) : ∀ (xs : List Operand) (ts : List TypeId) (xs' : List X), cXs P xs ts = some xs' → xs'.length = xs.length ∧ ∀ (i : Nat) (x' : X), xs'[i]? = some x' → ∃ x, xs[i]? = some x ∧ VR g (ac.ev x') (a.eval x)
  | [], ts, xs', h => by
    simp only [cXs, Option.some.injEq] at h
    subst h
    exact ⟨rfl, fun i x' h => by simp at h⟩
  | x :: xs, ts, xs', h => by
    simp only [cXs] at h
    split at h
    · rename_i y ys hy hys
      obtain rfl := Option.some.inj h
      obtain ⟨h1, h2⟩ := hr.evs xs ts.tail ys hys
      refine ⟨by simp [h1], fun i x' hi => ?_⟩
      cases i with
      | zero => simp at hi; subst hi; exact ⟨x, rfl, hr.ev hy⟩
      | succ i => simp at hi; simpa using h2 i x' hi
    · cases h
theorem Rel.opt {ac : Ac} {a : Act} (hr : Rel g ac a w) {x : Option Operand} {x' : Option X} (h : cOpt P x = some x') : OptR g (x'.map ac.ev) (x.map a.eval) := by
  cases x with
  | none => simp only [cOpt, Option.some.injEq] at h; subst h; trivial
  | some x =>
    simp only [cOpt, Option.map_eq_some_iff] at h
    obtain ⟨y, hy, rfl⟩ := h
    exact hr.ev hy
theorem isNil_const {y : Operand} (h : isNilSlice y = true) : y = .const (.slice none 0 0) := by
  cases y with
  | const v =>
    cases v <;> try cases h
    rename_i A n c
    cases A with
    | some _ => cases h
    | none =>
      cases n with
      | succ _ => cases h
      | zero => cases c with
        | succ _ => cases h
        | zero => rfl
  | _ => cases h
theorem nil_run {t e : TypeId} (ht : P.underlying t = some (.slice e)) (op : BinOp) (neg : Bool) (ho : op = .eql ∧ neg = false ∨ op = .neq ∧ neg = true) (x y : Operand) (A : Option Addr) (n c : Nat) (w : World) :
    (do eqGuard op t x y (.slice A n c) (.slice none 0 0); binOp op t (.slice A n c) (.slice none 0 0) : Sem Value).run P w = .ok (.bool (if neg then !A.isNone else A.isNone)) w := by
  have hg : eqGuard op t x y (.slice A n c) (.slice none 0 0) = pure () := by cases op <;> rfl
  rw [hg]
  rcases ho with ⟨rfl, rfl⟩ | ⟨rfl, rfl⟩
  · simp [binOp, run_equal_slice_nil w t e A n c ht]
  · simp [run_neq_slice_nil w t e A n c ht]
theorem isnil_ok {t e u : TypeId} {op : BinOp} {neg : Bool} (ht : P.underlying t = some (.slice e)) {x y : Operand} (hn : isNilSlice y = true) {ac : Ac} {a : Act} {x' : X} (hx : VR g (ac.ev x') (a.eval x)) {v : PV} (hv : vop ac.ev ac.S (.isnil neg x') = some v) (ho : op = .eql ∧ neg = false ∨ op = .neq ∧ neg = true)
    {dst : Option Tmp} {ty : TypeId} {pos : String} {after : Array Edge} {guard : Option (Nat × Bool)} : ∃ c, (execOp a.eval ⟨dst, .binOp op t x y u, ty, pos, after, guard⟩).run P w = .ok (.value c) w ∧ VR g v c := by
  have hy := isNil_const hn
  subst hy
  simp only [vop] at hv
  split at hv
  · rename_i z r rs f hxe
    obtain rfl := Option.some.inj hv
    rw [hxe] at hx
    cases hx with | data _ _ h =>
    generalize hcc : a.eval x = cc at h
    cases h with | list _ _ _ A cap cs hl hf hs hA hc hv =>
    obtain ⟨ad, rfl, _⟩ := hA (by simp)
    refine ⟨.bool neg, ?_, .data _ _ (.bool _)⟩
    have := nil_run ht op neg ho x (.const (.slice none 0 0)) (some ad) (r :: rs).length cap w
    have e1 : (if neg then !(some ad : Option Addr).isNone else (some ad : Option Addr).isNone) = neg := by cases neg <;> rfl
    rw [e1] at this
    unfold execOp
    show (do pure (Next.value (← (do eqGuard op t x (.const (.slice none 0 0)) (a.eval x) (a.eval (.const (.slice none 0 0))); binOp op t (a.eval x) (a.eval (.const (.slice none 0 0))) : Sem Value))) : Sem Next).run P w = _
    rw [hcc]
    exact exec_v this
  · cases hv
theorem vop_ok {o : Oper} {vo : VO} (hc : cOp P o = some (.v vo)) {ac : Ac} {a : Act} (hr : Rel g ac a w) {v : PV} (hv : vop ac.ev ac.S vo = some v) : ∃ c, (execOp a.eval o).run P w = .ok (.value c) w ∧ VR g v c := by
  obtain ⟨dst, op, ty, pos, after, guard⟩ := o
  cases op <;> simp only [cOp, reduceCtorEq] at hc
  case move x =>
    rw [Option.map_eq_some_iff] at hc
    obtain ⟨x', hx, he⟩ := hc
    cases he
    simp only [vop, Option.some.injEq] at hv
    subst hv
    exact ⟨_, by simp [execOp], hr.ev hx⟩
  case assign x =>
    split at hc
    · rw [Option.map_eq_some_iff] at hc
      obtain ⟨_, _, he⟩ := hc
      cases he
    · rw [Option.map_eq_some_iff] at hc
      obtain ⟨x', hx, he⟩ := hc
      cases he
      simp only [vop, Option.some.injEq] at hv
      subst hv
      exact ⟨_, by simp [execOp], hr.ev hx⟩
  case pick c x y =>
    split at hc
    · rename_i c' x' y' h1 h2 h3
      cases hc
      simp only [vop] at hv
      split at hv
      · rename_i t ht
        obtain rfl := Option.some.inj hv
        have hb : a.eval c = .bool t := by have := hr.ev h1; rw [ht] at this; exact this.bool_inv
        cases t
        · exact ⟨_, by simp [execOp, hb, asBool], hr.ev h3⟩
        · exact ⟨_, by simp [execOp, hb, asBool], hr.ev h2⟩
      · cases hv
    · cases hc
  case alloc t =>
    rw [Option.map_eq_some_iff] at hc
    obtain ⟨_, _, he⟩ := hc
    cases he
  case box t x =>
    rw [Option.map_eq_some_iff] at hc
    obtain ⟨_, _, he⟩ := hc
    cases he
  case build t parts =>
    split at hc
    · rename_i fs z ht hz
      split at hc
      · rename_i hall
        rw [Option.map_eq_some_iff] at hc
        obtain ⟨ps, hps, he⟩ := hc
        cases he
        simp only [vop, Option.map_eq_some_iff] at hv
        obtain ⟨us, hus, rfl⟩ := hv
        obtain ⟨c, h1, h2⟩ := build_ok ht hall hz hps hr hus
        exact ⟨c, exec_v h1, h2⟩
      · cases hc
    · cases hc
  case buildSlice t n parts =>
    repeat' split at hc
    all_goals cases hc
  case load t x =>
    split at hc
    · rename_i k x' hk hx
      cases hc
      obtain ⟨c, h1, h2⟩ := ld_ok hr.wr (hr.ev hx) hv hk
      exact ⟨c, exec_v h1, h2⟩
    · cases hc
  case store t x y =>
    split at hc <;> cases hc
  case nilCheck x =>
    rw [Option.map_eq_some_iff] at hc
    obtain ⟨x', hx, he⟩ := hc
    cases he
    simp only [vop] at hv
    have h := hr.ev hx
    split at hv
    · rename_i n t o he
      obtain rfl := Option.some.inj hv
      rw [he] at h
      obtain ⟨b, hb, h1⟩ := h.ptr_inv
      exact ⟨.pointer (some ⟨b, o, none⟩), by simp [execOp, h1], .ptr n t o b hb⟩
    · rename_i r o he
      obtain rfl := Option.some.inj hv
      rw [he] at h
      generalize hc : a.eval x = c at h
      cases h with
      | data _ _ h => cases h
      | rowp _ _ b p cs h1 h2 => exact ⟨.pointer (some ⟨b, p + o, none⟩), by simp [execOp, hc], .rowp r o b p cs h1 h2⟩
    · cases hv
  case binOp op t x y u =>
    split at hc
    · rename_i x' y' hx hy
      have hx' := hr.ev hx
      have hy' := hr.ev hy
      split at hc
      · rename_i fs ht
        rw [Option.map_eq_some_iff] at hc
        obtain ⟨ks, hks, he⟩ := hc
        cases he
        simp only [vop] at hv
        split at hv
        · rename_i ps qs h1 h2
          rw [h1] at hx'
          rw [h2] at hy'
          rw [Option.map_eq_some_iff] at hv
          obtain ⟨r, hr', rfl⟩ := hv
          exact ⟨_, exec_v (eqs_ok (neg := false) ht hks hx' hy' hr'), .data _ _ (.bool _)⟩
        · cases hv
      · rename_i fs ht
        rw [Option.map_eq_some_iff] at hc
        obtain ⟨ks, hks, he⟩ := hc
        cases he
        simp only [vop] at hv
        split at hv
        · rename_i ps qs h1 h2
          rw [h1] at hx'
          rw [h2] at hy'
          rw [Option.map_eq_some_iff] at hv
          obtain ⟨r, hr', rfl⟩ := hv
          exact ⟨_, exec_v (eqs_ok (neg := true) ht hks hx' hy' hr'), .data _ _ (.bool _)⟩
        · cases hv
      · rename_i ht
        cases hc
        obtain ⟨c, h1, h2⟩ := binb_ok (neg := false) (x := x) (y := y) ht hx' hy' hv
        exact ⟨c, exec_v h1, h2⟩
      · rename_i ht
        cases hc
        obtain ⟨c, h1, h2⟩ := binb_ok (neg := true) (x := x) (y := y) ht hx' hy' hv
        exact ⟨c, exec_v h1, h2⟩
      · rename_i e ht
        split at hc
        · rename_i hn
          cases hc
          exact isnil_ok (neg := false) (op := .eql) (u := u) ht hn hx' hv (.inl ⟨rfl, rfl⟩)
        · cases hc
      · rename_i e ht
        split at hc
        · rename_i hn
          cases hc
          exact isnil_ok (neg := true) (op := .neq) (u := u) ht hn hx' hv (.inr ⟨rfl, rfl⟩)
        · cases hc
      · cases hc
        obtain ⟨c, h1, h2⟩ := bin_ok (t := t) (P := P) (w := w) (x := x) (y := y) hx' hy' hv
        exact ⟨c, exec_v h1, h2⟩
      · cases hc
    · cases hc
  case unOp op t x =>
    rw [Option.map_eq_some_iff] at hc
    obtain ⟨x', hx, he⟩ := hc
    cases he
    obtain ⟨c, h1, h2⟩ := un_ok (P := P) (w := w) (hr.ev hx) hv
    exact ⟨c, exec_v h1, h2⟩
  case convert s t x =>
    split at hc
    · rename_i k' k x' hs ht hx
      cases hc
      obtain ⟨c, h1, h2⟩ := conv_int (w := w) hs ht (hr.ev hx) hv
      exact ⟨c, exec_v h1, h2⟩
    · rename_i k' x' hs ht hx
      cases hc
      obtain ⟨c, h1, h2⟩ := conv_chr (w := w) hs ht (hr.ev hx) hv
      exact ⟨c, exec_v h1, h2⟩
    · rename_i x' hs ht hx
      cases hc
      obtain ⟨c, h1, h2⟩ := conv_id (w := w) hs ht (hr.ev hx) hv
      exact ⟨c, exec_v h1, h2⟩
    · rename_i e x' hs ht hx
      split at hc
      · rename_i he
        cases hc
        obtain ⟨c, h1, h2⟩ := conv_bytes hr.wr hs he ht (hr.ev hx) hv
        exact ⟨c, exec_v h1, h2⟩
      · cases hc
    · cases hc
  case makeInterface t x =>
    split at hc
    · cases hc
    · cases hc
    · rename_i d hd ht
      rw [Option.map_eq_some_iff] at hc
      obtain ⟨x', hx, he⟩ := hc
      cases he
      simp only [vop] at hv
      split at hv
      · obtain rfl := Option.some.inj hv
        refine ⟨.iface t (a.eval x), exec_v ?_, .iface _ _ _ (hr.ev hx)⟩
        cases d <;> first | (simp [Instr.makeInterface, run_underlying ht]; done) | (exact absurd rfl (hd _))
      · cases hv
  case makeFunc fn first caps =>
    split at hc
    · rename_i f hf1
      rw [Option.map_eq_some_iff] at hc
      obtain ⟨cs, hcs, he⟩ := hc
      cases he
      simp only [vop] at hv
      split at hv
      · obtain rfl := Option.some.inj hv
        obtain ⟨h1, h2⟩ := hr.evs caps.toList [] cs hcs
        obtain rfl : first = #[] := by simpa using hf1
        refine ⟨.func (.func f) #[] (caps.map a.eval), exec_v (by simp [Instr.makeFunc]), .func f _ _ (by simp [h1]) fun i v hi => ?_⟩
        rw [List.getElem?_map, Option.map_eq_some_iff] at hi
        obtain ⟨x', hx', rfl⟩ := hi
        obtain ⟨x, hx, hv⟩ := h2 i x' hx'
        have : (caps.map a.eval).getD i Go.undef = a.eval x := by
          have hx' : caps[i]? = some x := by simpa using hx
          rw [Array.getD_eq_getD_getElem?, Array.getElem?_map, hx']
          rfl
        rw [this]
        exact hv
      · cases hv
    · cases hc
  case slice t x lo hi mx =>
    split at hc
    · rename_i x' lo' hi' ht hx hlo hhi hmx
      cases hc
      simp only [vop] at hv
      have hm : mx = none := by
        cases mx with
        | none => rfl
        | some m =>
          simp only [cOpt, Option.map_eq_some_iff] at hmx
          obtain ⟨_, _, h⟩ := hmx
          cases h
      subst hm
      obtain ⟨c, h1, h2⟩ := sls_ok (P := P) (w := w) ht (hr.ev hx) (hr.opt hlo) (hr.opt hhi) hv
      exact ⟨c, exec_v h1, h2⟩
    · rename_i e x' lo' hi' mx' ht hx hlo hhi hmx
      split at hc
      · rename_i he
        cases hc
        obtain ⟨i, hi⟩ := Option.isSome_iff_exists.1 he
        obtain ⟨c, h1, h2⟩ := slc_ok hr.wr ht (hr.ev hx) (hr.opt hlo) (hr.opt hhi) (hr.opt hmx) ⟨i, hi⟩ hv
        exact ⟨c, exec_v h1, h2⟩
      · cases hc
    · cases hc
  case fieldAddr t x f =>
    split at hc
    · rename_i fs ht
      split at hc
      · rename_i f' x' hf hx
        split at hc
        · cases hc
        · rename_i h0
          split at hc
          · rename_i hi
            cases hc
            obtain ⟨it, hit⟩ := Option.isSome_iff_exists.1 hi
            have hsz : it.size ≠ 0 := by rw [← cellsOf_info hit]; exact h0
            have run : ∀ b o, (Instr.fieldAt t (.pointer (some ⟨b, o, none⟩)) f).run P w = .ok (.pointer (some ⟨b, o + f'.offset, none⟩)) w := by
              intro b o
              simp [Instr.fieldAt, run_underlying ht, hf, Instr.sureAddr, fieldPlace, sizeOf, typeInfo, hit, hsz, Addr.add_mid]
            have h := hr.ev hx
            generalize he : a.eval x = c at h
            simp only [vop] at hv
            split at hv
            · rename_i n t' o hp
              obtain rfl := Option.some.inj hv
              rw [hp] at h
              obtain ⟨b, hb, rfl⟩ := h.ptr_inv
              exact ⟨_, exec_v (by rw [he]; exact run b o), .ptr n t' _ b hb⟩
            · rename_i r o hp
              obtain rfl := Option.some.inj hv
              rw [hp] at h
              cases h with
              | data _ _ h => cases h
              | rowp _ _ b p cs h1 h2 => exact ⟨_, exec_v (by rw [he]; exact run b (p + o)), by rw [Nat.add_assoc]; exact .rowp r _ b p cs h1 h2⟩
            · rename_i n k i o ver gen hp
              rw [hp] at h
              split at hv
              · rename_i R hR
                split at hv
                · rename_i hcur
                  obtain rfl := Option.some.inj hv
                  cases h with
                  | data _ _ h => cases h
                  | elem _ _ _ _ _ _ ai _ hai hle h1c hs =>
                    obtain ⟨R', hR', hrr⟩ := hr.wr.arr n k ai hai
                    obtain rfl : R = R' := Option.some.inj (hR.symm.trans hR')
                    obtain ⟨ad, q1, q2, rfl⟩ := hs (hrr.gen.trans hcur.1) (hrr.len.trans hcur.2)
                    refine ⟨_, exec_v (by rw [he]; exact run _ _), .elem _ _ _ _ _ _ ai _ hai hle rfl fun _ _ => ⟨ad, q1, q2, ?_⟩⟩
                    simp only [Nat.add_assoc]
                · cases hv
              · cases hv
            · cases hv
          · cases hc
      · cases hc
    · cases hc
  case field t x f =>
    split at hc
    · rename_i fs ht
      split at hc
      · rename_i f' hf
        split at hc
        · rename_i k x' hk hx
          cases hc
          simp only [vop] at hv
          have h := hr.ev hx
          generalize he : a.eval x = c at h
          split at hv
          · rename_i vs hp
            rw [hp] at h
            obtain ⟨cs, rfl, h1, h2⟩ := h.agg_inv
            obtain ⟨c, h3, h4⟩ := part_ok (P := P) (w := w) ⟨h1, h2⟩ hk hv
            refine ⟨c, exec_v ?_, h4⟩
            rw [he]
            simp only [Instr.field, Sem.run_bind, run_underlying ht, Result.andThen_ok, hf]
            simpa [asAgg] using h3
          · cases hv
        · cases hc
      · cases hc
    · cases hc
  case indexAddr t x i =>
    split at hc
    · rename_i e ht
      split at hc
      · rename_i x' i' hx hi
        split at hc
        · rename_i he
          cases hc
          obtain ⟨it, hit⟩ := Option.isSome_iff_exists.1 he
          obtain ⟨c, h1, h2⟩ := iaddr_ok hr.wr ht ⟨it, hit⟩ (hr.ev hx) (hr.ev hi) hv
          exact ⟨c, exec_v h1, h2⟩
        · cases hc
      · cases hc
    · cases hc
  case index t x i =>
    split at hc
    · rename_i ht
      split at hc
      · rename_i x' i' hx hi
        cases hc
        simp only [vop] at hv
        split at hv
        · rename_i s k n hp hq
          split at hv
          · rename_i h0
            rw [Option.map_eq_some_iff] at hv
            obtain ⟨c, hc, rfl⟩ := hv
            obtain ⟨u, h1, h2⟩ := istr_ok (P := P) (w := w) ht (hr.ev hx) (hr.ev hi) hp hq h0 hc rfl
            exact ⟨u, exec_v h1, h2⟩
          · cases hv
        · cases hv
      · cases hc
    · cases hc
  case extract x i =>
    rw [Option.map_eq_some_iff] at hc
    obtain ⟨x', hx, he⟩ := hc
    cases he
    simp only [vop] at hv
    have h := hr.ev hx
    generalize he : a.eval x = c at h
    split at hv
    · rename_i vs hp
      rw [hp] at h
      obtain ⟨cs, rfl, h1, h2⟩ := h.tup_inv
      have hlt : i < cs.size := by rw [← h1]; exact (List.getElem?_eq_some_iff.1 hv).1
      refine ⟨cs.getD i Go.undef, exec_v ?_, h2 i v hv⟩
      rw [he]
      simp [Instr.extract, hlt]
    · cases hv
  case call c =>
    unfold cCall at hc
    split at hc
    · split at hc <;> cases hc
    · rename_i hcal
      split at hc
      · rename_i x t hxs hts
        have e1 : c.args = #[x] := by apply Array.ext'; simpa using hxs
        have e2 : c.argTypes = #[t] := by apply Array.ext'; simpa using hts
        have run : ∀ u, (Builtin.len_ #[t] ty #[a.eval x]).run P w = .ok u w → (execOp a.eval ⟨dst, .call c, ty, pos, after, guard⟩).run P w = .ok (.value u) w := by
          intro u hu
          simp [execOp, resolve, hcal, e1, e2, invoke, builtin, hu]
        split at hc
        · rename_i x' ht hx
          cases hc
          simp only [vop, if_true] at hv
          obtain ⟨u, h1, h2⟩ := lenS_ok (w := w) (ty := ty) ht (hr.ev hx) hv
          exact ⟨u, run u h1, h2⟩
        · rename_i e x' ht hx
          cases hc
          simp only [vop, Bool.false_eq_true, if_false] at hv
          obtain ⟨u, h1, h2⟩ := len_ok (ty := ty) hr.wr ht (hr.ev hx) hv
          exact ⟨u, run u h1, h2⟩
        · cases hc
      · cases hc
    · repeat' split at hc
      all_goals cases hc
    · rename_i hcal
      split at hc
      · rename_i x y hxs
        split at hc
        · rename_i x' y' hx hy
          cases hc
          simp only [vop] at hv
          split at hv
          · rename_i k m k' n hp hq
            obtain rfl := Option.some.inj hv
            have h1 := hr.ev hx
            have h2 := hr.ev hy
            rw [hp] at h1
            rw [hq] at h2
            have e1 : c.args = #[x, y] := by apply Array.ext'; simpa using hxs
            refine ⟨_, ?_, .data _ _ (.int _ _)⟩
            simp [execOp, resolve, hcal, e1, invoke, builtin, h1.int_inv, h2.int_inv, run_min_int2]
          · cases hv
        · cases hc
      · cases hc
    · rename_i hcal
      split at hc
      · rename_i x y hxs
        split at hc
        · rename_i x' y' hx hy
          cases hc
          simp only [vop] at hv
          split at hv
          · rename_i k m k' n hp hq
            obtain rfl := Option.some.inj hv
            have h1 := hr.ev hx
            have h2 := hr.ev hy
            rw [hp] at h1
            rw [hq] at h2
            have e1 : c.args = #[x, y] := by apply Array.ext'; simpa using hxs
            refine ⟨_, ?_, .data _ _ (.int _ _)⟩
            simp [execOp, resolve, hcal, e1, invoke, builtin, h1.int_inv, h2.int_inv, run_max_int2]
          · cases hv
        · cases hc
      · cases hc
    · cases hc
  case panic x =>
    rw [Option.map_eq_some_iff] at hc
    obtain ⟨_, _, he⟩ := hc
    cases he
end
end Go.Proofs.Ytebflncfgjnkkaa.M

/- THE ABSTRACT MACHINE, thirteenth part: what a step may do to the world; names that are forgotten; new variables. -/
namespace Go.Proofs.Ytebflncfgjnkkaa.M
set_option linter.unusedSimpArgs false
set_option linter.unusedVariables false
open Go
section
variable {g g' : Gh} {S S' : Sto} {w w' : World} {P : Program}
structure Tr (g : Gh) (w : World) (g' : Gh) (w' : World) : Prop where
  os : w'.os = w.os
  tape : w'.tape = w.tape
  output : w'.output = w.output
  size : w.heap.size ≤ w'.heap.size
  fz : ∀ b o v, g.fz b o = some v → g'.fz b o = some v
  keep : ∀ k, k < w.heap.size → (∀ x, g.own x ≠ some k) → w'.heap[k]? = w.heap[k]?
  new : ∀ x k, g'.own x = some k → g.own x = some k ∨ w.heap.size ≤ k
  out : Ext g.pop g'.pop
theorem Tr.refl (g : Gh) (w : World) : Tr g w g w := ⟨rfl, rfl, rfl, Nat.le_refl _, fun _ _ _ h => h, fun _ _ _ => rfl, fun x _ h => .inl h, Ext.refl _⟩
theorem Tr.trans {g'' : Gh} {w'' : World} (h : Tr g w g' w') (h' : Tr g' w' g'' w'') : Tr g w g'' w'' :=
  ⟨h'.os.trans h.os, h'.tape.trans h.tape, h'.output.trans h.output, Nat.le_trans h.size h'.size, fun b o v hv => h'.fz b o v (h.fz b o v hv), fun k hk hn => by
    rw [h'.keep k (Nat.lt_of_lt_of_le hk h.size) (fun x hx => by
      rcases h.new x k hx with hy | hy
      · exact hn x hy
      · omega)]
    exact h.keep k hk hn, fun x k hx => by
    rcases h'.new x k hx with hy | hy
    · exact h.new x k hy
    · exact .inr (Nat.le_trans h.size hy), h.out.trans h'.out⟩
theorem WR.own_lt (hw : WR g S w) {x : Ow} {k : Nat} (h : g.own x = some k) : k < w.heap.size := by
  cases x with
  | box n t =>
    obtain ⟨vs, cs, elem, _, h2, _⟩ := hw.box n t k h
    exact (Array.getElem?_eq_some_iff.1 h2).1
  | arr n a =>
    simp only [Gh.own, Option.bind_eq_some_iff] at h
    obtain ⟨ai, ha, hb⟩ := h
    obtain ⟨A, _, hr⟩ := hw.arr n a ai ha
    obtain ⟨_, ⟨cells, elem, hc, _⟩, _⟩ := hr.own k hb
    exact (Array.getElem?_eq_some_iff.1 hc).1
theorem cell_lt {w : World} {a : Addr} {v : Value} (h : w.cell? a = some v) : a.block < w.heap.size := by
  unfold World.cell? at h
  split at h
  · rename_i hc
    exact (Array.getElem?_eq_some_iff.1 hc).1
  · cases h
/-- A world in which what is known stands as it did. -/
theorem WR.keep (hw : WR g S w) (hf : ∀ b o v, g.fz b o = some v → w'.cell? ⟨b, o, none⟩ = some v) (ho : ∀ x b, g.own x = some b → w'.heap[b]? = w.heap[b]?) : WR g S w' := by
  refine ⟨hf, ?_, ?_, hw.inj⟩
  · intro n t b hb
    obtain ⟨vs, cs, elem, h1, h2, h3⟩ := hw.box n t b hb
    exact ⟨vs, cs, elem, h1, (ho (.box n t) b hb).trans h2, h3⟩
  · intro n k ai ha
    obtain ⟨A, h1, hr⟩ := hw.arr n k ai ha
    refine ⟨A, h1, ⟨hr.sz, hr.len, hr.gen, hr.each, hr.cap, hr.addr, ?_, ?_, hr.free⟩⟩
    · obtain ⟨cs, h2, h3⟩ := hr.cells
      refine ⟨cs, h2, fun ad i j row v had hi hj => ?_⟩
      obtain ⟨h4, h5⟩ := h3 ad i j row v had hi hj
      refine ⟨?_, h5⟩
      cases hfr : A.frz with
      | true => exact hf _ _ _ (h5 hfr)
      | false =>
        cases hb : ai.blk with
        | none =>
          rcases (hr.free hb).2 with h | h
          · rw [hfr] at h; cases h
          · rw [h] at hi; simp at hi
        | some b =>
          have hA := (hr.own b hb).1
          rw [had] at hA
          obtain rfl := Option.some.inj hA
          have := ho (.arr n k) b (by simp [Gh.own, ha, hb])
          unfold World.cell? at h4 ⊢
          rw [this]
          exact h4
    · intro b hb
      obtain ⟨h2, ⟨cells, elem, h3, h4⟩, h5⟩ := hr.own b hb
      exact ⟨h2, ⟨cells, elem, (ho (.arr n k) b (by simp [Gh.own, ha, hb])).trans h3, h4⟩, h5⟩
/-- A store that has the same of what is named. -/
theorem WR.congr (hw : WR g S w) (hb : ∀ n t b, g.b n t = some b → getBox S' n t = getBox S n t) (ha : ∀ n k ai, g.a n k = some ai → getArr S' n k = getArr S n k) : WR g S' w := by
  refine ⟨hw.fz, ?_, ?_, hw.inj⟩
  · intro n t b h
    obtain ⟨vs, cs, elem, h1, h2⟩ := hw.box n t b h
    exact ⟨vs, cs, elem, (hb n t b h).trans h1, h2⟩
  · intro n k ai h
    obtain ⟨A, h1, h2⟩ := hw.arr n k ai h
    exact ⟨A, (ha n k ai h).trans h1, h2⟩
/-! ### Forgotten names -/
mutual
theorem kill_up (d : Nat) : ∀ v : PV, v.up.kill d = v.up
  | .bool _ | .int _ _ | .str _ | .nils _ | .list _ _ _ | .rowp _ _ | .nili | .undef | .junk => by simp [PV.up, PV.kill]
  | .agg vs => by simp [PV.up, PV.kill, killL_up d vs]
  | .tup vs => by simp [PV.up, PV.kill, killL_up d vs]
  | .ptr n t o => by simp [PV.up, PV.kill]
  | .elem n a i o v g => by simp [PV.up, PV.kill]
  | .sl n a o l v g f => by simp [PV.up, PV.kill]
  | .func f caps => by simp [PV.up, PV.kill, killL_up d caps]
  | .iface t v => by simp [PV.up, PV.kill, kill_up d v]
theorem killL_up (d : Nat) : ∀ vs : List PV, PV.killL d (PV.upL vs) = PV.upL vs
  | [] => by simp [PV.upL, PV.killL]
  | v :: vs => by simp [PV.upL, PV.killL, kill_up d v, killL_up d vs]
end
theorem getBox_kill (d n t : Nat) (S : Sto) : getBox (killS d S) n t = if n = 0 then (if t = d then none else (getBox S n t).map (PV.killL d)) else getBox S n t := by
  cases S with
  | nil => cases n <;> simp [killS, getBox]
  | cons f S => cases n <;> simp [killS, getBox, Fr.kill]
theorem getArr_kill (d n : Nat) (k : AK) (S : Sto) : getArr (killS d S) n k = if n = 0 ∧ k.tmp = d then none else getArr S n k := by
  cases S with
  | nil => cases n <;> simp [killS, getArr]
  | cons f S => cases n <;> simp [killS, getArr, Fr.kill]
theorem kill_own {d : Nat} {x : Ow} {b : Nat} (h : (g.kill d).own x = some b) : g.own x = some b := by
  cases x with
  | box n t =>
    simp only [Gh.own, Gh.kill] at h ⊢
    split at h
    · cases h
    · exact h
  | arr n k =>
    simp only [Gh.own, Gh.kill] at h ⊢
    split at h
    · cases h
    · exact h
theorem kill_pop (d : Nat) (g : Gh) : (g.kill d).pop = g.pop := by
  unfold Gh.pop Gh.kill
  simp
theorem WR.kill (hw : WR g S w) (d : Nat) : WR (g.kill d) (killS d S) w := by
  refine ⟨hw.fz, ?_, ?_, fun x y b hx hy => hw.inj x y b (kill_own hx) (kill_own hy)⟩
  · intro n t b hb
    simp only [Gh.kill] at hb
    split at hb
    · cases hb
    · rename_i hn
      obtain ⟨vs, cs, elem, h1, h2, h3, h4, h5⟩ := hw.box n t b hb
      rw [getBox_kill]
      cases n with
      | zero =>
        have ht : t ≠ d := fun e => hn ⟨rfl, e⟩
        refine ⟨PV.killL d vs, cs, elem, by simp [ht, h1], h2, by rw [killL_length]; exact h3, fun i v hi => ?_, h5⟩
        rw [killL_get, Option.map_eq_some_iff] at hi
        obtain ⟨u, hu, rfl⟩ := hi
        exact (h4 i u hu).kill d
      | succ n =>
        refine ⟨vs, cs, elem, by simpa using h1, h2, h3, fun i v hi => ?_, h5⟩
        have := (h4 i v hi).kill d
        rwa [PV.upN, kill_up] at this
  · intro n k ai ha
    simp only [Gh.kill] at ha
    split at ha
    · cases ha
    · rename_i hn
      obtain ⟨A, h1, hr⟩ := hw.arr n k ai ha
      exact ⟨A, by rw [getArr_kill, if_neg hn]; exact h1, ⟨hr.sz, hr.len, hr.gen, hr.each, hr.cap, hr.addr, hr.cells, hr.own, hr.free⟩⟩
theorem Rel.kill {ac : Ac} {a : Act} (h : Rel g ac a w) (d : Nat) : Rel (g.kill d) (ac.kill d) a w := ⟨h.wr.kill d, fun t => (h.env t).kill d⟩
theorem Tr.kill (g : Gh) (w : World) (d : Nat) : Tr g w (g.kill d) w :=
  ⟨rfl, rfl, rfl, Nat.le_refl _, fun _ _ _ h => h, fun _ _ _ => rfl, fun x _ h => .inl (kill_own h), by rw [kill_pop]; exact Ext.refl _⟩
theorem killed_b (g : Gh) (d : Nat) : (g.kill d).b 0 d = none := by simp [Gh.kill]
theorem killed_a (g : Gh) {d : Nat} {k : AK} (h : k.tmp = d) : (g.kill d).a 0 k = none := by simp [Gh.kill, h]
/-! ### A world with a block more -/
theorem alloc_heap (w : World) (o : Obj) {k : Nat} (h : k < w.heap.size) : (w.alloc o).heap[k]? = w.heap[k]? := Go.RowKit.Below.heap_alloc w o k h
theorem alloc_cell (w : World) (o : Obj) {a : Addr} {v : Value} (h : w.cell? a = some v) : (w.alloc o).cell? a = some v := by
  rw [World.cell?_alloc_lt _ _ _ (cell_lt h)]
  exact h
theorem WR.alloc (hw : WR g S w) (o : Obj) : WR g S (w.alloc o) :=
  hw.keep (fun b o' v h => alloc_cell w o (hw.fz b o' v h)) (fun x b h => alloc_heap w o (hw.own_lt h))
theorem WR.drew (hw : WR g S w) : WR g S w.drew := hw.keep hw.fz (fun _ _ _ => rfl)
theorem WR.drawn (hw : WR g S w) (n : Nat) : WR g S { w with drawn := n } := hw.keep hw.fz (fun _ _ _ => rfl)
theorem alloc_size (w : World) (o : Obj) : (w.alloc o).heap.size = w.heap.size + 1 := by show (w.heap.push o).size = _; simp
theorem alloc_new (w : World) (o : Obj) : (w.alloc o).heap[w.heap.size]? = some o := by show (w.heap.push o)[w.heap.size]? = _; simp
end
end Go.Proofs.Ytebflncfgjnkkaa.M

/- THE ABSTRACT MACHINE, fourteenth part: a row is put under a name; rows that are handed on are frozen. -/
namespace Go.Proofs.Ytebflncfgjnkkaa.M
set_option linter.unusedSimpArgs false
set_option linter.unusedVariables false
open Go
section
variable {g g' : Gh} {S S' : Sto} {w w' : World} {P : Program}
def Gh.put (g : Gh) (n : Nat) (k : AK) (ai : AI) (φ : Fz) : Gh := ⟨g.b, fun m j => if m = n ∧ j = k then some ai else g.a m j, φ⟩
theorem put_own {n : Nat} {k : AK} {ai : AI} {φ : Fz} {x : Ow} {b : Nat} (h : (g.put n k ai φ).own x = some b) : (x = .arr n k ∧ ai.blk = some b) ∨ (x ≠ .arr n k ∧ g.own x = some b) := by
  cases x with
  | box m t => exact .inr ⟨(by simp), h⟩
  | arr m j =>
    simp only [Gh.own, Gh.put] at h
    split at h
    · rename_i e
      obtain ⟨rfl, rfl⟩ := e
      exact .inl ⟨rfl, h⟩
    · rename_i e
      exact .inr ⟨(by simpa using e), h⟩
theorem ArrRel.ghost {A : Arr} {ai : AI} (h : ArrRel g w A ai) (hf : g.fz = g'.fz) : ArrRel g' w A ai := by
  obtain ⟨h1, h2, h3, h4, h5, h6, h7, h8, h9⟩ := h
  exact ⟨h1, h2, h3, h4, h5, h6, by rw [← hf]; exact h7, by rw [← hf]; exact h8, h9⟩
/-- A row under a name: new, or instead of what was there. -/
theorem WR.put (hw : WR g S w) {n : Nat} {k : AK} {A : Arr} {ai : AI} {φ : Fz} (hφ : ∀ b o v, φ b o = some v → w'.cell? ⟨b, o, none⟩ = some v) (hsub : ∀ b o v, g.fz b o = some v → φ b o = some v)
    (hoth : ∀ x b, x ≠ .arr n k → g.own x = some b → w'.heap[b]? = w.heap[b]? ∧ ∀ o, φ b o = g.fz b o) (hr : ArrRel ⟨g.b, g.a, φ⟩ w' A ai) (hblk : ∀ b, ai.blk = some b → ∀ x, x ≠ .arr n k → g.own x ≠ some b)
    (hle : ∀ ai0, g.a n k = some ai0 → AIle ai0 ai) (hnm : ∀ t i, k = .cell t i → ¬ Bare g n t) (hS : getArr S' n k = some A) (hSb : ∀ m t b, g.b m t = some b → getBox S' m t = getBox S m t) (hSa : ∀ m j ai, ¬ (m = n ∧ j = k) → g.a m j = some ai → getArr S' m j = getArr S m j) :
    WR (g.put n k ai φ) S' w' ∧ Ext g (g.put n k ai φ) := by
  have hx : Ext g (g.put n k ai φ) := by
    refine ⟨⟨fun _ _ _ h => h, fun m j a0 h => ?_, hsub⟩, fun m t hb => ⟨hb.1, fun i => ?_⟩⟩
    by_cases e : m = n ∧ j = k
    · obtain ⟨rfl, rfl⟩ := e
      exact ⟨ai, by simp [Gh.put], hle a0 h⟩
    · exact ⟨a0, by simp only [Gh.put, if_neg e]; exact h, AIle.refl _⟩
    · show (if m = n ∧ AK.cell t i = k then some ai else g.a m (.cell t i)) = none
      rw [if_neg]
      · exact hb.2 i
      · rintro ⟨rfl, e⟩
        exact hnm t i e.symm hb
  refine ⟨⟨hφ, ?_, ?_, ?_⟩, hx⟩
  · intro m t b hb
    obtain ⟨vs, cs, elem, h1, h2, h3, h4, h5⟩ := hw.box m t b hb
    obtain ⟨q1, q2⟩ := hoth (.box m t) b (by simp) hb
    exact ⟨vs, cs, elem, (hSb m t b hb).trans h1, q1.trans h2, h3, fun i v hi => (h4 i v hi).mono hx, fun o => (q2 o).trans (h5 o)⟩
  · intro m j a0 ha
    simp only [Gh.put] at ha
    split at ha
    · rename_i e
      obtain ⟨rfl, rfl⟩ := e
      obtain rfl := Option.some.inj ha
      exact ⟨A, hS, hr.ghost rfl⟩
    · rename_i e
      obtain ⟨A0, h1, hr0⟩ := hw.arr m j a0 ha
      refine ⟨A0, (hSa m j a0 e ha).trans h1, ?_⟩
      obtain ⟨cs, c1, c2⟩ := hr0.cells
      have hne : Ow.arr m j ≠ .arr n k := by simpa using e
      refine ⟨hr0.sz, hr0.len, hr0.gen, hr0.each, hr0.cap, hr0.addr, ⟨cs, fun i p row v hi hp => (c1 i p row v hi hp).mono hsub, fun ad i p row v had hi hp => ?_⟩, ?_, hr0.free⟩
      · obtain ⟨h4, h5⟩ := c2 ad i p row v had hi hp
        refine ⟨?_, fun hfr => hsub _ _ _ (h5 hfr)⟩
        cases hfr : A0.frz with
        | true => exact hφ _ _ _ (hsub _ _ _ (h5 hfr))
        | false =>
          cases hb : a0.blk with
          | none =>
            rcases (hr0.free hb).2 with h | h
            · rw [hfr] at h; cases h
            · rw [h] at hi; simp at hi
          | some b =>
            have hA := (hr0.own b hb).1
            rw [had] at hA
            obtain rfl := Option.some.inj hA
            have := (hoth (.arr m j) b hne (by simp [Gh.own, ha, hb])).1
            unfold World.cell? at h4 ⊢
            rw [this]
            exact h4
      · intro b hb
        obtain ⟨h2, ⟨cells, elem, h3, h4⟩, h5, h6⟩ := hr0.own b hb
        obtain ⟨q1, q2⟩ := hoth (.arr m j) b hne (by simp [Gh.own, ha, hb])
        exact ⟨h2, ⟨cells, elem, q1.trans h3, h4⟩, fun o ho => (q2 o).trans (h5 o ho), fun hf o => (q2 o).trans (h6 hf o)⟩
  · intro x y b h1 h2
    rcases put_own h1 with ⟨rfl, e1⟩ | ⟨n1, e1⟩ <;> rcases put_own h2 with ⟨rfl, e2⟩ | ⟨n2, e2⟩
    · rfl
    · exact absurd e2 (hblk b e1 y n2)
    · exact absurd e1 (hblk b e2 x n1)
    · exact hw.inj x y b e1 e2
theorem Ext.pop_ {g g' : Gh} (h : Ext g g') : Ext g.pop g'.pop := ⟨⟨fun n t b hb => h.b (n + 1) t b hb, fun n k ai ha => h.a (n + 1) k ai ha, h.fz⟩, fun n t hb => h.nam (n + 1) t hb⟩
theorem tr_put {n : Nat} {k : AK} {ai : AI} {φ : Fz} (hx : Ext g (g.put n k ai φ)) (h1 : w'.os = w.os) (h2 : w'.tape = w.tape) (h3 : w'.output = w.output) (h4 : w.heap.size ≤ w'.heap.size)
    (hk : ∀ j, j < w.heap.size → (∀ x, g.own x ≠ some j) → w'.heap[j]? = w.heap[j]?) (hb : ∀ b, ai.blk = some b → g.own (.arr n k) = some b ∨ w.heap.size ≤ b) : Tr g w (g.put n k ai φ) w' :=
  ⟨h1, h2, h3, h4, hx.fz, hk, fun x b hx => by
    rcases put_own hx with ⟨rfl, e⟩ | ⟨_, e⟩
    · rcases hb b e with h | h
      · exact .inl h
      · exact .inr h
    · exact .inl e, hx.pop_⟩
theorem getArr_set (S : Sto) (n : Nat) (k : AK) (A : Arr) (m : Nat) (j : AK) : getArr (setArr S n k A) m j = if m = n ∧ j = k ∧ n < S.length then some A else getArr S m j := by
  induction S generalizing n m with
  | nil => cases n <;> cases m <;> simp [setArr, getArr]
  | cons f S ih =>
    cases n <;> cases m <;> simp [setArr, getArr, updK, ih]
theorem getBox_setArr (S : Sto) (n : Nat) (k : AK) (A : Arr) (m t : Nat) : getBox (setArr S n k A) m t = getBox S m t := by
  induction S generalizing n m with
  | nil => cases n <;> cases m <;> simp [setArr, getBox]
  | cons f S ih =>
    cases n <;> cases m <;> simp [setArr, getBox, ih]
theorem getArr_lt {S : Sto} {n : Nat} {k : AK} {A : Arr} (h : getArr S n k = some A) : n < S.length := by
  induction S generalizing n with
  | nil => cases n <;> simp [getArr] at h
  | cons f S ih =>
    cases n with
    | zero => simp
    | succ n => simp only [getArr] at h; have := ih h; simp; omega
theorem getBox_lt {S : Sto} {n t : Nat} {A : List PV} (h : getBox S n t = some A) : n < S.length := by
  induction S generalizing n with
  | nil => cases n <;> simp [getBox] at h
  | cons f S ih =>
    cases n with
    | zero => simp
    | succ n => simp only [getBox] at h; have := ih h; simp; omega
theorem setArr_length (S : Sto) (n : Nat) (k : AK) (A : Arr) : (setArr S n k A).length = S.length := by
  induction S generalizing n with
  | nil => cases n <;> simp [setArr]
  | cons f S ih => cases n <;> simp [setArr, ih]
/-! ### A row is frozen -/
/-- The cells from lo on, below hi, of block b0 are frozen, too. -/
def frzFz (fz : Fz) (w : World) (b0 lo hi : Nat) : Fz := fun b o => if b = b0 ∧ lo ≤ o ∧ o < hi then w.cell? ⟨b, o, none⟩ else fz b o
theorem frzFz_sub {fz : Fz} {b0 lo hi : Nat} (h : ∀ b o v, fz b o = some v → w.cell? ⟨b, o, none⟩ = some v) : ∀ b o v, fz b o = some v → frzFz fz w b0 lo hi b o = some v := fun b o v hv => by
  unfold frzFz
  split
  · exact h b o v hv
  · exact hv
theorem frzFz_holds {fz : Fz} {b0 lo hi : Nat} (h : ∀ b o v, fz b o = some v → w.cell? ⟨b, o, none⟩ = some v) : ∀ b o v, frzFz fz w b0 lo hi b o = some v → w.cell? ⟨b, o, none⟩ = some v := fun b o v hv => by
  unfold frzFz at hv
  split at hv
  · exact hv
  · exact h b o v hv
theorem cell_pos {i j len sz : Nat} (hi : i < len) (hj : j < sz) : i * sz + j < len * sz := by
  have : (i + 1) * sz ≤ len * sz := Nat.mul_le_mul_right _ hi
  rw [Nat.add_mul] at this
  omega
/-- A row under a name is frozen. -/
theorem WR.freeze (hw : WR g S w) {n : Nat} {k : AK} {A : Arr} (hA : getArr S n k = some A) {ai : AI} (ha : g.a n k = some ai) : ∃ g', WR g' (setArr S n k { A with frz := true }) w ∧ Ext g g' ∧ Tr g w g' w ∧ g'.a n k = some ai ∧
    ∀ ad i j row v, ai.A = some ad → A.rows[i]? = some row → row[j]? = some v → ∃ c, g'.fz ad.block (ad.off + (i * A.sz + j)) = some c ∧ FR g'.fz v c := by
  obtain ⟨A', hA', hr⟩ := hw.arr n k ai ha
  obtain rfl : A = A' := Option.some.inj (hA.symm.trans hA')
  have hlt := getArr_lt hA
  obtain ⟨cs, c1, c2⟩ := hr.cells
  obtain ⟨φ, hφ⟩ : ∃ φ : Fz, (∃ b0, ai.blk = some b0 ∧ φ = frzFz g.fz w b0 0 (ai.len * A.sz)) ∨ (ai.blk = none ∧ φ = g.fz) := by
    cases hb : ai.blk with
    | none => exact ⟨_, .inr ⟨rfl, rfl⟩⟩
    | some b0 => exact ⟨_, .inl ⟨b0, rfl, rfl⟩⟩
  have hsub : ∀ b o v, g.fz b o = some v → φ b o = some v := by
    intro b o v hv
    rcases hφ with ⟨b0, _, rfl⟩ | ⟨_, rfl⟩
    · exact frzFz_sub hw.fz b o v hv
    · exact hv
  have hhold : ∀ b o v, φ b o = some v → w.cell? ⟨b, o, none⟩ = some v := by
    intro b o v hv
    rcases hφ with ⟨b0, _, rfl⟩ | ⟨_, rfl⟩
    · exact frzFz_holds hw.fz b o v hv
    · exact hw.fz b o v hv
  have hcell : ∀ ad i j row v, ai.A = some ad → A.rows[i]? = some row → row[j]? = some v → φ ad.block (ad.off + (i * A.sz + j)) = some (cs i j) := by
    intro ad i j row v had hi hj
    obtain ⟨h4, h5⟩ := c2 ad i j row v had hi hj
    rcases hφ with ⟨b0, hb, rfl⟩ | ⟨hb, rfl⟩
    · have hA1 := (hr.own b0 hb).1
      rw [had] at hA1
      obtain rfl := Option.some.inj hA1
      have hi' : i < ai.len := by rw [hr.len]; exact (List.getElem?_eq_some_iff.1 hi).1
      have hj' : j < A.sz := by rw [← hr.each row (List.mem_of_getElem? hi)]; exact (List.getElem?_eq_some_iff.1 hj).1
      have := cell_pos hi' hj'
      dsimp only [frzFz]
      rw [if_pos ⟨rfl, by omega, by omega⟩]
      exact h4
    · rcases (hr.free hb).2 with h | h
      · exact h5 h
      · rw [h] at hi; simp at hi
  have hrel : ArrRel ⟨g.b, g.a, φ⟩ w { A with frz := true } ai := by
    refine ⟨hr.sz, hr.len, hr.gen, hr.each, hr.cap, hr.addr, ⟨cs, fun i j row v hi hj => (c1 i j row v hi hj).mono hsub, fun ad i j row v had hi hj => ⟨(c2 ad i j row v had hi hj).1, fun _ => hcell ad i j row v had hi hj⟩⟩, ?_, fun hb => ⟨(hr.free hb).1, .inl rfl⟩⟩
    intro b hb
    obtain ⟨h1, h2, h3, _⟩ := hr.own b hb
    refine ⟨h1, h2, fun o ho => ?_, fun h => by cases h⟩
    dsimp only at ho ⊢
    rcases hφ with ⟨b0, hb0, rfl⟩ | ⟨hb0, rfl⟩
    · rw [hb] at hb0
      obtain rfl := Option.some.inj hb0
      unfold frzFz
      rw [if_neg (by omega)]
      exact h3 o ho
    · exact h3 o ho
  obtain ⟨hw', hx⟩ := hw.put (S' := setArr S n k { A with frz := true }) (w' := w) (n := n) (k := k) hhold hsub (fun x b hne hb => ⟨rfl, fun o => by
    rcases hφ with ⟨b0, hb0, rfl⟩ | ⟨hb0, rfl⟩
    · unfold frzFz
      rw [if_neg]
      rintro ⟨rfl, _⟩
      exact hne (hw.inj x (.arr n k) b hb (by simp [Gh.own, ha, hb0]))
    · rfl⟩) hrel (fun b hb x hne hx => hne (hw.inj x (.arr n k) b hx (by simp [Gh.own, ha, hb]))) (fun ai0 h => by rw [ha] at h; cases h; exact AIle.refl _) (nm_some ha) (by rw [getArr_set, if_pos ⟨rfl, rfl, hlt⟩])
    (fun m t b _ => getBox_setArr _ _ _ _ _ _) (fun m j _ hne _ => by rw [getArr_set, if_neg (fun e => hne ⟨e.1, e.2.1⟩)])
  refine ⟨_, hw', hx, tr_put hx rfl rfl rfl (Nat.le_refl _) (fun _ _ _ => rfl) (fun b hb => .inl (by simp [Gh.own, ha, hb])), by simp [Gh.put], fun ad i j row v had hi hj => ⟨cs i j, hcell ad i j row v had hi hj, (c1 i j row v hi hj).mono hsub⟩⟩
theorem hand1_ok (hw : WR g S w) {v v' : PV} {c : Value} (h : VR g v c) (hh : hand1 S v = some (v', S')) : ∃ g', WR g' S' w ∧ Ext g g' ∧ Tr g w g' w ∧ VR g' v' c := by
  have same : ∀ v'', VR g v'' c → some (v'', S) = some (v', S') → ∃ g', WR g' S' w ∧ Ext g g' ∧ Tr g w g' w ∧ VR g' v' c := by
    intro v'' h1 h2
    cases h2
    exact ⟨g, hw, Ext.refl _, Tr.refl _ _, h1⟩
  unfold hand1 at hh
  split at hh
  · rename_i z
    refine same _ ?_ hh
    cases h with | data _ _ h => cases h with | nils z A =>
    exact .data _ _ (.list z [] false A 0 (fun _ _ => undef) (Nat.le_refl _) (by simp) (by simp) (by simp) (by simp) (by simp))
  · rename_i z rows f
    refine same _ ?_ hh
    cases h with | data _ _ h => cases h with | list _ _ _ A cap cs hl hf hs hA hc hv =>
    exact .data _ _ (.list z rows false A cap cs hl (by simp) hs hA hc hv)
  · rename_i n k off len ver gen f
    split at hh
    · rename_i R hR
      split at hh
      · rename_i hcur
        cases hh
        cases h with
        | data _ _ h => cases h
        | sl _ _ _ _ _ _ _ ai _ hai hle h1c hs =>
          obtain ⟨R', hR', hr⟩ := hw.arr n k ai hai
          obtain rfl : R = R' := Option.some.inj (hR.symm.trans hR')
          obtain ⟨A, cap, rfl, sa⟩ := hs (hr.gen.trans hcur.1) (hr.len.trans hcur.2)
          obtain ⟨g', hw', hx, ht, ha', hc⟩ := hw.freeze hR hai
          refine ⟨g', hw', hx, ht, ?_⟩
          have hfit : off + len ≤ R.rows.length := by rw [← hr.len]; exact sa.fits
          have hlen : ((R.rows.drop off).take len).length = len := by rw [List.length_take, List.length_drop]; omega
          have hget : ∀ i row, ((R.rows.drop off).take len)[i]? = some row → R.rows[off + i]? = some row ∧ i < len := by
            intro i row hi
            rw [List.getElem?_take] at hi
            split at hi
            · rename_i hlt
              rw [List.getElem?_drop] at hi
              exact ⟨hi, hlt⟩
            · cases hi
          have haddr : 0 < len → ∃ ad, ai.A = some ad ∧ ad.spot = none ∧ A = some ⟨ad.block, ad.off + off * R.sz, none⟩ := by
            intro hp
            obtain ⟨ad, q1, q2, q3⟩ := sa.pos hp
            exact ⟨ad, q1, q2, by rw [q3, hr.sz]⟩
          have key := FR.list (fz := g'.fz) R.sz ((R.rows.drop off).take len) false A cap (fun i j => match ai.A with | some ad => (g'.fz ad.block (ad.off + ((off + i) * R.sz + j))).getD undef | none => undef) (by rw [hlen]; exact sa.le) (by simp)
            (fun r hr' => hr.each r (List.mem_of_mem_drop (List.mem_of_mem_take hr'))) ?_ ?_ ?_
          · rw [hlen] at key
            exact .data _ _ key
          · intro hne
            have hp : 0 < len := by
              rcases Nat.eq_zero_or_pos len with h0 | h0
              · subst h0; simp at hne
              · exact h0
            obtain ⟨ad, _, _, q3⟩ := haddr hp
            exact ⟨_, q3, rfl⟩
          · intro ad i j row v had hi hj
            obtain ⟨hi', hlt⟩ := hget i row hi
            obtain ⟨ad', q1, q2, q3⟩ := haddr (by omega)
            rw [had] at q3
            obtain rfl := Option.some.inj q3
            obtain ⟨c, hc1, _⟩ := hc ad' (off + i) j row v q1 hi' hj
            simp only [q1]
            rw [hc1]
            rw [show ad'.off + off * R.sz + (i * R.sz + j) = ad'.off + ((off + i) * R.sz + j) by rw [Nat.add_mul]; omega]
            exact hc1
          · intro i j row v hi hj
            obtain ⟨hi', hlt⟩ := hget i row hi
            obtain ⟨ad', q1, q2, q3⟩ := haddr (by omega)
            obtain ⟨c, hc1, hc2⟩ := hc ad' (off + i) j row v q1 hi' hj
            simp only [q1]
            rw [hc1]
            exact hc2
      · cases hh
    · cases hh
  · exact same _ h hh
end
end Go.Proofs.Ytebflncfgjnkkaa.M

/- THE ABSTRACT MACHINE, fifteenth part: what is handed on; new variables; literals of rows. -/
namespace Go.Proofs.Ytebflncfgjnkkaa.M
set_option linter.unusedSimpArgs false
set_option linter.unusedVariables false
open Go
section
variable {g g' : Gh} {S S' : Sto} {w w' : World} {P : Program}
theorem handL_ok : ∀ (vs vs' : List PV) (S S' : Sto) (g : Gh) (f : Nat → Value), WR g S w → (∀ i v, vs[i]? = some v → VR g v (f i)) → handL S vs = some (vs', S') → ∃ g', WR g' S' w ∧ Ext g g' ∧ Tr g w g' w ∧ vs'.length = vs.length ∧ ∀ i v, vs'[i]? = some v → VR g' v (f i)
  | [], vs', S, S', g, f, hw, h, hh => by
    simp only [handL, Option.some.injEq, Prod.mk.injEq] at hh
    obtain ⟨rfl, rfl⟩ := hh
    exact ⟨g, hw, Ext.refl _, Tr.refl _ _, rfl, fun i v h => by simp at h⟩
  | v :: vs, vs', S, S', g, f, hw, h, hh => by
    simp only [handL] at hh
    split at hh
    · rename_i v1 S1 h1
      split at hh
      · rename_i vs2 S2 h2
        simp only [Option.some.injEq, Prod.mk.injEq] at hh
        obtain ⟨rfl, rfl⟩ := hh
        obtain ⟨g1, w1, x1, t1, r1⟩ := hand1_ok hw (h 0 v rfl) h1
        obtain ⟨g2, w2, x2, t2, e2, r2⟩ := handL_ok vs vs2 S1 S2 g1 (fun i => f (i + 1)) w1 (fun i v hi => (h (i + 1) v (by simpa using hi)).mono x1) h2
        refine ⟨g2, w2, x1.trans x2, t1.trans t2, by simp [e2], fun i v hi => ?_⟩
        cases i with
        | zero => simp at hi; subst hi; exact r1.mono x2
        | succ i => simp at hi; exact r2 i v hi
      · cases hh
    · cases hh
theorem hand_ok (hw : WR g S w) {v v' : PV} {c : Value} (h : VR g v c) (hh : hand S v = some (v', S')) : ∃ g', WR g' S' w ∧ Ext g g' ∧ Tr g w g' w ∧ VR g' v' c := by
  unfold hand at hh
  split at hh
  · rename_i vs
    split at hh
    · rename_i vs1 S1 h1
      simp only [Option.some.injEq, Prod.mk.injEq] at hh
      obtain ⟨rfl, rfl⟩ := hh
      obtain ⟨cs, rfl, h2, h3⟩ := h.agg_inv
      obtain ⟨g1, w1, x1, t1, e1, r1⟩ := handL_ok vs vs1 S S1 g (fun i => cs.getD i undef) hw h3 h1
      exact ⟨g1, w1, x1, t1, .agg _ _ (e1.trans h2) r1⟩
    · cases hh
  · exact hand1_ok hw h hh
theorem handA_ok : ∀ (vs vs' : List PV) (S S' : Sto) (g : Gh) (f : Nat → Value), WR g S w → (∀ i v, vs[i]? = some v → VR g v (f i)) → handA S vs = some (vs', S') → ∃ g', WR g' S' w ∧ Ext g g' ∧ Tr g w g' w ∧ vs'.length = vs.length ∧ ∀ i v, vs'[i]? = some v → VR g' v (f i)
  | [], vs', S, S', g, f, hw, h, hh => by
    simp only [handA, Option.some.injEq, Prod.mk.injEq] at hh
    obtain ⟨rfl, rfl⟩ := hh
    exact ⟨g, hw, Ext.refl _, Tr.refl _ _, rfl, fun i v h => by simp at h⟩
  | v :: vs, vs', S, S', g, f, hw, h, hh => by
    simp only [handA] at hh
    split at hh
    · rename_i v1 S1 h1
      split at hh
      · rename_i vs2 S2 h2
        simp only [Option.some.injEq, Prod.mk.injEq] at hh
        obtain ⟨rfl, rfl⟩ := hh
        obtain ⟨g1, w1, x1, t1, r1⟩ := hand_ok hw (h 0 v rfl) h1
        obtain ⟨g2, w2, x2, t2, e2, r2⟩ := handA_ok vs vs2 S1 S2 g1 (fun i => f (i + 1)) w1 (fun i v hi => (h (i + 1) v (by simpa using hi)).mono x1) h2
        refine ⟨g2, w2, x1.trans x2, t1.trans t2, by simp [e2], fun i v hi => ?_⟩
        cases i with
        | zero => simp at hi; subst hi; exact r1.mono x2
        | succ i => simp at hi; exact r2 i v hi
      · cases hh
    · cases hh
theorem hand1_length {v v' : PV} (hh : hand1 S v = some (v', S')) : S'.length = S.length := by
  unfold hand1 at hh
  split at hh
  · cases hh; rfl
  · cases hh; rfl
  · split at hh
    · split at hh
      · cases hh; exact setArr_length _ _ _ _
      · cases hh
    · cases hh
  · cases hh; rfl
theorem handL_length : ∀ (vs vs' : List PV) (S S' : Sto), handL S vs = some (vs', S') → S'.length = S.length
  | [], vs', S, S', hh => by simp only [handL, Option.some.injEq, Prod.mk.injEq] at hh; rw [hh.2]
  | v :: vs, vs', S, S', hh => by
    simp only [handL] at hh
    split at hh
    · rename_i v1 S1 h1
      split at hh
      · rename_i vs2 S2 h2
        simp only [Option.some.injEq, Prod.mk.injEq] at hh
        rw [← hh.2, handL_length vs vs2 S1 S2 h2, hand1_length h1]
      · cases hh
    · cases hh
theorem hand_length {v v' : PV} (hh : hand S v = some (v', S')) : S'.length = S.length := by
  unfold hand at hh
  split at hh
  · split at hh
    · rename_i vs1 S1 h1
      cases hh
      exact handL_length _ _ _ _ h1
    · cases hh
  · exact hand1_length hh
theorem handA_length : ∀ (vs vs' : List PV) (S S' : Sto), handA S vs = some (vs', S') → S'.length = S.length
  | [], vs', S, S', hh => by simp only [handA, Option.some.injEq, Prod.mk.injEq] at hh; rw [hh.2]
  | v :: vs, vs', S, S', hh => by
    simp only [handA] at hh
    split at hh
    · rename_i v1 S1 h1
      split at hh
      · rename_i vs2 S2 h2
        simp only [Option.some.injEq, Prod.mk.injEq] at hh
        rw [← hh.2, handA_length vs vs2 S1 S2 h2, hand_length h1]
      · cases hh
    · cases hh
/-! ### New variables -/
theorem initC_get (d : Nat) : ∀ (vs : List PV) (i j : Nat), (initC d i vs)[j]? = (vs[j]?).map fun v => match v with | .nils _ => .sl 0 (.cell d (i + j)) 0 0 0 0 false | v => v
  | [], i, j => by simp [initC]
  | v :: vs, i, 0 => by cases v <;> simp [initC]
  | v :: vs, i, j + 1 => by
    have ih := initC_get d vs (i + 1) j
    rw [show i + 1 + j = i + (j + 1) by omega] at ih
    cases v <;> simpa [initC] using ih
theorem initC_length (d : Nat) : ∀ (vs : List PV) (i : Nat), (initC d i vs).length = vs.length
  | [], i => rfl
  | v :: vs, i => by cases v <;> simp [initC, initC_length d vs]
theorem okA_get (d : Nat) : ∀ (vs : List PV) (i : Nat) (a : AK → Option Arr), okA d i vs a → ∀ j z, vs[j]? = some (.nils z) → a (.cell d (i + j)) = some ⟨z, [], false, 0⟩
  | [], i, a, _, j, z, h => by simp at h
  | v :: vs, i, a, ho, j, z, h => by
    have h2 : okA d (i + 1) vs a := by cases v <;> first | exact ho | exact ho.2
    cases j with
    | zero => simp at h; subst h; exact ho.1
    | succ j =>
      have := okA_get d vs (i + 1) a h2 j z (by simpa using h)
      rwa [show i + 1 + j = i + (j + 1) by omega] at this
theorem initA_other (d : Nat) : ∀ (vs : List PV) (i : Nat) (a : AK → Option Arr) (k : AK), (∀ j, i ≤ j → k ≠ .cell d j) → initA d i vs a k = a k
  | [], i, a, k, _ => rfl
  | v :: vs, i, a, k, h => by
    have h' : ∀ j, i + 1 ≤ j → k ≠ .cell d j := fun j hj => h j (by omega)
    cases v <;> simp only [initA] <;> rw [initA_other d vs _ _ k h']
    unfold updK
    rw [if_neg (h i (Nat.le_refl _))]
theorem initA_get (d : Nat) : ∀ (vs : List PV) (i : Nat) (a : AK → Option Arr) (j z : Nat), vs[j]? = some (.nils z) → initA d i vs a (.cell d (i + j)) = some ⟨z, [], false, 0⟩
  | [], i, a, j, z, h => by simp at h
  | v :: vs, i, a, j, z, h => by
    cases j with
    | zero =>
      simp at h
      subst h
      simp only [initA]
      rw [initA_other d vs _ _ _ (fun j hj e => by cases e; omega)]
      simp [updK]
    | succ j =>
      have ih := fun a => initA_get d vs (i + 1) a j z (by simpa using h)
      rw [show i + (j + 1) = i + 1 + j by omega]
      cases v <;> simp only [initA] <;> exact ih _
/-- Where the rows of a new variable lie that are nil: nowhere. -/
def nilAI (vs : List PV) (cs : Array Value) (i : Nat) : Option AI :=
  match vs[i]? with
  | some (.nils z) => (match cs.getD i undef with | .slice A _ _ => some ⟨A, 0, z, 0, 0, none⟩ | _ => none)
  | _ => none
def Gh.box (g : Gh) (d n : Nat) (vs : List PV) (cs : Array Value) : Gh :=
  ⟨fun m t => if m = 0 ∧ t = d then some n else g.b m t, fun m k => match m, k with | 0, .cell t i => if t = d then nilAI vs cs i else g.a 0 (.cell t i) | m, k => g.a m k, g.fz⟩
/-- A variable of slot d is made: vs is what it holds. -/
theorem mkBox (hw : WR g S w) {d : Nat} (hb : g.b 0 d = none) (ha : ∀ i, g.a 0 (.cell d i) = none) {vs : List PV} {cs : Array Value} (hc : Cells g vs cs) (elem : TypeId) (h1 : getBox S' 0 d = some (initC d 0 vs)) (h2 : ∀ j z, vs[j]? = some (.nils z) → getArr S' 0 (.cell d j) = some ⟨z, [], false, 0⟩)
    (hSb : ∀ m t b, g.b m t = some b → getBox S' m t = getBox S m t) (hSa : ∀ m k ai, g.a m k = some ai → getArr S' m k = getArr S m k) :
    ∃ g', WR g' S' (w.alloc (.cells cs elem)) ∧ Exw g g' ∧ Tr g w g' (w.alloc (.cells cs elem)) ∧ g'.b 0 d = some w.heap.size ∧ ∀ t, t ≠ d → Bare g 0 t → Bare g' 0 t := by
  let g' := g.box d w.heap.size vs cs
  have hx : Exw g g' := by
    refine ⟨fun n t b h => ?_, fun n k ai h => ?_, fun _ _ _ h => h⟩
    · show (if n = 0 ∧ t = d then some w.heap.size else g.b n t) = some b
      rw [if_neg]
      · exact h
      · rintro ⟨rfl, rfl⟩
        rw [hb] at h
        cases h
    · refine ⟨ai, ?_, AIle.refl _⟩
      cases n with
      | succ n => exact h
      | zero =>
        cases k with
        | slot t => exact h
        | cell t i =>
          show (if t = d then nilAI vs cs i else g.a 0 (.cell t i)) = some ai
          rw [if_neg]
          · exact h
          · rintro rfl
            rw [ha] at h
            cases h
  have hown : ∀ x b, g'.own x = some b → (x = .box 0 d ∧ b = w.heap.size) ∨ g.own x = some b := by
    intro x b h
    cases x with
    | box n t =>
      simp only [Gh.own, g', Gh.box] at h
      split at h
      · rename_i e
        obtain ⟨rfl, rfl⟩ := e
        exact .inl ⟨rfl, (Option.some.inj h).symm⟩
      · exact .inr h
    | arr n k =>
      cases n with
      | succ n => exact .inr h
      | zero =>
        cases k with
        | slot t => exact .inr h
        | cell t i =>
          simp only [Gh.own, g', Gh.box] at h
          split at h
          · unfold nilAI at h
            split at h
            · split at h <;> simp at h
            · simp at h
          · exact .inr h
  have hw1 := hw.alloc (.cells cs elem)
  have hfznew : ∀ o, g.fz w.heap.size o = none := by
    intro o
    cases h : g.fz w.heap.size o with
    | none => rfl
    | some v => exact absurd (cell_lt (hw.fz _ _ _ h)) (Nat.lt_irrefl _)
  refine ⟨g', ⟨hw1.fz, ?_, ?_, ?_⟩, hx, ⟨rfl, rfl, rfl, by rw [alloc_size]; omega, fun _ _ _ h => h, fun k hk _ => alloc_heap w _ hk, fun x k h => ?_, ?_⟩, ?_, ?_⟩
  · intro n t b h
    by_cases e : n = 0 ∧ t = d
    · obtain ⟨rfl, rfl⟩ := e
      have hbn : b = w.heap.size := by
        have : g'.b 0 t = some w.heap.size := by simp [g', Gh.box]
        rw [this] at h
        exact (Option.some.inj h).symm
      subst hbn
      refine ⟨_, cs, elem, h1, alloc_new w _, by rw [initC_length]; exact hc.1, fun i v hi => ?_, hfznew⟩
      rw [initC_get, Option.map_eq_some_iff] at hi
      obtain ⟨v0, hv0, hv⟩ := hi
      have hr0 := hc.2 i v0 hv0
      simp only [PV.upN]
      cases v0 with
      | nils z =>
        simp only [Nat.zero_add] at hv
        subst hv
        cases hr0 with | data _ _ hr0 =>
        generalize hcd : cs.getD i Go.undef = c at hr0
        cases hr0 with | nils _ A =>
        refine .sl 0 (.cell t i) 0 0 0 0 false ⟨A, 0, z, 0, 0, none⟩ _ ?_ (.inr ⟨rfl, Nat.le_refl _⟩) rfl (fun _ _ => ⟨A, 0, rfl, ⟨Nat.le_refl _, Nat.le_refl _, (fun _ => rfl), (fun h => absurd h (Nat.lt_irrefl _)), (fun h => by cases h), (fun _ _ _ => rfl)⟩⟩)
        simp only [g', Gh.box, nilAI, hv0, hcd, if_true]
      | _ => simp only at hv; subst hv; exact hr0.monow hx
    · have h' : g.b n t = some b := by
        simp only [g', Gh.box, if_neg e] at h
        exact h
      obtain ⟨us, cs', elem', q1, q2, q3, q4, q5⟩ := hw1.box n t b h'
      exact ⟨us, cs', elem', (hSb n t b h').trans q1, q2, q3, fun i v hi => (q4 i v hi).monow hx, q5⟩
  · intro n k ai h
    have old : g.a n k = some ai → ∃ A, getArr S' n k = some A ∧ ArrRel g' (w.alloc (.cells cs elem)) A ai := by
      intro h'
      obtain ⟨A, q1, q2⟩ := hw1.arr n k ai h'
      exact ⟨A, (hSa n k ai h').trans q1, q2.ghost rfl⟩
    cases n with
    | succ n => exact old h
    | zero =>
      cases k with
      | slot t => exact old h
      | cell t i =>
        simp only [g', Gh.box] at h
        split at h
        · rename_i e
          subst e
          unfold nilAI at h
          split at h
          · rename_i z hz
            split at h
            · cases h
              refine ⟨_, h2 i z hz, ⟨rfl, rfl, rfl, (fun r hr => by cases hr), Nat.le_refl _, fun h => absurd rfl h, ⟨fun _ _ => undef, (fun i j row v hi => by simp at hi), (fun ad i j row v _ hi => by simp at hi)⟩, (fun b hb => by cases hb), fun _ => ⟨rfl, .inr rfl⟩⟩⟩
            · cases h
          · cases h
        · exact old h
  · intro x y b hx1 hy1
    rcases hown x b hx1 with ⟨rfl, e1⟩ | e1 <;> rcases hown y b hy1 with ⟨rfl, e2⟩ | e2
    · rfl
    · have := hw.own_lt e2; omega
    · have := hw.own_lt e1; omega
    · exact hw.inj x y b e1 e2
  · rcases hown x k h with ⟨_, rfl⟩ | h
    · exact .inr (Nat.le_refl _)
    · exact .inl h
  · exact ⟨⟨fun n t b hb => hx.b (n + 1) t b hb, fun n k ai ha => hx.a (n + 1) k ai ha, hx.fz⟩, fun n t hb => hb⟩
  · simp [g', Gh.box]
  · intro t ht hb
    refine ⟨?_, fun i => ?_⟩
    · show (if 0 = 0 ∧ t = d then some w.heap.size else g.b 0 t) = none
      rw [if_neg (fun e => ht e.2)]
      exact hb.1
    · show (if t = d then nilAI vs cs i else g.a 0 (.cell t i)) = none
      rw [if_neg ht]
      exact hb.2 i
end
end Go.Proofs.Ytebflncfgjnkkaa.M

/- THE ABSTRACT MACHINE, sixteenth part: rows that grow; cells that are written. -/
namespace Go.Proofs.Ytebflncfgjnkkaa.M
set_option linter.unusedSimpArgs false
set_option linter.unusedVariables false
open Go
section
variable {g g' : Gh} {S S' : Sto} {w w' : World} {P : Program}
theorem WR.fz_new (hw : WR g S w) (o : Nat) : g.fz w.heap.size o = none := by
  cases h : g.fz w.heap.size o with
  | none => rfl
  | some v => exact absurd (cell_lt (hw.fz _ _ _ h)) (Nat.lt_irrefl _)
/-- A row in a block of its own that is new. -/
theorem growRow (hw : WR g S w) {n : Nat} {k : AK} {A : Arr} {cap : Nat} {cells : Array Value} (e : TypeId) (hsz : cells.size = cap * A.sz) (heach : ∀ r ∈ A.rows, r.length = A.sz) (hcap : A.rows.length ≤ cap) {cs : Nat → Nat → Value}
    (hcs : ∀ i j row v, A.rows[i]? = some row → row[j]? = some v → cells[i * A.sz + j]? = some (cs i j) ∧ FR g.fz v (cs i j)) (hn : n < S.length)
    (hle : ∀ ai0, g.a n k = some ai0 → AIle ai0 ⟨some ⟨w.heap.size, 0, none⟩, cap, A.sz, A.rows.length, A.gen, some w.heap.size⟩) (hnm : ∀ t i, k = .cell t i → ¬ Bare g n t) :
    ∃ g', WR g' (setArr S n k A) (w.drew.alloc (.cells cells e)) ∧ Ext g g' ∧ Tr g w g' (w.drew.alloc (.cells cells e)) ∧ g'.a n k = some ⟨some ⟨w.heap.size, 0, none⟩, cap, A.sz, A.rows.length, A.gen, some w.heap.size⟩ := by
  let ai : AI := ⟨some ⟨w.heap.size, 0, none⟩, cap, A.sz, A.rows.length, A.gen, some w.heap.size⟩
  let w' := w.drew.alloc (.cells cells e)
  have hw1 : WR g S w' := hw.drew.alloc _
  have hnew : w'.heap[w.heap.size]? = some (.cells cells e) := alloc_new w.drew _
  have hcell : ∀ o, w'.cell? ⟨w.heap.size, o, none⟩ = cells[o]? := by
    intro o
    simp [World.cell?, hnew]
  let φ : Fz := frzFz g.fz w' w.heap.size 0 (if A.frz = true then A.rows.length * A.sz else 0)
  have hφ : ∀ b o, b ≠ w.heap.size → φ b o = g.fz b o := by
    intro b o hb
    simp only [φ, frzFz]
    rw [if_neg (fun h => hb h.1)]
  have hsub := frzFz_sub (w := w') (b0 := w.heap.size) (lo := 0) (hi := if A.frz = true then A.rows.length * A.sz else 0) hw1.fz
  have hrel : ArrRel ⟨g.b, g.a, φ⟩ w' A ai := by
    refine ⟨rfl, rfl, rfl, heach, hcap, fun _ => ⟨_, rfl, rfl⟩, ⟨cs, fun i j row v hi hj => (hcs i j row v hi hj).2.mono hsub, fun ad i j row v had hi hj => ?_⟩, ?_, fun h => by cases h⟩
    · obtain rfl := Option.some.inj had
      have h1 := (hcs i j row v hi hj).1
      simp only [Nat.zero_add]
      refine ⟨(hcell _).trans h1, fun hf => ?_⟩
      have := cell_pos (List.getElem?_eq_some_iff.1 hi).1 (show j < A.sz by rw [← heach row (List.mem_of_getElem? hi)]; exact (List.getElem?_eq_some_iff.1 hj).1)
      simp only [φ, frzFz, hf, if_true]
      rw [if_pos ⟨trivial, by omega, this⟩]
      exact (hcell _).trans h1
    · intro b hb
      obtain rfl := Option.some.inj hb
      refine ⟨rfl, ⟨cells, e, hnew, hsz⟩, fun o ho => ?_, fun hf o => ?_⟩
      · simp only [φ, frzFz, ai] at ho ⊢
        rw [if_neg]
        · exact hw.fz_new o
        · rintro ⟨_, _, h⟩
          split at h <;> omega
      · simp only [φ, frzFz, hf, Bool.false_eq_true, if_false]
        rw [if_neg (by omega)]
        exact hw.fz_new o
  obtain ⟨h1, h2⟩ := hw.put (w' := w') (S' := setArr S n k A) (n := n) (k := k) (φ := φ) (frzFz_holds hw1.fz) hsub (fun x b _ hb => by
    have hlt := hw.own_lt hb
    exact ⟨alloc_heap w.drew _ hlt, fun o => hφ b o (by omega)⟩) hrel (fun b hb x _ hx => by
      obtain rfl := Option.some.inj hb
      exact absurd (hw.own_lt hx) (Nat.lt_irrefl _)) hle hnm (by rw [getArr_set, if_pos ⟨rfl, rfl, hn⟩]) (fun m t b _ => getBox_setArr _ _ _ _ _ _) (fun m j _ hne _ => by rw [getArr_set, if_neg (fun e => hne ⟨e.1, e.2.1⟩)])
  exact ⟨_, h1, h2, tr_put h2 rfl rfl rfl (by show w.heap.size ≤ (w.drew.alloc _).heap.size; rw [alloc_size]; exact Nat.le_succ _) (fun j hj _ => alloc_heap w.drew _ hj) (fun b hb => .inr (by obtain rfl := Option.some.inj hb; exact Nat.le_refl _)), by simp [Gh.put, ai]⟩
/-- A row that is as it was, frozen: under a name of its own. -/
theorem aliasRow (hw : WR g S w) {n : Nat} {k : AK} {A : Arr} {a : Option Addr} {cap : Nat} (hcap : cap = A.rows.length) (heach : ∀ r ∈ A.rows, r.length = A.sz) (haddr : A.rows ≠ [] → ∃ ad, a = some ad ∧ ad.spot = none) {cs : Nat → Nat → Value}
    (hcs : ∀ ad i j row v, a = some ad → A.rows[i]? = some row → row[j]? = some v → g.fz ad.block (ad.off + (i * A.sz + j)) = some (cs i j)) (hfr : ∀ i j row v, A.rows[i]? = some row → row[j]? = some v → FR g.fz v (cs i j)) (hf : A.frz = true ∨ A.rows = []) (hn : n < S.length)
    (hle : ∀ ai0, g.a n k = some ai0 → AIle ai0 ⟨a, cap, A.sz, A.rows.length, A.gen, none⟩) (hnm : ∀ t i, k = .cell t i → ¬ Bare g n t) :
    ∃ g', WR g' (setArr S n k A) w ∧ Ext g g' ∧ Tr g w g' w ∧ g'.a n k = some ⟨a, cap, A.sz, A.rows.length, A.gen, none⟩ := by
  subst hcap
  let ai : AI := ⟨a, A.rows.length, A.sz, A.rows.length, A.gen, none⟩
  have hrel : ArrRel ⟨g.b, g.a, g.fz⟩ w A ai := by
    refine ⟨rfl, rfl, rfl, heach, Nat.le_refl _, haddr, ⟨cs, hfr, fun ad i j row v had hi hj => ?_⟩, (fun b hb => by cases hb), fun _ => ⟨rfl, hf⟩⟩
    have := hcs ad i j row v had hi hj
    exact ⟨hw.fz _ _ _ this, fun _ => this⟩
  obtain ⟨h1, h2⟩ := hw.put (w' := w) (S' := setArr S n k A) (n := n) (k := k) (φ := g.fz) hw.fz (fun _ _ _ h => h) (fun x b _ _ => ⟨rfl, fun _ => rfl⟩) hrel (fun b hb => by cases hb) hle hnm (by rw [getArr_set, if_pos ⟨rfl, rfl, hn⟩]) (fun m t b _ => getBox_setArr _ _ _ _ _ _) (fun m j _ hne _ => by rw [getArr_set, if_neg (fun e => hne ⟨e.1, e.2.1⟩)])
  exact ⟨_, h1, h2, tr_put h2 rfl rfl rfl (Nat.le_refl _) (fun _ _ _ => rfl) (fun b hb => by cases hb), by simp [Gh.put, ai]⟩
/-! ### Cells of a block are written -/
theorem setCells_heap (b : Nat) : ∀ (vs : List Value) (o : Nat) (w : World) (cs : Array Value) (e : TypeId) (fr : Nat × Nat), w.heap[b]? = some (.cells cs e fr) → ∃ cs', (w.setCells b o vs).heap[b]? = some (.cells cs' e fr) ∧ cs'.size = cs.size ∧
    (∀ i, cs'[i]? = if o ≤ i ∧ i < o + vs.length ∧ i < cs.size then vs[i - o]? else cs[i]?)
  | [], o, w, cs, e, fr, h => ⟨cs, h, rfl, fun i => by rw [if_neg (by simp only [List.length_nil]; omega)]⟩
  | v :: vs, o, w, cs, e, fr, h => by
    have h1 : (w.setCell ⟨b, o, none⟩ v).heap[b]? = some (.cells (cs.setIfInBounds o v) e fr) := by
      simp only [World.setCell, Array.getElem?_modify, if_true, h, Option.map_some]
      simp
    obtain ⟨cs', q1, q2, q3⟩ := setCells_heap b vs (o + 1) _ _ e fr h1
    refine ⟨cs', by rw [World.setCells]; exact q1, by rw [q2]; simp, fun i => ?_⟩
    rw [q3 i]
    simp only [List.length_cons, Array.size_setIfInBounds]
    by_cases e1 : i = o
    · subst e1
      rw [if_neg (by omega)]
      by_cases hlt : i < cs.size
      · rw [if_pos (by omega), Array.getElem?_setIfInBounds_self_of_lt hlt]
        simp
      · rw [if_neg (by omega), Array.getElem?_eq_none (by simp; omega), Array.getElem?_eq_none (by omega)]
    · by_cases e2 : o + 1 ≤ i ∧ i < o + 1 + vs.length ∧ i < cs.size
      · rw [if_pos e2, if_pos (by omega)]
        have : i - o = (i - (o + 1)) + 1 := by omega
        rw [this, List.getElem?_cons_succ]
      · rw [if_neg e2, if_neg (by omega), Array.getElem?_setIfInBounds_ne (by omega)]
theorem setCells_other (b : Nat) : ∀ (vs : List Value) (o : Nat) (w : World) (k : Nat), k ≠ b → (w.setCells b o vs).heap[k]? = w.heap[k]?
  | [], _, _, _, _ => rfl
  | v :: vs, o, w, k, h => by
    rw [World.setCells, setCells_other b vs (o + 1) _ k h]
    exact Go.RowKit.Below.heap_setCell w ⟨b, o, none⟩ v k h
theorem setCells_rest (b : Nat) : ∀ (vs : List Value) (o : Nat) (w : World), (w.setCells b o vs).os = w.os ∧ (w.setCells b o vs).tape = w.tape ∧ (w.setCells b o vs).output = w.output ∧ (w.setCells b o vs).heap.size = w.heap.size
  | [], _, _ => ⟨rfl, rfl, rfl, rfl⟩
  | v :: vs, o, w => by
    obtain ⟨h1, h2, h3, h4⟩ := setCells_rest b vs (o + 1) (w.setCell ⟨b, o, none⟩ v)
    rw [World.setCells]
    exact ⟨h1, h2, h3, h4.trans (by simp [World.setCell])⟩
theorem there_of {b : Nat} {cs : Array Value} {e : TypeId} (h : w.heap[b]? = some (.cells cs e (0, 0))) {o n : Nat} (hn : o + n ≤ cs.size) : w.there b o n := fun j hj => by
  have hlt : o + j < cs.size := by omega
  refine ⟨?_, ?_⟩
  · simp [World.cell?, h, hlt]
  · simp [World.frozen?, h]
theorem store_run {t : TypeId} {i : TypeInfo} (hi : P.info? t = some i) {b o : Nat} {c : Value} (hsz : c.cells.size = i.size) (ht : w.there b o c.cells.size) (h1 : ∀ v ∈ c.cells.toList, v.oneCell' = true) :
    (Instr.storeAt t (.pointer (some ⟨b, o, none⟩)) c).run P w = .ok () (w.setCells b o c.cells.toList) := by
  have := run_storeCells_cells (P := P) b o c.cells.toList 0 w (fun j hj => by simpa using (ht j (by simpa using hj)).1) (fun j hj => by simpa using (ht j (by simpa using hj)).2) h1
  simp only [Nat.add_zero] at this
  simp [Instr.storeAt, Instr.sureAddr, storeVar, sizeOf, typeInfo, hi, hsz, this]
end
end Go.Proofs.Ytebflncfgjnkkaa.M

/- THE ABSTRACT MACHINE, seventeenth part: stores. -/
namespace Go.Proofs.Ytebflncfgjnkkaa.M
set_option linter.unusedSimpArgs false
set_option linter.unusedVariables false
open Go
section
variable {g g' : Gh} {S S' : Sto} {w w' : World} {P : Program}
mutual
theorem dn_up : ∀ (v u : PV), v.dn = some u → u.up = v
  | .bool _, u, h | .int _ _, u, h | .str _, u, h | .nils _, u, h | .list _ _ _, u, h | .rowp _ _, u, h | .nili, u, h | .undef, u, h | .junk, u, h => by simp only [PV.dn, Option.some.injEq] at h; subst h; rfl
  | .agg vs, u, h => by
    simp only [PV.dn, Option.map_eq_some_iff] at h
    obtain ⟨us, hus, rfl⟩ := h
    simp [PV.up, dnL_up vs us hus]
  | .tup vs, u, h => by
    simp only [PV.dn, Option.map_eq_some_iff] at h
    obtain ⟨us, hus, rfl⟩ := h
    simp [PV.up, dnL_up vs us hus]
  | .ptr n t o, u, h => by
    cases n with
    | zero => simp [PV.dn] at h
    | succ n => simp only [PV.dn, Option.some.injEq] at h; subst h; rfl
  | .elem n a i o v g, u, h => by
    cases n with
    | zero => simp [PV.dn] at h
    | succ n => simp only [PV.dn, Option.some.injEq] at h; subst h; rfl
  | .sl n a o l v g f, u, h => by
    cases n with
    | zero => simp [PV.dn] at h
    | succ n => simp only [PV.dn, Option.some.injEq] at h; subst h; rfl
  | .func f caps, u, h => by
    simp only [PV.dn, Option.map_eq_some_iff] at h
    obtain ⟨us, hus, rfl⟩ := h
    simp [PV.up, dnL_up caps us hus]
  | .iface t v, u, h => by
    simp only [PV.dn, Option.map_eq_some_iff] at h
    obtain ⟨u', hu, rfl⟩ := h
    simp [PV.up, dn_up v u' hu]
theorem dnL_up : ∀ (vs us : List PV), PV.dnL vs = some us → PV.upL us = vs
  | [], us, h => by simp only [PV.dnL, Option.some.injEq] at h; subst h; rfl
  | v :: vs, us, h => by
    simp only [PV.dnL] at h
    cases hv : v.dn with
    | none => simp [hv] at h
    | some v' =>
      cases hvs : PV.dnL vs with
      | none => simp [hv, hvs] at h
      | some vs' =>
        simp only [hv, hvs, Option.some.injEq] at h
        subst h
        simp [PV.upL, dn_up v v' hv, dnL_up vs vs' hvs]
end
theorem dnN_up : ∀ (n : Nat) (v u : PV), PV.dnN n v = some u → PV.upN n u = v
  | 0, v, u, h => by simp only [PV.dnN, Option.some.injEq] at h; subst h; rfl
  | n + 1, v, u, h => by
    simp only [PV.dnN, Option.bind_eq_some_iff] at h
    obtain ⟨v', h1, h2⟩ := h
    rw [PV.upN, dnN_up n v' u h2, dn_up v v' h1]
theorem upN_sl (n m : Nat) (a : AK) (o l v g : Nat) (f : Bool) : PV.upN n (.sl m a o l v g f) = .sl (m + n) a o l v g f := by
  induction n with
  | zero => rfl
  | succ n ih => rw [PV.upN, ih]; rfl
theorem upN_list (n z : Nat) (rows : List (List PV)) (f : Bool) : PV.upN n (.list z rows f) = .list z rows f := by
  induction n with
  | zero => rfl
  | succ n ih => rw [PV.upN, ih]; rfl
/-- A box holds something else. -/
theorem WR.boxPut (hw : WR g S w) {n t b : Nat} (hb : g.b n t = some b) (hf : ∀ b o v, g.fz b o = some v → w'.cell? ⟨b, o, none⟩ = some v) (ho : ∀ k, k ≠ b → w'.heap[k]? = w.heap[k]?)
    {vs : List PV} {cs : Array Value} {e : TypeId} (h1 : getBox S' n t = some vs) (h2 : w'.heap[b]? = some (.cells cs e (0, 0))) (h3 : vs.length = cs.size) (h4 : ∀ i v, vs[i]? = some v → VR g (PV.upN n v) (cs.getD i undef))
    (hSb : ∀ m t', ¬ (m = n ∧ t' = t) → getBox S' m t' = getBox S m t') (hSa : ∀ m k, getArr S' m k = getArr S m k) : WR g S' w' := by
  have hother : ∀ x k, x ≠ .box n t → g.own x = some k → w'.heap[k]? = w.heap[k]? := fun x k hne hx => ho k (fun e => by subst e; exact hne (hw.inj x (.box n t) k hx hb))
  refine ⟨hf, ?_, ?_, hw.inj⟩
  · intro m t' b' hb'
    by_cases e : m = n ∧ t' = t
    · obtain ⟨rfl, rfl⟩ := e
      rw [hb] at hb'
      obtain rfl := Option.some.inj hb'
      obtain ⟨_, _, _, _, _, _, _, q⟩ := hw.box m t' b hb
      exact ⟨vs, cs, _, h1, h2, h3, h4, q⟩
    · obtain ⟨us, cs', e', q1, q2, q3⟩ := hw.box m t' b' hb'
      exact ⟨us, cs', e', (hSb m t' e).trans q1, (hother (.box m t') b' (by simpa using e) hb').trans q2, q3⟩
  · intro m k ai ha
    obtain ⟨A, q1, hr⟩ := hw.arr m k ai ha
    refine ⟨A, (hSa m k).trans q1, ?_⟩
    obtain ⟨us, c1, c2⟩ := hr.cells
    refine ⟨hr.sz, hr.len, hr.gen, hr.each, hr.cap, hr.addr, ⟨us, c1, fun ad i j row v had hi hj => ?_⟩, fun b' hb' => ?_, hr.free⟩
    · obtain ⟨h4, h5⟩ := c2 ad i j row v had hi hj
      refine ⟨?_, h5⟩
      cases hfr : A.frz with
      | true => exact hf _ _ _ (h5 hfr)
      | false =>
        cases hbk : ai.blk with
        | none =>
          rcases (hr.free hbk).2 with h | h
          · rw [hfr] at h; cases h
          · rw [h] at hi; simp at hi
        | some b' =>
          have hA := (hr.own b' hbk).1
          rw [had] at hA
          obtain rfl := Option.some.inj hA
          have := hother (.arr m k) b' (by simp) (by simp [Gh.own, ha, hbk])
          unfold World.cell? at h4 ⊢
          rw [this]
          exact h4
    · obtain ⟨q2, ⟨cells, elem, q3, q4⟩, q5⟩ := hr.own b' hb'
      exact ⟨q2, ⟨cells, elem, (hother (.arr m k) b' (by simp) (by simp [Gh.own, ha, hb'])).trans q3, q4⟩, q5⟩
theorem getBox_set (S : Sto) (n t : Nat) (A : List PV) (m t' : Nat) : getBox (setBox S n t A) m t' = if m = n ∧ t' = t ∧ n < S.length then some A else getBox S m t' := by
  induction S generalizing n m with
  | nil => cases n <;> cases m <;> simp [setBox, getBox]
  | cons f S ih =>
    cases n <;> cases m <;> simp [setBox, getBox, upd, ih]
theorem getArr_setBox (S : Sto) (n t : Nat) (A : List PV) (m : Nat) (k : AK) : getArr (setBox S n t A) m k = getArr S m k := by
  induction S generalizing n m with
  | nil => cases n <;> cases m <;> simp [setBox, getArr]
  | cons f S ih =>
    cases n <;> cases m <;> simp [setBox, getArr, ih]
theorem setBox_length (S : Sto) (n t : Nat) (A : List PV) : (setBox S n t A).length = S.length := by
  induction S generalizing n with
  | nil => cases n <;> simp [setBox]
  | cons f S ih => cases n <;> simp [setBox, ih]
theorem stCell_ok (hw : WR g S w) {n t o : Nat} {v u : PV} {c : Value} (hn : n < S.length) (hbx : ∃ b, g.b n t = some b) (h : VR g v c) (hs : stCell S n t o v = some (u, S')) :
    ∃ g', WR g' S' w ∧ Ext g g' ∧ Tr g w g' w ∧ VR g' (PV.upN n u) c ∧ S'.length = S.length ∧ ∀ m t', getBox S' m t' = getBox S m t' := by
  unfold stCell at hs
  split at hs
  · rename_i z
    cases hs
    cases h with | data _ _ h => cases h with | nils _ A =>
    let gen := match getArr S n (.cell t o) with | some A => A.gen + 1 | none => 0
    obtain ⟨g', w1, x1, t1, a1⟩ := aliasRow hw (n := n) (k := .cell t o) (A := ⟨z, [], false, gen⟩) (a := A) (cap := 0) (cs := fun _ _ => undef) rfl (fun r hr => by cases hr) (fun h => absurd rfl h) (fun _ i _ _ _ _ h => by simp at h) (fun i _ _ _ h => by simp at h) (.inr rfl) hn (fun ai0 h0 => by
      obtain ⟨A0, q1, q2⟩ := hw.arr n _ ai0 h0
      left
      simp only [gen, q1]
      rw [q2.gen]
      exact Nat.lt_succ_self _) (fun t' i e hb => by
        cases e
        obtain ⟨b, h⟩ := hbx
        rw [hb.1] at h
        cases h)
    refine ⟨g', w1, x1, t1, ?_, setArr_length _ _ _ _, fun m t' => getBox_setArr _ _ _ _ _ _⟩
    rw [upN_sl, Nat.zero_add]
    exact .sl _ _ _ _ _ _ _ _ _ a1 (.inr ⟨rfl, Nat.le_refl _⟩) rfl (fun _ _ => ⟨A, 0, rfl, ⟨Nat.le_refl _, Nat.le_refl _, (fun _ => rfl), (fun h => absurd h (Nat.lt_irrefl _)), (fun h => by cases h), (fun _ _ _ => rfl)⟩⟩)
  · rename_i z rows f
    cases hs
    refine ⟨g, hw, Ext.refl _, Tr.refl _ _, ?_, rfl, fun _ _ => rfl⟩
    rw [upN_list]
    cases h with | data _ _ h => cases h with | list _ _ _ A cap cs hl hf hs hA hc hv =>
    exact .data _ _ (.list z rows false A cap cs hl (by simp) hs hA hc hv)
  · rename_i m a off len ver gen f
    split at hs
    · rename_i e
      obtain ⟨rfl, rfl, rfl, rfl, rfl⟩ := e
      cases hs
      exact ⟨g, hw, Ext.refl _, Tr.refl _ _, by rw [upN_sl, Nat.zero_add]; exact h, rfl, fun _ _ => rfl⟩
    · obtain ⟨g', w1, x1, t1, r1⟩ := hand1_ok hw h hs
      have : ∃ z rows f, u = .list z rows f ∧ ∀ m t', getBox S' m t' = getBox S m t' := by
        simp only [hand1] at hs
        split at hs
        · split at hs
          · cases hs
            exact ⟨_, _, _, rfl, fun m t' => getBox_setArr _ _ _ _ _ _⟩
          · cases hs
        · cases hs
      obtain ⟨z, rows, f, rfl, hbx⟩ := this
      exact ⟨g', w1, x1, t1, by rw [upN_list]; exact r1, hand1_length hs, hbx⟩
  · rw [Option.map_eq_some_iff] at hs
    obtain ⟨u', hu, e⟩ := hs
    cases e
    exact ⟨g, hw, Ext.refl _, Tr.refl _ _, by rw [dnN_up n v _ hu]; exact h, rfl, fun _ _ => rfl⟩
theorem stCells_ok {n t : Nat} : ∀ (vs us : List PV) (o : Nat) (S S' : Sto) (g : Gh) (f : Nat → Value), WR g S w → n < S.length → (∃ b, g.b n t = some b) → (∀ i v, vs[i]? = some v → VR g v (f i)) → stCells S n t o vs = some (us, S') →
    ∃ g', WR g' S' w ∧ Ext g g' ∧ Tr g w g' w ∧ us.length = vs.length ∧ (∀ i v, us[i]? = some v → VR g' (PV.upN n v) (f i)) ∧ S'.length = S.length ∧ ∀ m t', getBox S' m t' = getBox S m t'
  | [], us, o, S, S', g, f, hw, hn, hbx, h, hh => by
    simp only [stCells, Option.some.injEq, Prod.mk.injEq] at hh
    obtain ⟨rfl, rfl⟩ := hh
    exact ⟨g, hw, Ext.refl _, Tr.refl _ _, rfl, (fun i v h => by simp at h), rfl, fun _ _ => rfl⟩
  | v :: vs, us, o, S, S', g, f, hw, hn, hbx, h, hh => by
    simp only [stCells] at hh
    split at hh
    · rename_i v1 S1 h1
      split at hh
      · rename_i vs2 S2 h2
        simp only [Option.some.injEq, Prod.mk.injEq] at hh
        obtain ⟨rfl, rfl⟩ := hh
        obtain ⟨g1, w1, x1, t1, r1, l1, b1⟩ := stCell_ok hw hn hbx (h 0 v rfl) h1
        obtain ⟨g2, w2, x2, t2, e2, r2, l2, b2⟩ := stCells_ok vs vs2 (o + 1) S1 S2 g1 (fun i => f (i + 1)) w1 (by omega) (hbx.imp fun b h => x1.b _ _ _ h) (fun i v hi => (h (i + 1) v (by simpa using hi)).mono x1) h2
        refine ⟨g2, w2, x1.trans x2, t1.trans t2, by simp [e2], fun i v hi => ?_, l2.trans l1, fun m t' => (b2 m t').trans (b1 m t')⟩
        cases i with
        | zero => simp at hi; subst hi; exact r1.mono x2
        | succ i => simp at hi; exact r2 i v hi
      · cases hh
    · cases hh
theorem cells_all_one {v : PV} {c : Value} (h : VR g v c) (h1 : v.cells.all PV.one = true) : ∀ u ∈ c.cells.toList, u.oneCell' = true := by
  intro u hu
  have hc := h.cells_ (cells_one h1)
  obtain ⟨i, hi⟩ := List.getElem?_of_mem hu
  have hlt : i < c.cells.size := by simpa using (List.getElem?_eq_some_iff.1 hi).1
  have hlt' : i < v.cells.length := by rw [hc.1]; exact hlt
  have hv := hc.2 i _ (List.getElem?_eq_getElem hlt')
  have : c.cells.getD i Go.undef = u := by
    rw [Array.getD_eq_getD_getElem?]
    have : c.cells[i]? = some u := by simpa using hi
    rw [this]
    rfl
  rw [this] at hv
  exact hv.oneCell (List.all_eq_true.1 h1 _ (List.getElem_mem hlt'))
/-- A store. -/
theorem store_ok (hw : WR g S w) {ty : TypeId} {k : Option Nat} (hk : kOf P ty = some k) {p v : PV} {a c : Value} (hp : VR g p a) (hv : VR g v c) (h : storeP S (k.getD 1) p v = some S') :
    ∃ w' g', (Instr.storeAt ty a c).run P w = .ok () w' ∧ WR g' S' w' ∧ Ext g g' ∧ Tr g w g' w' ∧ S'.length = S.length := by
  obtain ⟨it, hit, hsz⟩ : ∃ it, P.info? ty = some it ∧ it.size = k.getD 1 := by
    cases k with
    | none =>
      obtain ⟨d, hu, _, h1⟩ := kOf_none hk
      obtain ⟨i, hi⟩ := info_of hu
      exact ⟨i, hi, by rw [← cellsOf_info hi]; exact h1⟩
    | some k =>
      obtain ⟨d, hu, h1⟩ := kOf_some hk
      obtain ⟨i, hi⟩ := info_of hu
      exact ⟨i, hi, by rw [← cellsOf_info hi]; exact h1⟩
  unfold storeP at h
  split at h
  · rename_i hc
    obtain ⟨hlen, hone⟩ := hc
    have hcells := hv.cells_ (cells_one hone)
    have h1c := cells_all_one hv hone
    have hcsz : c.cells.size = k.getD 1 := by rw [← hcells.1]; exact hlen
    split at h
    · rename_i n t o
      obtain ⟨b, hb, rfl⟩ := hp.ptr_inv
      split at h
      · rename_i cs0 hcs0
        split at h
        · rename_i hfit
          split at h
          · rename_i us S1 hst
            obtain rfl := Option.some.inj h
            have hn := getBox_lt hcs0
            obtain ⟨g1, w1, x1, t1, e1, r1, l1, b1⟩ := stCells_ok v.cells us o S S1 g (fun i => c.cells.getD i Go.undef) hw hn ⟨_, hb⟩ hcells.2 hst
            have hb1 := x1.b _ _ _ hb
            obtain ⟨vs, cs, elem, q1, q2, q3, q4, q5⟩ := w1.box n t b hb1
            have hvs : vs = cs0 := by
              have := (b1 n t).symm.trans q1
              rw [hcs0] at this
              exact (Option.some.inj this).symm
            subst hvs
            have hth : w.there b o c.cells.size := there_of q2 (by omega)
            refine ⟨_, g1, store_run hit (by omega) hth h1c, ?_, x1, t1.trans ?_, ?_⟩
            · obtain ⟨cs', s1, s2, s3⟩ := setCells_heap b c.cells.toList o w cs elem _ q2
              refine w1.boxPut hb1 (vs := setAt vs o us) (cs := cs') ?_ (fun k hk => setCells_other b _ o w k hk) (by rw [getBox_set, if_pos ⟨rfl, rfl, by omega⟩]) s1 (by rw [setAt_length, s2]; exact q3) ?_ (fun m t' hne => by rw [getBox_set, if_neg (fun e => hne ⟨e.1, e.2.1⟩)]) (fun m k => getArr_setBox _ _ _ _ _ _)
              · intro b' o' v' hf
                have hne : b' ≠ b := fun e => by subst e; rw [q5] at hf; cases hf
                have := w1.fz b' o' v' hf
                unfold World.cell? at this ⊢
                rw [setCells_other b _ o w b' hne]
                exact this
              · intro i v' hi
                rw [setAt_get us vs o i (by omega)] at hi
                rw [Array.getD_eq_getD_getElem?, s3 i]
                split at hi
                · rename_i hin
                  rw [if_pos ⟨hin.1, by simp; omega, by omega⟩]
                  have := r1 (i - o) v' hi
                  rw [Array.getD_eq_getD_getElem?] at this
                  simpa using this
                · rename_i hin
                  rw [if_neg (by simp; omega)]
                  have := q4 i v' hi
                  rwa [Array.getD_eq_getD_getElem?] at this
            · obtain ⟨r1, r2, r3, r4⟩ := setCells_rest b c.cells.toList o w
              refine ⟨r1, r2, r3, by rw [r4]; exact Nat.le_refl _, fun _ _ _ h => h, fun k _ hne => setCells_other b _ o w k (fun e => by subst e; exact hne (.box n t) hb1), fun x k hx => .inl hx, Ext.refl _⟩
            · rw [setBox_length, l1]
          · cases h
        · cases h
      · cases h
    · rename_i n a i o ver gen
      split at h
      · rename_i us S1 hst
        split at h
        · rename_i R hR
          split at h
          · rename_i hcur
            split at h
            · rename_i row hrow
              split at h
              · rename_i hfit
                obtain rfl := Option.some.inj h
                obtain ⟨g1, w1, x1, t1, e1, r1⟩ := handL_ok v.cells us S S1 g (fun i => c.cells.getD i Go.undef) hw hcells.2 hst
                have hp1 := hp.mono x1
                cases hp1 with
                | data _ _ h => cases h
                | elem _ _ _ _ _ _ ai _ hai hle h1c' hs =>
                  obtain ⟨R', hR', hr⟩ := w1.arr n a ai hai
                  obtain rfl : R = R' := Option.some.inj (hR.symm.trans hR')
                  obtain ⟨ad, z1, z2, rfl⟩ := hs (hr.gen.trans hcur.1) (hr.len.trans hcur.2.1)
                  have hblk : ∃ b, ai.blk = some b := by
                    cases hb : ai.blk with
                    | some b => exact ⟨b, rfl⟩
                    | none =>
                      rcases (hr.free hb).2 with h | h
                      · rw [hcur.2.2.1] at h; cases h
                      · rw [h] at hrow; simp at hrow
                  obtain ⟨b, hb⟩ := hblk
                  obtain ⟨hA, ⟨cells, elem, hc1, hc2⟩, hc3, hc4⟩ := hr.own b hb
                  rw [z1] at hA
                  obtain rfl := Option.some.inj hA
                  simp only [Nat.zero_add]
                  have hi : i < R.rows.length := (List.getElem?_eq_some_iff.1 hrow).1
                  have hrl : row.length = R.sz := hr.each row (List.mem_of_getElem? hrow)
                  have hmul : (i + 1) * R.sz ≤ ai.cap * R.sz := Nat.mul_le_mul_right _ (by have := hr.cap; rw [hr.len] at this; omega)
                  rw [Nat.add_mul, Nat.one_mul] at hmul
                  have hth : w.there b (i * ai.sz + o) c.cells.size := there_of hc1 (by rw [hr.sz, hc2]; omega)
                  obtain ⟨cs', s1, s2, s3⟩ := setCells_heap b c.cells.toList (i * ai.sz + o) w cells elem _ hc1
                  obtain ⟨cs, c1, c2⟩ := hr.cells
                  have hus : ∀ j u, us[j]? = some u → FR g1.fz u (c.cells.getD j Go.undef) := fun j u hj => (r1 j u hj).pure_FR (List.all_eq_true.1 hcur.2.2.2 u (List.mem_of_getElem? hj))
                  have hown1 : g1.own (.arr n a) = some b := by simp [Gh.own, hai, hb]
                  have hfz : ∀ b' o' v', g1.fz b' o' = some v' → (w.setCells b (i * ai.sz + o) c.cells.toList).cell? ⟨b', o', none⟩ = some v' := by
                    intro b' o' v' hf
                    have hne : b' ≠ b := fun e => by subst e; rw [hc4 hcur.2.2.1] at hf; cases hf
                    have := w1.fz b' o' v' hf
                    unfold World.cell? at this ⊢
                    rw [setCells_other b _ _ w b' hne]
                    exact this
                  let A' : Arr := { R with rows := R.rows.set i (setAt row o us) }
                  let cs2 : Nat → Nat → Value := fun i' j => if i' = i ∧ o ≤ j ∧ j < o + us.length then c.cells.getD (j - o) Go.undef else cs i' j
                  have hget : ∀ i' row' j v', A'.rows[i']? = some row' → row'[j]? = some v' → (i' = i ∧ o ≤ j ∧ j < o + us.length ∧ us[j - o]? = some v') ∨ (¬ (i' = i ∧ o ≤ j ∧ j < o + us.length) ∧ ∃ row0, R.rows[i']? = some row0 ∧ row0[j]? = some v') := by
                    intro i' row' j v' h1 h2
                    simp only [A'] at h1
                    by_cases ei : i' = i
                    · subst ei
                      rw [List.getElem?_set_self hi] at h1
                      obtain rfl := Option.some.inj h1
                      rw [setAt_get us row o j (by omega)] at h2
                      split at h2
                      · rename_i hin
                        exact .inl ⟨rfl, hin.1, hin.2, h2⟩
                      · rename_i hin
                        exact .inr ⟨fun h => hin h.2, row, hrow, h2⟩
                    · rw [List.getElem?_set_ne (Ne.symm ei)] at h1
                      exact .inr ⟨fun h => ei h.1, row', h1, h2⟩
                  have hrel : ArrRel ⟨g1.b, g1.a, g1.fz⟩ (w.setCells b (i * ai.sz + o) c.cells.toList) A' ai := by
                    refine ⟨hr.sz, by simp [A', hr.len], hr.gen, fun r hr' => ?_, hr.cap, fun _ => ⟨_, z1, rfl⟩, ⟨cs2, fun i' j row' v' h1 h2 => ?_, fun ad' i' j row' v' had h1 h2 => ⟨?_, fun hf => ?_⟩⟩, fun b' hb' => ?_, fun hb' => by rw [hb] at hb'; cases hb'⟩
                    · rcases List.mem_or_eq_of_mem_set hr' with h | h
                      · exact hr.each r h
                      · rw [h, setAt_length]; exact hrl
                    · rcases hget i' row' j v' h1 h2 with ⟨e1', e2', e3', e4'⟩ | ⟨hne, row0, q1, q2⟩
                      · simp only [cs2]
                        rw [if_pos ⟨e1', e2', e3'⟩]
                        exact hus _ _ e4'
                      · simp only [cs2]
                        rw [if_neg hne]
                        exact c1 i' j row0 v' q1 q2
                    · rw [z1] at had
                      obtain rfl := Option.some.inj had
                      have hcell : (w.setCells b (i * ai.sz + o) c.cells.toList).cell? ⟨b, 0 + (i' * R.sz + j), none⟩ = cs'[i' * R.sz + j]? := by simp [World.cell?, s1]
                      simp only [A']
                      rw [hcell, s3]
                      rcases hget i' row' j v' h1 h2 with ⟨e1', e2', e3', e4'⟩ | ⟨hne, row0, q1, q2⟩
                      · subst e1'
                        rw [if_pos ⟨by rw [hr.sz]; omega, by simp [hr.sz]; omega, by rw [hc2]; omega⟩]
                        simp only [cs2]
                        rw [if_pos (by first | exact ⟨rfl, e2', e3'⟩ | exact ⟨trivial, e2', e3'⟩)]
                        rw [show i' * R.sz + j - (i' * ai.sz + o) = j - o by rw [hr.sz]; omega]
                        rw [Array.getD_eq_getD_getElem?]
                        have : j - o < c.cells.size := by have := (List.getElem?_eq_some_iff.1 e4').1; omega
                        simp [this]
                      · simp only [cs2]
                        rw [if_neg hne]
                        have q3 := (c2 _ i' j row0 v' z1 q1 q2).1
                        simp only [World.cell?, hc1] at q3
                        have hj : j < R.sz := by rw [← hr.each row0 (List.mem_of_getElem? q1)]; exact (List.getElem?_eq_some_iff.1 q2).1
                        rw [if_neg]
                        · simpa using q3
                        · intro hh
                          simp only [Array.length_toList] at hh
                          rw [hr.sz] at hh
                          apply hne
                          have hii : i' = i := by
                            rcases Nat.lt_trichotomy i' i with h | h | h
                            · have : (i' + 1) * R.sz ≤ i * R.sz := Nat.mul_le_mul_right _ h
                              rw [Nat.add_mul, Nat.one_mul] at this
                              omega
                            · exact h
                            · have : (i + 1) * R.sz ≤ i' * R.sz := Nat.mul_le_mul_right _ h
                              rw [Nat.add_mul, Nat.one_mul] at this
                              omega
                          subst hii
                          exact ⟨rfl, by omega, by omega⟩
                    · simp only [A'] at hf; rw [hcur.2.2.1] at hf; cases hf
                    · rw [hb] at hb'
                      obtain rfl := Option.some.inj hb'
                      exact ⟨z1, ⟨cs', elem, s1, by rw [s2]; exact hc2⟩, hc3, fun _ => hc4 hcur.2.2.1⟩
                  have hn := getArr_lt hR
                  obtain ⟨p1, p2⟩ := w1.put (w' := w.setCells b (i * ai.sz + o) c.cells.toList) (S' := setArr S1 n a A') (n := n) (k := a) (φ := g1.fz) hfz (fun _ _ _ h => h) (fun x b' hne hx => ⟨setCells_other b _ _ w b' (fun e => by subst e; exact hne (w1.inj x (.arr n a) _ hx hown1)), fun _ => rfl⟩) hrel (fun b' hb' x hne hx => by
                    rw [hb] at hb'
                    obtain rfl := Option.some.inj hb'
                    exact hne (w1.inj x (.arr n a) _ hx hown1)) (fun ai0 h0 => by rw [hai] at h0; cases h0; exact AIle.refl _) (nm_some hai) (by rw [getArr_set, if_pos ⟨rfl, rfl, hn⟩]) (fun m t b _ => getBox_setArr _ _ _ _ _ _) (fun m j _ hne _ => by rw [getArr_set, if_neg (fun e => hne ⟨e.1, e.2.1⟩)])
                  obtain ⟨r1', r2', r3', r4'⟩ := setCells_rest b c.cells.toList (i * ai.sz + o) w
                  exact ⟨_, _, store_run hit (by omega) hth h1c, p1, x1.trans p2, t1.trans (tr_put p2 r1' r2' r3' (by rw [r4']; exact Nat.le_refl _) (fun j _ hne => setCells_other b _ _ w j (fun e => by subst e; exact hne _ hown1)) (fun b' hb' => .inl (by rw [hb] at hb'; obtain rfl := Option.some.inj hb'; exact hown1))), by rw [setArr_length, handL_length _ _ _ _ hst]⟩
              · cases h
            · cases h
          · cases h
        · cases h
      · cases h
    · cases h
  · cases h
end
end Go.Proofs.Ytebflncfgjnkkaa.M

/- THE ABSTRACT MACHINE, eighteenth part: append. -/
namespace Go.Proofs.Ytebflncfgjnkkaa.M
set_option linter.unusedSimpArgs false
set_option linter.unusedVariables false
open Go
section
variable {g g' : Gh} {S S' : Sto} {w w' : World} {P : Program}
/-- What a step of the machine says of the world's step: c is what the operation yields. -/
structure Step (kd : Bool) (d : Option Nat) (g : Gh) (ac : Ac) (w : World) (ac' : Ac) (c : Value) (w' : World) (g' : Gh) : Prop where
  wr : WR g' ac'.S w'
  tr : Tr g w g' w'
  dst : ∀ t, d = some t → VR g' (ac'.e t) c
  env : ∀ t, d ≠ some t → ∀ u, VR g (ac.e t) u → VR g' (ac'.e t) u
  ext : kd = false → Exw g g' ∧ (∀ t, d ≠ some t → ac'.e t = ac.e t) ∧ ∀ t, d ≠ some t → Bare g 0 t → Bare g' 0 t
  len : ac'.S.length = ac.S.length
theorem killS_length (d : Nat) (S : Sto) : (killS d S).length = S.length := by cases S <;> rfl
/-- A row that is made. -/
theorem newArr_core {T : Gh → Prop} {ac ac' : Ac} (hw : WR g ac.S w) (hne : 0 < ac.S.length) {kd : Bool} {d : Nat} {A : Arr} {c : Value}
    (mk : ∀ g0 S0, (g0 = g ∨ g0 = g.kill d) → WR g0 S0 w → g0.a 0 (.slot d) = none → 0 < S0.length → ∃ g', WR g' (setArr S0 0 (.slot d) A) w' ∧ Ext g0 g' ∧ T g' ∧ ∃ ai, g'.a 0 (.slot d) = some ai ∧ ai.len = A.rows.length ∧ ai.gen = A.gen ∧ c = .slice ai.A ai.len ai.cap ∧ (A.rows ≠ [] → ∃ ad, ai.A = some ad ∧ ad.spot = none) ∧ ai.len ≤ ai.cap)
    (h : newArr kd d A ac = .ok ac') : ∃ g', T g' ∧ ∀ g1 ac1 w1, ac1.e = ac.e → ac1.S.length = ac.S.length → Ext g1 g → Tr g1 w1 g' w' → Step kd (some d) g1 ac1 w1 ac' c w' g' := by
  have vr : ∀ g' ai, g'.a 0 (.slot d) = some ai → ai.len = A.rows.length → ai.gen = A.gen → c = .slice ai.A ai.len ai.cap → (A.rows ≠ [] → ∃ ad, ai.A = some ad ∧ ad.spot = none) → ai.len ≤ ai.cap → VR g' (.sl 0 (.slot d) 0 A.rows.length A.rows.length A.gen false) c := by
    intro g' ai h1 h2 h3 h4 h5 h6
    refine .sl _ _ _ _ _ _ _ ai _ h1 (.inr ⟨h3.symm, by omega⟩) (by rw [h4]; rfl) (fun _ _ => ⟨ai.A, ai.cap, by rw [h4, h2], ⟨by omega, by omega, fun _ => rfl, fun hp => ?_, fun h => (by cases h), fun _ _ _ => rfl⟩⟩)
    obtain ⟨ad, q1, q2⟩ := h5 (fun e => by rw [e] at hp; simp at hp)
    refine ⟨ad, q1, q2, ?_⟩
    obtain ⟨b, o, s⟩ := ad
    simp only at q2
    subst q2
    simpa using q1
  unfold newArr at h
  split at h
  · rename_i hk
    cases h
    obtain ⟨g', w1, x1, t1, ai, a1, a2, a3, a4, a5, a6⟩ := mk (g.kill d) (killS d ac.S) (.inr rfl) (hw.kill d) (killed_a g rfl) (by rw [killS_length]; exact hne)
    refine ⟨g', t1, fun gb acb wb he hl hxb htb => ⟨w1, htb, fun t ht => ?_, fun t ht u hu => ?_, fun hk' => (by rw [hk'] at hk; cases hk), by rw [setArr_length, killS_length, hl]⟩⟩
    · obtain rfl := Option.some.inj ht
      simp only [upd, if_true]
      exact vr g' ai a1 a2 a3 a4 a5 a6
    · have : t ≠ d := fun e => ht (by rw [e])
      simp only [upd, if_neg this, killE]
      rw [he] at hu
      exact ((hu.mono hxb).kill d).mono x1
  · rename_i hk
    split at h
    · rename_i hno
      cases h
      have hg : g.a 0 (.slot d) = none := by
        cases ha : g.a 0 (.slot d) with
        | none => rfl
        | some ai =>
          obtain ⟨A0, q1, _⟩ := hw.arr 0 _ ai ha
          rw [hno] at q1
          cases q1
      obtain ⟨g', w1, x1, t1, ai, a1, a2, a3, a4, a5, a6⟩ := mk g ac.S (.inl rfl) hw hg hne
      refine ⟨g', t1, fun gb acb wb he hl hxb htb => ⟨w1, htb, fun t ht => ?_, fun t ht u hu => ?_, fun _ => ⟨(hxb.trans x1).toExw, fun t ht => ?_, fun t _ hb => (hxb.trans x1).nam 0 t hb⟩, by rw [setArr_length, hl]⟩⟩
      · obtain rfl := Option.some.inj ht
        simp only [upd, if_true]
        exact vr g' ai a1 a2 a3 a4 a5 a6
      · have : t ≠ d := fun e => ht (by rw [e])
        simp only [upd, if_neg this]
        rw [he] at hu
        exact hu.mono (hxb.trans x1)
      · have : t ≠ d := fun e => ht (by rw [e])
        simp only [upd, if_neg this, he]
    · cases h
/-- A row that is made. -/
theorem newArr_step {ac ac' : Ac} (hw : WR g ac.S w) (hne : 0 < ac.S.length) {kd : Bool} {d : Nat} {A : Arr} {c : Value}
    (mk : ∀ g0 S0, WR g0 S0 w → g0.fz = g.fz → g0.a 0 (.slot d) = none → 0 < S0.length → ∃ g', WR g' (setArr S0 0 (.slot d) A) w' ∧ Ext g0 g' ∧ Tr g0 w g' w' ∧ ∃ ai, g'.a 0 (.slot d) = some ai ∧ ai.len = A.rows.length ∧ ai.gen = A.gen ∧ c = .slice ai.A ai.len ai.cap ∧ (A.rows ≠ [] → ∃ ad, ai.A = some ad ∧ ad.spot = none) ∧ ai.len ≤ ai.cap)
    (h : newArr kd d A ac = .ok ac') : ∃ g', Step kd (some d) g ac w ac' c w' g' := by
  obtain ⟨g', t1, hs⟩ := newArr_core (w' := w') (c := c) (T := fun g' => Tr g w g' w') hw hne (fun g0 S0 hor w0 hn hl => by
    rcases hor with e | e
    · rw [e] at w0 hn ⊢
      exact mk g S0 w0 rfl hn hl
    · rw [e] at w0 hn ⊢
      obtain ⟨g', w1, x1, t1, r⟩ := mk _ S0 w0 rfl hn hl
      exact ⟨g', w1, x1, (Tr.kill g w d).trans t1, r⟩) h
  exact ⟨g', hs g ac w rfl rfl (Ext.refl g) t1⟩
/-- The rows that are appended. -/
theorem srcRows_ok (hw : WR g S w) {tx : TypeId} (hk : (∃ e', P.underlying tx = some (.slice e')) ∨ P.underlying tx = some .string) {sz : Nat} {p : PV} {c : Value} (h : VR g p c) {rows : List (List PV)} (hs : srcRows S sz p = some rows) :
    ∃ news, Src P sz tx c rows.length news w ∧ (∀ r ∈ rows, r.length = sz) ∧ ∀ i j row v, rows[i]? = some row → row[j]? = some v → ∃ u, news[i * sz + j]? = some u ∧ FR g.fz v u := by
  have viaSeen : ∀ z full, view S p = some (z, rows, full) → z = sz → ∃ news, Src P sz tx c rows.length news w ∧ (∀ r ∈ rows, r.length = sz) ∧ ∀ i j row v, rows[i]? = some row → row[j]? = some v → ∃ u, news[i * sz + j]? = some u ∧ FR g.fz v u := by
    intro z full hv hz
    subst hz
    obtain ⟨A, cap, cs, rfl, se⟩ := seen hw h hv
    cases A with
    | none =>
      have : rows = [] := by
        cases rows with
        | nil => rfl
        | cons r rows =>
          obtain ⟨ad, h1, _⟩ := se.addr (by simp)
          cases h1
      subst this
      exact ⟨[], ⟨hk, fun _ => rfl, run_firstCells_none w z 0 0 cap, run_firstCells_none w.drew z 0 0 cap, by simp, fun _ h => by cases h⟩, (fun r hr => by cases hr), fun i j row v hi => by simp at hi⟩
    | some ad =>
      let news : List Value := (List.range (rows.length * z)).map fun q => cs (q / z) (q % z)
      have hnl : news.length = rows.length * z := by simp [news]
      have hq : ∀ q, q < rows.length * z → ∃ row v, rows[q / z]? = some row ∧ row[q % z]? = some v ∧ q / z * z + q % z = q := by
        intro q hq
        have hz : 0 < z := by
          rcases Nat.eq_zero_or_pos z with h0 | h0
          · rw [h0] at hq; simp at hq
          · exact h0
        have h1 : q / z < rows.length := (Nat.div_lt_iff_lt_mul hz).2 hq
        have h2 := se.each _ (List.getElem_mem h1)
        have h3 : q % z < (rows[q / z]).length := by rw [h2]; exact Nat.mod_lt _ hz
        refine ⟨_, _, List.getElem?_eq_getElem h1, List.getElem?_eq_getElem h3, ?_⟩
        have := Nat.div_add_mod q z
        rw [Nat.mul_comm] at this
        exact this
      have hnews : ∀ j u, news[j]? = some u → w.cell? (ad.add j) = some u := by
        intro j u hj
        have hlt : j < rows.length * z := by rw [← hnl]; exact (List.getElem?_eq_some_iff.1 hj).1
        simp only [news, List.getElem?_map, List.getElem?_range hlt, Option.map_some, Option.some.injEq] at hj
        subst hj
        obtain ⟨row, v, q1, q2, q3⟩ := hq j hlt
        obtain ⟨ad', e1, hsp⟩ := se.addr (fun e => by rw [e] at hlt; simp at hlt)
        obtain rfl := Option.some.inj e1
        have := se.cell ad (j / z) (j % z) row v rfl q1 q2
        rw [q3] at this
        rw [add_off hsp]
        exact this
      have h1 : ∀ u ∈ news, u.oneCell' = true := by
        intro u hu
        obtain ⟨q, hq', rfl⟩ := List.mem_map.1 hu
        obtain ⟨row, v, q1, q2, _⟩ := hq q (by simpa using hq')
        exact (se.fr _ _ row v q1 q2).oneCell
      refine ⟨news, ⟨hk, fun _ => rfl, run_firstCells_some w z rows.length ad rows.length cap news hnl hnews, run_firstCells_some w.drew z rows.length ad rows.length cap news hnl (by simpa using hnews), hnl, h1⟩, se.each, fun i j row v hi hj => ?_⟩
      have hj' : j < z := by rw [← se.each row (List.mem_of_getElem? hi)]; exact (List.getElem?_eq_some_iff.1 hj).1
      have hlt := cell_pos (List.getElem?_eq_some_iff.1 hi).1 hj'
      refine ⟨cs i j, ?_, se.fr i j row v hi hj⟩
      simp only [news, List.getElem?_map, List.getElem?_range hlt, Option.map_some, Option.some.injEq]
      have e1 : (i * z + j) / z = i := by rw [Nat.mul_comm, Nat.mul_add_div (by omega), Nat.div_eq_of_lt hj', Nat.add_zero]
      have e2 : (i * z + j) % z = j := by rw [Nat.mul_comm, Nat.mul_add_mod, Nat.mod_eq_of_lt hj']
      rw [e1, e2]
  unfold srcRows at hs
  split at hs
  · rename_i s
    split at hs
    · rename_i h1
      subst h1
      obtain rfl := Option.some.inj hs
      obtain rfl := h.str_inv
      have hl : (s.map fun b => [PV.int .u8 b.toNat]).length = (⟨s.toArray⟩ : ByteArray).size := by rw [size_mk]; simp
      rw [hl]
      refine ⟨byteCells ⟨s.toArray⟩, ⟨hk, fun _ => rfl, firstCells_string _ w, firstCells_string _ w.drew, by rw [byteCells_length, Nat.mul_one], fun u hu => ?_⟩, fun r hr => ?_, fun i j row v hi hj => ?_⟩
      · obtain ⟨_, _, rfl⟩ := List.mem_map.1 hu
        rfl
      · obtain ⟨_, _, rfl⟩ := List.mem_map.1 hr
        rfl
      · rw [List.getElem?_map, Option.map_eq_some_iff] at hi
        obtain ⟨b, hb, rfl⟩ := hi
        cases j with
        | zero =>
          simp at hj
          subst hj
          refine ⟨.int .u8 b.toNat, ?_, .int _ _⟩
          simp [byteCells, hb]
        | succ j => simp at hj
    · cases hs
  · rename_i z
    obtain rfl := Option.some.inj hs
    cases h with | data _ _ h => cases h with | nils _ A =>
    refine ⟨[], ⟨hk, fun _ => rfl, ?_, ?_, by simp, fun _ h => by cases h⟩, (fun r hr => by cases hr), fun i j row v hi => by simp at hi⟩
    · cases A with
      | none => exact run_firstCells_none w sz 0 0 0
      | some ad => exact run_firstCells_some w sz 0 ad 0 0 [] (by simp) (by simp)
    · cases A with
      | none => exact run_firstCells_none w.drew sz 0 0 0
      | some ad => exact run_firstCells_some w.drew sz 0 ad 0 0 [] (by simp) (by simp)
  · split at hs
    · rename_i z rows' full hv
      split at hs
      · rename_i hz
        obtain rfl := Option.some.inj hs
        exact viaSeen z full hv hz
      · cases hs
    · cases hs
end
end Go.Proofs.Ytebflncfgjnkkaa.M

/- THE ABSTRACT MACHINE, nineteenth part: append, carried out. -/
namespace Go.Proofs.Ytebflncfgjnkkaa.M
set_option linter.unusedSimpArgs false
set_option linter.unusedVariables false
open Go
section
variable {g g' : Gh} {S S' : Sto} {w w' : World} {P : Program}
theorem growBy_le (n : Nat) : ∀ (r c : Nat), c ≤ 2 * n + 768 → Builtin.growBy n r c ≤ 2 * n + 768
  | 0, c, h => h
  | r + 1, c, h => by
    unfold Builtin.growBy
    split
    · exact h
    · exact growBy_le n r _ (by omega)
theorem nextcap_le {n old : Nat} (h : old ≤ n) : Builtin.nextslicecap n old ≤ 2 * n + 768 := by
  unfold Builtin.nextslicecap
  split
  · omega
  · split
    · omega
    · exact growBy_le n 4 old (by omega)
theorem big_fits {n old bytes : Nat} (h : old ≤ n) (hb : bigRow n bytes) : Builtin.nextslicecap n old * bytes ≤ 281474976710656 := by
  obtain ⟨h1, h2, h3⟩ := hb
  have := Nat.mul_le_mul_right bytes (nextcap_le h)
  rw [Nat.add_mul] at this
  have e : 2 * n * bytes = 2 * (n * bytes) := by rw [Nat.mul_assoc]
  omega
theorem grownCap_ge (w : World) (need old : Nat) (e : TypeId) : need ≤ grownCap w need old e := by
  unfold grownCap Question.cut
  exact Nat.le_add_right _ _
/-- Nothing is appended. -/
theorem append_zero {t tx ty e : TypeId} {i : TypeInfo} (ht : P.underlying t = some (.slice e)) (hi : P.info? e = some i) {base : Option Addr} {len cap : Nat} (hcap : len ≤ cap) {x : Value} {news : List Value} (hs : Src P i.size tx x 0 news w) :
    (Builtin.append_ #[t, tx] ty #[.slice base len cap, x]).run P w = .ok (.slice base len cap) w := by
  have hn : news = [] := by have := hs.newsLen; rw [Nat.zero_mul] at this; exact List.eq_nil_of_length_eq_zero this
  have hc := hs.cells
  rw [hn] at hc
  rcases hs.kind with ⟨e', hk⟩ | hk <;> cases base <;> simp [Builtin.append_, run_underlying ht, run_underlying hk, sizeOf, typeInfo, hi, hs.len, hcap, hc, storeCells]
theorem zeroCells_size (z : Array Value) (n : Nat) : (Builtin.zeroCells z n).size = n * z.size := by simp [Builtin.zeroCells]
/-- The old cells and the new ones, in a new block. -/
theorem append_grow {t tx ty e : TypeId} {i : TypeInfo} {z : Value} (ht : P.underlying t = some (.slice e)) (hi : P.info? e = some i) (hz : i.zero = some z) (hzs : z.cells.size = i.size) {base : Option Addr} {len cap : Nat} {rows src : List (List PV)} {cs : Nat → Nat → Value}
    (hlen : rows.length = len) (hb : bigRow (len + src.length) i.bytes) (hg : cap < len + src.length) (heach : ∀ r ∈ rows, r.length = i.size) (haddr : rows ≠ [] → ∃ ad, base = some ad ∧ ad.spot = none)
    (hcell : ∀ ad k j row v, base = some ad → rows[k]? = some row → row[j]? = some v → w.cell? ⟨ad.block, ad.off + (k * i.size + j), none⟩ = some (cs k j)) (hfr : ∀ k j row v, rows[k]? = some row → row[j]? = some v → FR g.fz v (cs k j))
    {x : Value} {news : List Value} (hs : Src P i.size tx x src.length news w) (hse : ∀ r ∈ src, r.length = i.size) (hnf : ∀ k j row v, src[k]? = some row → row[j]? = some v → ∃ u, news[k * i.size + j]? = some u ∧ FR g.fz v u) :
    ∃ (cells : Array Value) (cap' : Nat) (cs' : Nat → Nat → Value), (Builtin.append_ #[t, tx] ty #[.slice base len cap, x]).run P w = .ok (.slice (some ⟨w.heap.size, 0, none⟩) (rows ++ src).length cap') (w.drew.alloc (.cells cells e)) ∧ cells.size = cap' * i.size ∧ (rows ++ src).length ≤ cap' ∧
      (∀ r ∈ rows ++ src, r.length = i.size) ∧ ∀ k j row v, (rows ++ src)[k]? = some row → row[j]? = some v → cells[k * i.size + j]? = some (cs' k j) ∧ FR g.fz v (cs' k j) := by
  let olds : List Value := (List.range (rows.length * i.size)).map fun q => cs (q / i.size) (q % i.size)
  have hol : olds.length = len * i.size := by simp [olds, hlen]
  have hq : ∀ q, q < rows.length * i.size → ∃ row v, rows[q / i.size]? = some row ∧ row[q % i.size]? = some v ∧ q / i.size * i.size + q % i.size = q := by
    intro q hq
    have hz : 0 < i.size := by
      rcases Nat.eq_zero_or_pos i.size with h0 | h0
      · rw [h0] at hq; simp at hq
      · exact h0
    have h1 : q / i.size < rows.length := (Nat.div_lt_iff_lt_mul hz).2 hq
    have h2 := heach _ (List.getElem_mem h1)
    have h3 : q % i.size < (rows[q / i.size]).length := by rw [h2]; exact Nat.mod_lt _ hz
    refine ⟨_, _, List.getElem?_eq_getElem h1, List.getElem?_eq_getElem h3, ?_⟩
    have := Nat.div_add_mod q i.size
    rw [Nat.mul_comm] at this
    exact this
  have hold : (Builtin.firstCells i.size len (.slice base len cap)).run P w.drew = .ok olds.toArray w.drew := by
    cases base with
    | none =>
      have : rows = [] := by
        cases rows with
        | nil => rfl
        | cons r rows =>
          obtain ⟨ad, h1, _⟩ := haddr (by simp)
          cases h1
      subst this
      simp only [List.length_nil] at hlen
      subst hlen
      have := run_firstCells_none (P := P) w.drew i.size 0 0 cap
      simpa [olds] using this
    | some ad =>
      refine run_firstCells_some w.drew i.size len ad len cap olds hol (fun j u hj => ?_)
      have hlt : j < rows.length * i.size := by rw [hlen, ← hol]; exact (List.getElem?_eq_some_iff.1 hj).1
      simp only [olds, List.getElem?_map, List.getElem?_range hlt, Option.map_some, Option.some.injEq] at hj
      subst hj
      obtain ⟨row, v, q1, q2, q3⟩ := hq j hlt
      obtain ⟨ad', e1, hsp⟩ := haddr (fun e => by rw [e] at hlt; simp at hlt)
      obtain rfl := Option.some.inj e1
      have := hcell ad (j / i.size) (j % i.size) row v rfl q1 q2
      rw [q3] at this
      rw [add_off hsp]
      exact this
  obtain ⟨b1, b2, b3⟩ := hb
  have hrun := run_append_grow_src w t tx ty e i z ht hi hz base len cap olds hold x src.length news hs hg (by omega) (big_fits (by omega) ⟨b1, b2, b3⟩)
  have hge := grownCap_ge w (len + src.length) cap e
  have hnl := hs.newsLen
  refine ⟨(olds ++ news).toArray ++ Builtin.zeroCells z.cells (grownCap w (len + src.length) cap e - (len + src.length)), grownCap w (len + src.length) cap e, fun k j => (olds ++ news)[k * i.size + j]?.getD undef, ?_, ?_, by rw [List.length_append, hlen]; exact hge, ?_, ?_⟩
  · rw [List.length_append, hlen]
    exact hrun
  · simp only [Array.size_append, List.size_toArray, List.length_append, zeroCells_size, hzs, hol, hnl]
    rw [← Nat.add_mul, ← Nat.add_mul]
    congr 1
    omega
  · intro r hr
    rcases List.mem_append.1 hr with h | h
    · exact heach r h
    · exact hse r h
  · intro k j row v hk hj
    have get : ∀ u, (olds ++ news)[k * i.size + j]? = some u → ((olds ++ news).toArray ++ Builtin.zeroCells z.cells (grownCap w (len + src.length) cap e - (len + src.length)))[k * i.size + j]? = some u := by
      intro u hu
      have hlt := (List.getElem?_eq_some_iff.1 hu).1
      rw [Array.getElem?_append_left (by simpa using hlt)]
      simpa using hu
    rcases Nat.lt_or_ge k len with hlt | hge'
    · rw [List.getElem?_append_left (by omega)] at hk
      have hj' : j < i.size := by rw [← heach row (List.mem_of_getElem? hk)]; exact (List.getElem?_eq_some_iff.1 hj).1
      have hcp := cell_pos (show k < rows.length by omega) hj'
      have hu : (olds ++ news)[k * i.size + j]? = some (cs k j) := by
        have hcp' : k * i.size + j < len * i.size := by rw [← hlen]; exact hcp
        rw [List.getElem?_append_left (by omega)]
        simp only [olds, List.getElem?_map, List.getElem?_range hcp, Option.map_some, Option.some.injEq]
        have e1 : (k * i.size + j) / i.size = k := by rw [Nat.mul_comm, Nat.mul_add_div (by omega), Nat.div_eq_of_lt hj', Nat.add_zero]
        have e2 : (k * i.size + j) % i.size = j := by rw [Nat.mul_comm, Nat.mul_add_mod, Nat.mod_eq_of_lt hj']
        rw [e1, e2]
      refine ⟨?_, ?_⟩
      · exact (get _ hu).trans (by simp [hu])
      · simp only [hu, Option.getD_some]; exact hfr k j row v hk hj
    · rw [List.getElem?_append_right (by omega)] at hk
      obtain ⟨u, h1, h2⟩ := hnf (k - rows.length) j row v hk hj
      have hu : (olds ++ news)[k * i.size + j]? = some u := by
        have : len * i.size ≤ k * i.size := Nat.mul_le_mul_right _ hge'
        rw [List.getElem?_append_right (by omega), hol]
        have e : k * i.size + j - len * i.size = (k - rows.length) * i.size + j := by rw [hlen, Nat.sub_mul]; omega
        rw [e]
        exact h1
      refine ⟨?_, ?_⟩
      · exact (get _ hu).trans (by simp [hu])
      · simp only [hu, Option.getD_some]; exact h2
/-- A base that is no more written: nothing, or a slice that has no room. -/
theorem append_base {ac ac' : Ac} (hw : WR g ac.S w) (hne : 0 < ac.S.length) {kd : Bool} {d : Nat} {t tx ty e : TypeId} {i : TypeInfo} {z : Value} (ht : P.underlying t = some (.slice e)) (hi : P.info? e = some i) (hz : i.zero = some z) (hzs : z.cells.size = i.size) {base : Option Addr} {rows src : List (List PV)} {cs : Nat → Nat → Value} {frz : Bool}
    (hb : bigRow (rows.length + src.length) i.bytes) (heach : ∀ r ∈ rows, r.length = i.size) (haddr : rows ≠ [] → ∃ ad, base = some ad ∧ ad.spot = none) (hc : ∀ ad k j row v, base = some ad → rows[k]? = some row → row[j]? = some v → g.fz ad.block (ad.off + (k * i.size + j)) = some (cs k j))
    (hfr : ∀ k j row v, rows[k]? = some row → row[j]? = some v → FR g.fz v (cs k j)) (hf : frz = true ∨ rows = []) {x : Value} {news : List Value} (hs : Src P i.size tx x src.length news w) (hse : ∀ r ∈ src, r.length = i.size) (hnf : ∀ k j row v, src[k]? = some row → row[j]? = some v → ∃ u, news[k * i.size + j]? = some u ∧ FR g.fz v u)
    (h : newArr kd d ⟨i.size, rows ++ src, frz, 0⟩ ac = .ok ac') : ∃ c w' g', (Builtin.append_ #[t, tx] ty #[.slice base rows.length rows.length, x]).run P w = .ok c w' ∧ Step kd (some d) g ac w ac' c w' g' := by
  rcases Nat.eq_zero_or_pos src.length with h0 | h0
  · have hsrc : src = [] := List.eq_nil_of_length_eq_zero h0
    subst hsrc
    rw [List.append_nil] at h
    have hrun := append_zero (ty := ty) (base := base) (len := rows.length) (cap := rows.length) ht hi (Nat.le_refl _) hs
    obtain ⟨g', hst⟩ := newArr_step (w' := w) (c := .slice base rows.length rows.length) hw hne (fun g0 S0 w0 hfz hn hl => by
      obtain ⟨g', w1, x1, t1, a1⟩ := aliasRow w0 (n := 0) (k := .slot d) (A := ⟨i.size, rows, frz, 0⟩) (a := base) (cap := rows.length) (cs := cs) rfl heach haddr (fun ad k j row v h1 h2 h3 => by rw [hfz]; exact hc ad k j row v h1 h2 h3) (fun k j row v h1 h2 => by rw [hfz]; exact hfr k j row v h1 h2) hf hl (fun ai0 h0 => by rw [hn] at h0; cases h0) nm_slot
      exact ⟨g', w1, x1, t1, _, a1, rfl, rfl, rfl, haddr, Nat.le_refl _⟩) h
    exact ⟨_, w, g', hrun, hst⟩
  · obtain ⟨cells, cap', cs', hrun, h1, h2, h3, h4⟩ := append_grow (g := g) (ty := ty) (cap := rows.length) ht hi hz hzs rfl hb (by omega) heach haddr (fun ad k j row v q1 q2 q3 => hw.fz _ _ _ (hc ad k j row v q1 q2 q3)) hfr hs hse hnf
    obtain ⟨g', hst⟩ := newArr_step (w' := w.drew.alloc (.cells cells e)) (c := .slice (some ⟨w.heap.size, 0, none⟩) (rows ++ src).length cap') hw hne (fun g0 S0 w0 hfz hn hl => by
      obtain ⟨g', w1, x1, t1, a1⟩ := growRow w0 (n := 0) (k := .slot d) (A := ⟨i.size, rows ++ src, frz, 0⟩) e h1 h3 h2 (cs := cs') (fun k j row v q1 q2 => ⟨(h4 k j row v q1 q2).1, by rw [hfz]; exact (h4 k j row v q1 q2).2⟩) hl (fun ai0 h0 => by rw [hn] at h0; cases h0) nm_slot
      exact ⟨g', w1, x1, t1, _, a1, rfl, rfl, rfl, fun _ => ⟨_, rfl, rfl⟩, h2⟩) h
    exact ⟨_, _, g', hrun, hst⟩
end
end Go.Proofs.Ytebflncfgjnkkaa.M

/- THE ABSTRACT MACHINE, twentieth part: append, all of its ways. -/
namespace Go.Proofs.Ytebflncfgjnkkaa.M
set_option linter.unusedSimpArgs false
set_option linter.unusedVariables false
open Go
section
variable {g g' : Gh} {S S' : Sto} {w w' : World} {P : Program}
/-- A step behind a step that leaves the world. -/
theorem Step.behind {kd : Bool} {d : Option Nat} {g1 : Gh} {ac ac1 ac' : Ac} {c : Value} (h : Step kd d g1 ac1 w ac' c w' g') (hx : Ext g g1) (ht : Tr g w g1 w) (he : ac1.e = ac.e) (hl : ac1.S.length = ac.S.length) : Step kd d g ac w ac' c w' g' :=
  ⟨h.wr, ht.trans h.tr, h.dst, fun t htd u hu => h.env t htd u (by rw [he]; exact hu.mono hx), fun hk => ⟨hx.toExw.trans (h.ext hk).1, fun t htd => by rw [(h.ext hk).2.1 t htd, he], fun t htd hb => (h.ext hk).2.2 t htd (hx.nam 0 t hb)⟩, h.len.trans hl⟩
/-- A row that is in use grows. -/
theorem append_open {ac ac' : Ac} (hw : WR g ac.S w) {kd : Bool} {d : Nat} {t tx ty e : TypeId} {i : TypeInfo} {z : Value} (ht : P.underlying t = some (.slice e)) (hi : P.info? e = some i) (hz : i.zero = some z) (hzs : z.cells.size = i.size)
    {n : Nat} {k : AK} {R : Arr} (hR : getArr ac.S n k = some R) {ai : AI} (hai : g.a n k = some ai) (hsz : R.sz = i.size) {src : List (List PV)} (hb : bigRow (R.rows.length + src.length) i.bytes) {x : Value} {news : List Value} (hs : Src P i.size tx x src.length news w) (hse : ∀ r ∈ src, r.length = i.size)
    (hnf : ∀ k j row v, src[k]? = some row → row[j]? = some v → ∃ u, news[k * i.size + j]? = some u ∧ FR g.fz v u)
    (h : ac' = ⟨upd ac.e d (.sl n k 0 (R.rows.length + src.length) (R.rows.length + src.length) R.gen false), setArr ac.S n k { R with rows := R.rows ++ src }⟩) :
    ∃ c w' g', (Builtin.append_ #[t, tx] ty #[.slice ai.A ai.len ai.cap, x]).run P w = .ok c w' ∧ Step kd (some d) g ac w ac' c w' g' := by
  subst h
  obtain ⟨R', hR', hr⟩ := hw.arr n k ai hai
  obtain rfl : R = R' := Option.some.inj (hR.symm.trans hR')
  have hn := getArr_lt hR
  have hlen := hr.len
  have step : ∀ c w' g', WR g' (setArr ac.S n k { R with rows := R.rows ++ src }) w' → Ext g g' → Tr g w g' w' → VR g' (.sl n k 0 (R.rows.length + src.length) (R.rows.length + src.length) R.gen false) c →
      Step kd (some d) g ac w ⟨upd ac.e d (.sl n k 0 (R.rows.length + src.length) (R.rows.length + src.length) R.gen false), setArr ac.S n k { R with rows := R.rows ++ src }⟩ c w' g' := by
    intro c w' g' h1 h2 h3 h4
    refine ⟨h1, h3, fun t ht => ?_, fun t ht u hu => ?_, fun _ => ⟨h2.toExw, fun t ht => ?_, fun t _ hb => h2.nam 0 t hb⟩, setArr_length _ _ _ _⟩
    · obtain rfl := Option.some.inj ht
      simp only [upd, if_true]
      exact h4
    · have : t ≠ d := fun e => ht (by rw [e])
      simp only [upd, if_neg this]
      exact hu.mono h2
    · have : t ≠ d := fun e => ht (by rw [e])
      simp only [upd, if_neg this]
  have slat : ∀ (ai' : AI) (hlen' : ai'.len = R.rows.length + src.length) (hle : ai'.len ≤ ai'.cap) (ha : R.rows ++ src ≠ [] → ∃ ad, ai'.A = some ad ∧ ad.spot = none), SlAt ai' 0 (R.rows.length + src.length) false ai'.A ai'.cap := by
    intro ai' h1 h2 h3
    refine ⟨by omega, by omega, fun _ => rfl, fun hp => ?_, (fun h => by cases h), fun _ _ _ => rfl⟩
    obtain ⟨ad, q1, q2⟩ := h3 (fun e => by
      have := congrArg List.length e
      rw [List.length_append] at this
      simp only [List.length_nil] at this
      omega)
    refine ⟨ad, q1, q2, ?_⟩
    obtain ⟨b, o, s⟩ := ad
    simp only at q2
    subst q2
    simpa using q1
  rcases Nat.eq_zero_or_pos src.length with h0 | h0
  · have hsrc : src = [] := List.eq_nil_of_length_eq_zero h0
    subst hsrc
    have hrun := append_zero (ty := ty) (base := ai.A) (len := ai.len) (cap := ai.cap) ht hi hr.cap hs
    refine ⟨_, w, g, hrun, step _ _ _ ?_ (Ext.refl _) (Tr.refl _ _) ?_⟩
    · refine hw.congr (fun m t b _ => getBox_setArr _ _ _ _ _ _) (fun m j ai0 _ => ?_)
      rw [getArr_set]
      split
      · rename_i e
        obtain ⟨rfl, rfl, _⟩ := e
        rw [hR, List.append_nil]
      · rfl
    · refine .sl _ _ _ _ _ _ _ ai _ hai (.inr ⟨hr.gen.symm, by rw [hlen]; exact Nat.le_refl _⟩) rfl (fun _ _ => ⟨ai.A, ai.cap, by rw [hlen]; rfl, slat ai (by rw [hlen]; rfl) hr.cap (fun hne => hr.addr (by simpa using hne))⟩)
  · rcases Nat.lt_or_ge ai.cap (ai.len + src.length) with hg | hroom
    · -- a new block
      obtain ⟨cs, c1, c2⟩ := hr.cells
      obtain ⟨cells, cap', cs', hrun, q1, q2, q3, q4⟩ := append_grow (g := g) (ty := ty) (base := ai.A) (len := ai.len) (cap := ai.cap) (rows := R.rows) (cs := cs) ht hi hz hzs hlen.symm (by rw [hlen]; exact hb) hg (fun r hr' => by rw [← hsz]; exact hr.each r hr') hr.addr
        (fun ad k' j row v h1 h2 h3 => by have := (c2 ad k' j row v h1 h2 h3).1; rwa [hsz] at this) c1 hs hse hnf
      obtain ⟨g', w1, x1, t1, a1⟩ := growRow hw (n := n) (k := k) (A := { R with rows := R.rows ++ src }) e (by rw [hsz]; exact q1) (fun r hr' => by rw [hsz]; exact q3 r hr') q2 (cs := cs') (fun k' j row v h1 h2 => by have := q4 k' j row v h1 h2; simpa only [hsz] using this) hn (fun ai0 h0' => by
        rw [hai] at h0'
        obtain rfl := Option.some.inj h0'
        right; left
        refine ⟨hr.gen, ?_⟩
        simp only [List.length_append]
        omega) (nm_some hai)
      refine ⟨_, _, g', hrun, step _ _ _ w1 x1 t1 ?_⟩
      refine .sl _ _ _ _ _ _ _ _ _ a1 (.inr ⟨rfl, by simp⟩) rfl (fun _ _ => ⟨_, _, by rw [List.length_append], slat _ (by simp) (by simpa using q2) (fun _ => ⟨_, rfl, rfl⟩)⟩)
    · -- there is room
      have hblk : ∃ b, ai.blk = some b := by
        cases hbk : ai.blk with
        | some b => exact ⟨b, rfl⟩
        | none => have := (hr.free hbk).1; omega
      obtain ⟨b, hbk⟩ := hblk
      obtain ⟨hA, ⟨cells, elem, hc1, hc2⟩, hc3, hc4⟩ := hr.own b hbk
      have hnl := hs.newsLen
      have hmul : (ai.len + src.length) * i.size ≤ ai.cap * i.size := Nat.mul_le_mul_right _ hroom
      rw [Nat.add_mul] at hmul
      have hth : w.there b (0 + ai.len * i.size) news.length := there_of hc1 (by rw [hc2, hsz]; omega)
      have hrun := run_append_room_src w t tx ty e i ht hi b 0 ai.len ai.cap x src.length news hs hroom (fun j hj => (hth j hj).1) (fun j hj => (hth j hj).2)
      obtain ⟨cs', s1, s2, s3⟩ := setCells_heap b news (0 + ai.len * i.size) w cells elem _ hc1
      obtain ⟨r1, r2, r3, r4⟩ := setCells_rest b news (0 + ai.len * i.size) w
      let w1 := w.setCells b (0 + ai.len * i.size) news
      have hown : g.own (.arr n k) = some b := by simp [Gh.own, hai, hbk]
      have hcell : ∀ o, w1.cell? ⟨b, o, none⟩ = cs'[o]? := by
        intro o
        simp only [World.cell?, w1, s1]
        rfl
      have hsame : ∀ o, o < ai.len * i.size → w1.cell? ⟨b, o, none⟩ = w.cell? ⟨b, o, none⟩ := by
        intro o ho
        rw [hcell, s3, if_neg (by omega)]
        simp [World.cell?, hc1]
      have hfz : ∀ b' o v, g.fz b' o = some v → w1.cell? ⟨b', o, none⟩ = some v := by
        intro b' o v hf
        by_cases e : b' = b
        · subst e
          have : o < ai.len * i.size := by
            rcases Nat.lt_or_ge o (ai.len * i.size) with h | h
            · exact h
            · have := hc3 o (by rw [hsz]; exact h)
              rw [this] at hf
              cases hf
          rw [hsame o this]
          exact hw.fz _ _ _ hf
        · have := hw.fz b' o v hf
          unfold World.cell? at this ⊢
          simp only [w1]
          rw [setCells_other b _ _ w b' e]
          exact this
      let φ : Fz := frzFz g.fz w1 b 0 (if R.frz = true then (ai.len + src.length) * i.size else 0)
      have hsub : ∀ b' o v, g.fz b' o = some v → φ b' o = some v := frzFz_sub hfz
      let ai' : AI := { ai with len := ai.len + src.length }
      let R' : Arr := { R with rows := R.rows ++ src }
      obtain ⟨cs, c1, c2⟩ := hr.cells
      let cs2 : Nat → Nat → Value := fun p j => if p < ai.len then cs p j else (news[(p - ai.len) * i.size + j]?).getD undef
      have hget : ∀ p j row v, (R.rows ++ src)[p]? = some row → row[j]? = some v → w1.cell? ⟨b, p * i.size + j, none⟩ = some (cs2 p j) ∧ FR g.fz v (cs2 p j) ∧ p < ai.len + src.length ∧ j < i.size := by
        intro p j row v hp hj
        simp only [cs2]
        rcases Nat.lt_or_ge p ai.len with hlt | hge
        · rw [if_pos hlt]
          rw [List.getElem?_append_left (by omega)] at hp
          have hj' : j < i.size := by rw [← hsz, ← hr.each row (List.mem_of_getElem? hp)]; exact (List.getElem?_eq_some_iff.1 hj).1
          have hcp := cell_pos hlt hj'
          have := (c2 _ p j row v hA hp hj).1
          simp only [Nat.zero_add, hsz] at this
          exact ⟨by rw [hsame _ hcp]; exact this, c1 p j row v hp hj, by omega, hj'⟩
        · rw [if_neg (by omega)]
          rw [List.getElem?_append_right (by omega)] at hp
          rw [← hlen] at hp
          obtain ⟨u, h1, h2⟩ := hnf (p - ai.len) j row v hp hj
          have hlt := (List.getElem?_eq_some_iff.1 h1).1
          have hp' := (List.getElem?_eq_some_iff.1 hp).1
          have hj' : j < i.size := by rw [← hse row (List.mem_of_getElem? hp)]; exact (List.getElem?_eq_some_iff.1 hj).1
          have e1 : p * i.size = ai.len * i.size + (p - ai.len) * i.size := by rw [← Nat.add_mul]; congr 1; omega
          refine ⟨?_, by rw [h1]; exact h2, by omega, hj'⟩
          rw [hcell, s3, if_pos ⟨by omega, by omega, by rw [hc2, hsz]; omega⟩]
          have : p * i.size + j - (0 + ai.len * i.size) = (p - ai.len) * i.size + j := by omega
          rw [this, h1]
          rfl
      have hrel : ArrRel ⟨g.b, g.a, φ⟩ w1 R' ai' := by
        refine ⟨hr.sz, by simp [ai', R', hlen], hr.gen, fun r hr' => ?_, hroom, fun _ => ⟨_, hA, rfl⟩, ⟨cs2, fun p j row v hp hj => (hget p j row v hp hj).2.1.mono hsub, fun ad p j row v had hp hj => ?_⟩, fun b' hb' => ?_, fun hb' => by simp only [ai'] at hb'; rw [hbk] at hb'; cases hb'⟩
        · rcases List.mem_append.1 hr' with h | h
          · exact hr.each r h
          · rw [hse r h]; exact hsz.symm
        · simp only [ai'] at had
          rw [hA] at had
          obtain rfl := Option.some.inj had
          obtain ⟨q1, q2, q3, q4⟩ := hget p j row v hp hj
          simp only [R', hsz, Nat.zero_add]
          refine ⟨q1, fun hf => ?_⟩
          have := cell_pos q3 q4
          simp only [φ, frzFz, hf, if_true]
          rw [if_pos ⟨trivial, by omega, this⟩]
          exact q1
        · simp only [ai'] at hb'
          rw [hbk] at hb'
          obtain rfl := Option.some.inj hb'
          refine ⟨hA, ⟨cs', elem, s1, by rw [s2]; exact hc2⟩, fun o ho => ?_, fun hf o => ?_⟩
          · simp only [ai', R', hsz] at ho
            rw [Nat.add_mul] at ho
            simp only [φ, frzFz]
            rw [if_neg]
            · exact hc3 o (by rw [hsz]; omega)
            · rintro ⟨_, _, h⟩
              split at h
              · rw [Nat.add_mul] at h; omega
              · omega
          · simp only [R'] at hf
            simp only [φ, frzFz, hf, Bool.false_eq_true, if_false]
            rw [if_neg (by omega)]
            exact hc4 hf o
      obtain ⟨p1, p2⟩ := hw.put (w' := w1) (S' := setArr ac.S n k R') (n := n) (k := k) (ai := ai') (φ := φ) (frzFz_holds hfz) hsub (fun x' b' hne hx => ⟨setCells_other b _ _ w b' (fun e => by subst e; exact hne (hw.inj x' (.arr n k) _ hx hown)), fun o => by
        simp only [φ, frzFz]
        rw [if_neg]
        rintro ⟨rfl, _⟩
        exact hne (hw.inj x' (.arr n k) _ hx hown)⟩) hrel (fun b' hb' x' hne hx => by
          simp only [ai'] at hb'
          rw [hbk] at hb'
          obtain rfl := Option.some.inj hb'
          exact hne (hw.inj x' (.arr n k) _ hx hown)) (fun ai0 h0' => by
          rw [hai] at h0'
          obtain rfl := Option.some.inj h0'
          right; left
          exact ⟨rfl, by simp only [ai']; omega⟩) (nm_some hai) (by rw [getArr_set, if_pos ⟨rfl, rfl, hn⟩]) (fun m t b _ => getBox_setArr _ _ _ _ _ _) (fun m j _ hne _ => by rw [getArr_set, if_neg (fun e => hne ⟨e.1, e.2.1⟩)])
      have t1 := tr_put p2 r1 r2 r3 (Nat.le_of_eq r4.symm) (fun j _ hne => setCells_other b _ _ w j (fun e => by subst e; exact hne _ hown)) (fun b' hb' => .inl (by
        simp only [ai'] at hb'
        rw [hbk] at hb'
        obtain rfl := Option.some.inj hb'
        exact hown))
      refine ⟨_, w1, _, by rw [hA]; exact hrun, step _ _ _ p1 p2 t1 ?_⟩
      have ha' : (g.put n k ai' φ).a n k = some ai' := by simp [Gh.put]
      refine .sl _ _ _ _ _ _ _ ai' _ ha' (.inr ⟨hr.gen.symm, by simp only [ai']; omega⟩) rfl (fun _ _ => ⟨ai'.A, ai'.cap, by simp only [ai', hA, hlen], slat ai' (by simp only [ai', hlen]) hroom (fun _ => ⟨_, hA, rfl⟩)⟩)
end
end Go.Proofs.Ytebflncfgjnkkaa.M

/- THE ABSTRACT MACHINE, twenty-first part: the operations that make, and write: each does what the machine does. -/
namespace Go.Proofs.Ytebflncfgjnkkaa.M
set_option linter.unusedSimpArgs false
set_option linter.unusedVariables false
open Go
section
variable {g g' : Gh} {S S' : Sto} {w w' : World} {P : Program}
theorem append_ok {ac ac' : Ac} (hw : WR g ac.S w) (hne : 0 < ac.S.length) {kd : Bool} {d : Nat} {t tx ty e : TypeId} (ht : P.underlying t = some (.slice e)) (hk : (∃ e', P.underlying tx = some (.slice e')) ∨ P.underlying tx = some .string) {zs : List PV} (hz : cZ P e = some zs)
    {x y : PV} {b c : Value} (hx : VR g x b) (hy : VR g y c) (h : appendP kd d (P.cellsOf e) (P.bytesOf e) x y ac = .ok ac') : ∃ u w' g', (Builtin.append_ #[t, tx] ty #[b, c]).run P w = .ok u w' ∧ Step kd (some d) g ac w ac' u w' g' := by
  obtain ⟨i, z, hi, hz', hzs, _, _⟩ := cZ_ok (g := g) hz
  have e1 : P.cellsOf e = i.size := cellsOf_info hi
  have e2 : P.bytesOf e = i.bytes := by simp [Program.bytesOf, hi]
  rw [e1] at hzs
  rw [e1, e2] at h
  unfold appendP at h
  split at h
  · cases h
  · rename_i src hsrc
    obtain ⟨news, hs, hse, hnf⟩ := srcRows_ok hw hk hy hsrc
    split at h
    · rename_i z0
      split at h
      · rename_i hb
        cases hx with | data _ _ hx => cases hx with | nils _ A =>
        exact append_base hw hne (rows := []) (base := A) (cs := fun _ _ => undef) (frz := false) ht hi hz' hzs (by simpa using hb) (fun r hr => by cases hr) (fun h => absurd rfl h) (fun _ k _ _ _ _ h => by simp at h) (fun k _ _ _ h => by simp at h) (.inr rfl) hs hse hnf h
      · cases h
    · rename_i z0 rows
      split at h
      · rename_i hb
        obtain ⟨hz0, hb⟩ := hb
        subst hz0
        cases hx with | data _ _ hx => cases hx with | list _ _ _ A cap cs hl hf hs' hA hc hv =>
        obtain rfl := hf rfl
        exact append_base hw hne (rows := rows) (base := A) (cs := cs) (frz := true) ht hi hz' hzs hb hs' hA hc hv (.inl rfl) hs hse hnf h
      · cases h
    · rename_i n k off len ver gen full
      split at h
      · cases h
      · rename_i R hR
        split at h
        · rename_i hcur
          obtain ⟨hg1, hg2, hg3, hb⟩ := hcur
          cases hx with
          | data _ _ hx => cases hx
          | sl _ _ _ _ _ _ _ ai _ hai hle h1c hsl =>
            obtain ⟨R', hR', hr⟩ := hw.arr n k ai hai
            obtain rfl : R = R' := Option.some.inj (hR.symm.trans hR')
            obtain ⟨A, cap, rfl, sa⟩ := hsl (hr.gen.trans hg1) (hr.len.trans hg2)
            split at h
            · rename_i hfull
              subst hfull
              obtain ⟨g1, w1, x1, t1, a1, hc1⟩ := hw.freeze hR hai
              have hcap := sa.whole rfl
              subst hcap
              have hfit : off + cap ≤ R.rows.length := by rw [← hr.len]; exact sa.fits
              have hlen : ((R.rows.drop off).take cap).length = cap := by rw [List.length_take, List.length_drop]; omega
              have hget : ∀ p row, ((R.rows.drop off).take cap)[p]? = some row → R.rows[off + p]? = some row ∧ p < cap := by
                intro p row hp
                rw [List.getElem?_take] at hp
                split at hp
                · rename_i hlt
                  rw [List.getElem?_drop] at hp
                  exact ⟨hp, hlt⟩
                · cases hp
              have haddr : 0 < cap → ∃ ad, ai.A = some ad ∧ ad.spot = none ∧ A = some ⟨ad.block, ad.off + off * R.sz, none⟩ := by
                intro hp
                obtain ⟨ad, q1, q2, q3⟩ := sa.pos hp
                exact ⟨ad, q1, q2, by rw [q3, hr.sz]⟩
              have hnf1 : ∀ p j row v, src[p]? = some row → row[j]? = some v → ∃ u, news[p * i.size + j]? = some u ∧ FR g1.fz v u := fun p j row v h1 h2 => by
                obtain ⟨u, q1, q2⟩ := hnf p j row v h1 h2
                exact ⟨u, q1, q2.mono x1.fz⟩
              have := append_base (g := g1) (w := w) (P := P) (ty := ty) (tx := tx) w1 (by rw [setArr_length]; exact hne) (rows := (R.rows.drop off).take cap) (base := A) (frz := true) (cs := fun p j => match ai.A with | some ad => (g1.fz ad.block (ad.off + ((off + p) * R.sz + j))).getD undef | none => undef) ht hi hz' hzs (by rw [hlen]; exact hb) (fun r hr' => by rw [← hg3]; exact hr.each r (List.mem_of_mem_drop (List.mem_of_mem_take hr')))
                (fun hne' => by
                  have hp : 0 < cap := by
                    rcases Nat.eq_zero_or_pos cap with h0 | h0
                    · subst h0; simp at hne'
                    · exact h0
                  obtain ⟨ad, _, _, q3⟩ := haddr hp
                  exact ⟨_, q3, rfl⟩)
                (fun ad p j row v had hp hj => by
                  obtain ⟨hp', hlt⟩ := hget p row hp
                  obtain ⟨ad', q1, q2, q3⟩ := haddr (by omega)
                  rw [had] at q3
                  obtain rfl := Option.some.inj q3
                  obtain ⟨u, u1, _⟩ := hc1 ad' (off + p) j row v q1 hp' hj
                  simp only [q1]
                  rw [u1, ← hg3]
                  rw [show ad'.off + off * R.sz + (p * R.sz + j) = ad'.off + ((off + p) * R.sz + j) by rw [Nat.add_mul]; omega]
                  exact u1)
                (fun p j row v hp hj => by
                  obtain ⟨hp', hlt⟩ := hget p row hp
                  obtain ⟨ad', q1, q2, q3⟩ := haddr (by omega)
                  obtain ⟨u, u1, u2⟩ := hc1 ad' (off + p) j row v q1 hp' hj
                  simp only [q1]
                  rw [u1]
                  exact u2) (.inl rfl) hs hse hnf1 (t := t) h
              rw [hlen] at this
              obtain ⟨u, w2, g2, hrun, hst⟩ := this
              exact ⟨u, w2, g2, hrun, hst.behind x1 t1 rfl (setArr_length _ _ _ _)⟩
            · rename_i hfull
              have hff : full = false := by simpa using hfull
              subst hff
              split at h
              · rename_i hc
                obtain ⟨rfl, rfl, _⟩ := hc
                cases h
                have hcap := sa.open_ rfl (by rw [hr.len, hg2]) rfl
                have hA := sa.zero rfl
                subst hA hcap
                subst hg1 hg2
                have := append_open (kd := kd) (d := d) (ty := ty) hw ht hi hz' hzs hR hai hg3 hb hs hse hnf rfl
                rw [hr.len] at this
                exact this
              · cases h
        · cases h
    · cases h
/-- A literal's rows. -/
def Rows (g : Gh) (sz : Nat) (rows : List (List PV)) (cells : Array Value) : Prop := cells.size = rows.length * sz ∧ (∀ r ∈ rows, r.length = sz) ∧ ∀ i j row v, rows[i]? = some row → row[j]? = some v → FR g.fz v (cells.getD (i * sz + j) undef)
theorem allPure_FR {vs : List PV} {f : Nat → Value} (hp : allPure vs = true) (h : ∀ i v, vs[i]? = some v → VR g v (f i)) : ∀ i v, vs[i]? = some v → FR g.fz v (f i) := fun i v hi => (h i v hi).pure_FR (List.all_eq_true.1 hp v (List.mem_of_getElem? hi))
theorem Rows.mono {sz : Nat} {rows : List (List PV)} {cells : Array Value} (hx : Ext g g') (h : Rows g sz rows cells) : Rows g' sz rows cells := ⟨h.1, h.2.1, fun i j row v hi hj => (h.2.2 i j row v hi hj).mono hx.fz⟩
theorem rows_fill {e : TypeId} : ∀ (parts : List (Nat × Operand)) (ps : List (Nat × X)) (rows rows' : List (List PV)) (S S' : Sto) (g : Gh) (cells : Array Value) (ac : Ac) (a : Act), cRows P e parts = some ps → WR g S w → (∀ t, VR g (ac.e t) (a.eval (.tmp t))) → Rows g (P.cellsOf e) rows cells → rowsP S ac.ev (P.cellsOf e) rows ps = some (rows', S') →
    ∃ g' cells', WR g' S' w ∧ Ext g g' ∧ Tr g w g' w ∧ Rows g' (P.cellsOf e) rows' cells' ∧ Instr.fill (fun i => some (i * P.cellsOf e, P.cellsOf e)) cells (parts.map fun (i, x) => (i, a.eval x)) = some cells' ∧ S'.length = S.length ∧ rows'.length = rows.length
  | [], ps, rows, rows', S, S', g, cells, ac, a, hc, hw, he, hr, h => by
    simp only [cRows, Option.some.injEq] at hc
    subst hc
    simp only [rowsP, Option.some.injEq, Prod.mk.injEq] at h
    obtain ⟨rfl, rfl⟩ := h
    exact ⟨g, cells, hw, Ext.refl _, Tr.refl _ _, hr, rfl, rfl, rfl⟩
  | (i, x) :: r, ps, rows, rows', S, S', g, cells, ac, a, hc, hw, he, hr, h => by
    simp only [cRows] at hc
    split at hc
    · rename_i x' r' hx hr'
      obtain rfl := Option.some.inj hc
      simp only [rowsP] at h
      split at h
      · rename_i vs S1 hh
        split at h
        · rename_i hcnd
          obtain ⟨h1, h2, h3⟩ := hcnd
          have hev : VR g (ac.ev x') (a.eval x) := Rel.ev (P := P) (w := w) (ac := { ac with S := S }) ⟨hw, he⟩ hx
          have hone : (ac.ev x').one = true ∨ ∃ vs, ac.ev x' = .agg vs := by
            cases hq : ac.ev x' <;> first | exact .inl rfl | exact .inr ⟨_, rfl⟩ | skip
            all_goals
              rw [hq] at hh
              simp only [PV.cells, handL, hand1, Option.some.injEq, Prod.mk.injEq] at hh
              obtain ⟨rfl, _⟩ := hh
              simp [allPure, PV.pure] at h2
          have hcl := hev.cells_ hone
          obtain ⟨g1, w1, x1, t1, l1, r1⟩ := handL_ok (ac.ev x').cells vs S S1 g (fun i => (a.eval x).cells.getD i Go.undef) hw hcl.2 hh
          have hfr := allPure_FR h2 r1
          have hsz : (a.eval x).cells.size = P.cellsOf e := by rw [← hcl.1, ← l1, h1]
          obtain ⟨f1, f2⟩ := fold_set cells (a.eval x).cells (i * P.cellsOf e)
          have hfit : (i + 1) * P.cellsOf e ≤ rows.length * P.cellsOf e := Nat.mul_le_mul_right _ h3
          rw [Nat.add_mul, Nat.one_mul] at hfit
          have hrows : Rows g1 (P.cellsOf e) (rows.set i vs) ((a.eval x).cells.zipIdx.foldl (fun cs (c, j) => cs.setIfInBounds (i * P.cellsOf e + j) c) cells) := by
            refine ⟨by rw [f1, hr.1]; simp, fun r' hr'' => ?_, fun p j row v hp hj => ?_⟩
            · rcases List.mem_or_eq_of_mem_set hr'' with h | h
              · exact hr.2.1 r' h
              · rw [h]; exact h1
            · rw [Array.getD_eq_getD_getElem?, f2 _ (by rw [hr.1]; omega)]
              by_cases ep : p = i
              · subst ep
                rw [List.getElem?_set_self h3] at hp
                obtain rfl := Option.some.inj hp
                have hj' := (List.getElem?_eq_some_iff.1 hj).1
                rw [if_pos ⟨by omega, by omega⟩]
                have := hfr j v hj
                rw [Array.getD_eq_getD_getElem?] at this
                rwa [show p * P.cellsOf e + j - p * P.cellsOf e = j by omega]
              · rw [List.getElem?_set_ne (Ne.symm ep)] at hp
                have hj' : j < P.cellsOf e := by rw [← hr.2.1 row (List.mem_of_getElem? hp)]; exact (List.getElem?_eq_some_iff.1 hj).1
                have := hr.2.2 p j row v hp hj
                rw [Array.getD_eq_getD_getElem?] at this
                rw [if_neg]
                · exact this.mono x1.fz
                · intro hh
                  rcases Nat.lt_or_ge p i with h | h
                  · have : (p + 1) * P.cellsOf e ≤ i * P.cellsOf e := Nat.mul_le_mul_right _ h
                    rw [Nat.add_mul, Nat.one_mul] at this
                    omega
                  · have h' : i + 1 ≤ p := by omega
                    have : (i + 1) * P.cellsOf e ≤ p * P.cellsOf e := Nat.mul_le_mul_right _ h'
                    rw [Nat.add_mul, Nat.one_mul] at this
                    omega
          obtain ⟨g2, cells', w2, x2, t2, r2, q2, l2, l3⟩ := rows_fill r r' _ rows' S1 S' g1 _ ac a hr' w1 (fun t => (he t).mono x1) hrows h
          refine ⟨g2, cells', w2, x1.trans x2, t1.trans t2, r2, ?_, l2.trans (handL_length _ _ _ _ hh), l3.trans (by simp)⟩
          simp only [List.map_cons, Instr.fill]
          rw [if_neg (by simp [hsz, hr.1]; omega)]
          exact q2
        · cases h
      · cases h
    · cases hc
end
end Go.Proofs.Ytebflncfgjnkkaa.M

/- THE ABSTRACT MACHINE, twenty-second part: an operation that makes, writes, or calls. -/
namespace Go.Proofs.Ytebflncfgjnkkaa.M
set_option linter.unusedSimpArgs false
set_option linter.unusedVariables false
open Go
section
variable {g g' : Gh} {S S' : Sto} {w w' : World} {P : Program}
theorem inv_nilv {o : Oper} {z : Nat} (h : cOp P o = some (.nilv z)) : ∃ x, o.op = .assign x ∧ isNilSlice x = true := by
  obtain ⟨dst, op, ty, pos, after, guard⟩ := o
  cases op <;> simp only [cOp, reduceCtorEq, Option.map_eq_some_iff] at h
  case assign x =>
    refine ⟨x, rfl, ?_⟩
    split at h
    · assumption
    · rw [Option.map_eq_some_iff] at h
      obtain ⟨_, _, h⟩ := h
      cases h
  case call c =>
    unfold cCall at h
    repeat' split at h
    all_goals cases h
  all_goals first
    | (obtain ⟨_, _, h⟩ := h; cases h; done)
    | (repeat' split at h
       all_goals first | (cases h; done) | (rw [Option.map_eq_some_iff] at h; obtain ⟨_, _, h⟩ := h; cases h))
theorem inv_alloc {o : Oper} {z : List PV} (h : cOp P o = some (.alloc z)) : ∃ t, o.op = .alloc t ∧ cZ P t = some z := by
  obtain ⟨dst, op, ty, pos, after, guard⟩ := o
  cases op <;> simp only [cOp, reduceCtorEq, Option.map_eq_some_iff] at h
  case alloc t =>
    obtain ⟨z', h1, h2⟩ := h
    cases h2
    exact ⟨t, rfl, h1⟩
  case call c =>
    unfold cCall at h
    repeat' split at h
    all_goals cases h
  all_goals first
    | (obtain ⟨_, _, h⟩ := h; cases h; done)
    | (repeat' split at h
       all_goals first | (cases h; done) | (rw [Option.map_eq_some_iff] at h; obtain ⟨_, _, h⟩ := h; cases h))
theorem inv_box {o : Oper} {x : X} (h : cOp P o = some (.box x)) : ∃ t y, o.op = .box t y ∧ cX P 0 y = some x := by
  obtain ⟨dst, op, ty, pos, after, guard⟩ := o
  cases op <;> simp only [cOp, reduceCtorEq, Option.map_eq_some_iff] at h
  case box t y =>
    obtain ⟨z', h1, h2⟩ := h
    cases h2
    exact ⟨t, y, rfl, h1⟩
  case call c =>
    unfold cCall at h
    repeat' split at h
    all_goals cases h
  all_goals first
    | (obtain ⟨_, _, h⟩ := h; cases h; done)
    | (repeat' split at h
       all_goals first | (cases h; done) | (rw [Option.map_eq_some_iff] at h; obtain ⟨_, _, h⟩ := h; cases h))
theorem inv_bslice {o : Oper} {sz n : Nat} {z : List PV} {ps : List (Nat × X)} (h : cOp P o = some (.bslice sz n z ps)) : ∃ t e parts, o.op = .buildSlice t n parts ∧ P.underlying t = some (.slice e) ∧ sz = P.cellsOf e ∧ n * P.cellsOf e ≤ 2 ^ 24 ∧ P.cellsOf e ≠ 0 ∧ (n = 0 → parts.toList = []) ∧ cZ P e = some z ∧ cRows P e parts.toList = some ps := by
  obtain ⟨dst, op, ty, pos, after, guard⟩ := o
  cases op <;> simp only [cOp, reduceCtorEq, Option.map_eq_some_iff] at h
  case buildSlice t n' parts =>
    split at h
    · rename_i e ht
      split at h
      · rename_i hc
        split at h
        · rename_i z' ps' h1 h2
          cases h
          exact ⟨t, e, parts, rfl, ht, rfl, hc.1, hc.2.1, hc.2.2, h1, h2⟩
        · cases h
      · cases h
    · cases h
  case call c =>
    unfold cCall at h
    repeat' split at h
    all_goals cases h
  all_goals first
    | (obtain ⟨_, _, h⟩ := h; cases h; done)
    | (repeat' split at h
       all_goals first | (cases h; done) | (rw [Option.map_eq_some_iff] at h; obtain ⟨_, _, h⟩ := h; cases h))
theorem inv_store {o : Oper} {k : Nat} {x v : X} (h : cOp P o = some (.store k x v)) : ∃ t y u k', o.op = .store t y u ∧ kOf P t = some k' ∧ k = k'.getD 1 ∧ cX P 0 y = some x ∧ cX P t u = some v := by
  obtain ⟨dst, op, ty, pos, after, guard⟩ := o
  cases op <;> simp only [cOp, reduceCtorEq, Option.map_eq_some_iff] at h
  case store t y u =>
    split at h
    · rename_i k' x' v' h1 h2 h3
      cases h
      exact ⟨t, y, u, k', rfl, h1, rfl, h2, h3⟩
    · cases h
  case call c =>
    unfold cCall at h
    repeat' split at h
    all_goals cases h
  all_goals first
    | (obtain ⟨_, _, h⟩ := h; cases h; done)
    | (repeat' split at h
       all_goals first | (cases h; done) | (rw [Option.map_eq_some_iff] at h; obtain ⟨_, _, h⟩ := h; cases h))
theorem inv_panic {o : Oper} {x : X} (h : cOp P o = some (.panic x)) : ∃ y, o.op = .panic y ∧ cX P 0 y = some x := by
  obtain ⟨dst, op, ty, pos, after, guard⟩ := o
  cases op <;> simp only [cOp, reduceCtorEq, Option.map_eq_some_iff] at h
  case panic y =>
    obtain ⟨z', h1, h2⟩ := h
    cases h2
    exact ⟨y, rfl, h1⟩
  case call c =>
    unfold cCall at h
    repeat' split at h
    all_goals cases h
  all_goals first
    | (obtain ⟨_, _, h⟩ := h; cases h; done)
    | (repeat' split at h
       all_goals first | (cases h; done) | (rw [Option.map_eq_some_iff] at h; obtain ⟨_, _, h⟩ := h; cases h))
theorem inv_append {o : Oper} {sz bytes : Nat} {x y : X} (h : cOp P o = some (.append sz bytes x y)) : ∃ c a b t u e z, o.op = .call c ∧ c.callee = .builtin .append ∧ c.args = #[a, b] ∧ c.argTypes = #[t, u] ∧ P.underlying t = some (.slice e) ∧ ((∃ e', P.underlying u = some (.slice e')) ∨ P.underlying u = some .string) ∧ sz = P.cellsOf e ∧ bytes = P.bytesOf e ∧ cZ P e = some z ∧ cX P t a = some x ∧ cX P u b = some y := by
  obtain ⟨dst, op, ty, pos, after, guard⟩ := o
  cases op <;> simp only [cOp, reduceCtorEq, Option.map_eq_some_iff] at h
  case call c =>
    unfold cCall at h
    split at h
    · split at h <;> cases h
    · repeat' split at h
      all_goals cases h
    · rename_i hcal
      split at h
      · rename_i a b t u hargs htys
        have e1 : c.args = #[a, b] := by apply Array.ext'; simpa using hargs
        have e2 : c.argTypes = #[t, u] := by apply Array.ext'; simpa using htys
        split at h
        · rename_i e x' y' ht hu hx hy
          split at h
          · rename_i hc
            cases h
            obtain ⟨z, hz⟩ := Option.isSome_iff_exists.1 hc.2
            exact ⟨c, a, b, t, u, e, z, rfl, hcal, e1, e2, ht, .inr hu, rfl, rfl, hz, hx, hy⟩
          · cases h
        · rename_i e e' x' y' ht hu hx hy
          split at h
          · rename_i hc
            cases h
            obtain ⟨z, hz⟩ := Option.isSome_iff_exists.1 hc.2
            exact ⟨c, a, b, t, u, e, z, rfl, hcal, e1, e2, ht, .inl ⟨e', hu⟩, rfl, rfl, hz, hx, hy⟩
          · cases h
        · cases h
      · cases h
    · repeat' split at h
      all_goals cases h
    · repeat' split at h
      all_goals cases h
    · cases h
  all_goals first
    | (obtain ⟨_, _, h⟩ := h; cases h; done)
    | (repeat' split at h
       all_goals first | (cases h; done) | (rw [Option.map_eq_some_iff] at h; obtain ⟨_, _, h⟩ := h; cases h))
theorem inv_call {o : Oper} {f : X} {xs : List X} (h : cOp P o = some (.call f xs)) : ∃ c y, o.op = .call c ∧ c.callee = .value y ∧ cX P 0 y = some f ∧ cXs P c.args.toList c.argTypes.toList = some xs := by
  obtain ⟨dst, op, ty, pos, after, guard⟩ := o
  cases op <;> simp only [cOp, reduceCtorEq, Option.map_eq_some_iff] at h
  case call c =>
    unfold cCall at h
    split at h
    · rename_i y hcal
      split at h
      · rename_i f' xs' h1 h2
        cases h
        exact ⟨c, y, rfl, hcal, h1, h2⟩
      · cases h
    · repeat' split at h
      all_goals cases h
    · repeat' split at h
      all_goals cases h
    · repeat' split at h
      all_goals cases h
    · repeat' split at h
      all_goals cases h
    · cases h
  all_goals first
    | (obtain ⟨_, _, h⟩ := h; cases h; done)
    | (repeat' split at h
       all_goals first | (cases h; done) | (rw [Option.map_eq_some_iff] at h; obtain ⟨_, _, h⟩ := h; cases h))
end
end Go.Proofs.Ytebflncfgjnkkaa.M

/- THE ABSTRACT MACHINE, twenty-third part: an operation, but a call: it does what the machine does. -/
namespace Go.Proofs.Ytebflncfgjnkkaa.M
set_option linter.unusedSimpArgs false
set_option linter.unusedVariables false
open Go
section
variable {g g' : Gh} {S S' : Sto} {w w' : World} {P : Program}
/-- What the machine says of an operation. -/
def OpRes (P : Program) (o : Oper) (kd : Bool) (g : Gh) (ac : Ac) (w : World) (a : Act) : OO → Prop
  | .ok ac' => ∀ (K : Act → World → Prop) (Q : Exit → Act → World → Prop), (∀ c w' g', Step kd o.dst g ac w ac' c w' g' → K (a.put o.dst c) w') → o.wp P a w K Q
  | .pan v S => ∀ (K : Act → World → Prop) (Q : Exit → Act → World → Prop), (∀ c w' g', WR g' S w' → VR g' v c → Tr g w g' w' → S.length = ac.S.length → Q (.panic [{ v := c, recovered := false }]) a w') → o.wp P a w K Q
  | .bad => True
theorem exec_w {s : Sem Value} {c : Value} (h : s.run P w = .ok c w') : (do pure (Next.value (← s)) : Sem Next).run P w = .ok (.value c) w' := by simp [h]
theorem OpRes.value {o : Oper} {kd : Bool} {ac ac' : Ac} {a : Act} {c : Value} (hrun : (execOp a.eval o).run P w = .ok (.value c) w') (hst : Step kd o.dst g ac w ac' c w' g') : OpRes P o kd g ac w a (.ok ac') := fun K Q h => by
  unfold Oper.wp
  rw [hrun]
  exact h c w' g' hst
theorem OpRes.skip {o : Oper} {kd : Bool} {ac ac' : Ac} {a : Act} (hrun : (execOp a.eval o).run P w = .ok .skip w') (hst : Step kd o.dst g ac w ac' Go.undef w' g') : OpRes P o kd g ac w a (.ok ac') := fun K Q h => by
  unfold Oper.wp
  rw [hrun]
  exact h _ w' g' hst
theorem put_step {kd : Bool} {d : Option Nat} {ac : Ac} {v : PV} {c : Value} (h1 : WR g' S' w') (hx : Ext g g') (ht : Tr g w g' w') (hv : VR g' v c) (hl : S'.length = ac.S.length) : Step kd d g ac w (({ ac with S := S' } : Ac).put d v) c w' g' := by
  cases d with
  | none => exact ⟨h1, ht, (fun t ht => by cases ht), fun t _ u hu => hu.mono hx, fun _ => ⟨hx.toExw, fun _ _ => rfl, fun t _ hb => hx.nam 0 t hb⟩, hl⟩
  | some d =>
    refine ⟨h1, ht, fun t ht => ?_, fun t ht u hu => ?_, fun _ => ⟨hx.toExw, fun t ht => ?_, fun t _ hb => hx.nam 0 t hb⟩, hl⟩
    · obtain rfl := Option.some.inj ht
      simp only [Ac.put, upd, if_true]
      exact hv
    · have : t ≠ d := fun e => ht (by rw [e])
      simp only [Ac.put, upd, if_neg this]
      exact hu.mono hx
    · have : t ≠ d := fun e => ht (by rw [e])
      simp only [Ac.put, upd, if_neg this]
theorem put_self {ac : Ac} {d : Option Nat} {v : PV} : (({ ac with S := ac.S } : Ac).put d v) = ac.put d v := rfl
/-- Cells that nobody owns are frozen. -/
theorem WR.fzMore (hw : WR g S w) {φ : Fz} (hφ : ∀ b o v, φ b o = some v → w.cell? ⟨b, o, none⟩ = some v) (hsub : ∀ b o v, g.fz b o = some v → φ b o = some v) (ho : ∀ x b, g.own x = some b → ∀ o, φ b o = g.fz b o) :
    WR ⟨g.b, g.a, φ⟩ S w ∧ Ext g ⟨g.b, g.a, φ⟩ := by
  have hx : Ext g ⟨g.b, g.a, φ⟩ := ⟨⟨fun _ _ _ h => h, fun _ _ ai h => ⟨ai, h, AIle.refl _⟩, hsub⟩, fun _ _ h => h⟩
  refine ⟨⟨hφ, ?_, ?_, hw.inj⟩, hx⟩
  · intro n t b hb
    obtain ⟨vs, cs, elem, h1, h2, h3, h4, h5⟩ := hw.box n t b hb
    exact ⟨vs, cs, elem, h1, h2, h3, fun i v hi => (h4 i v hi).mono hx, fun o => (ho (.box n t) b hb o).trans (h5 o)⟩
  · intro n k ai ha
    obtain ⟨A, h1, hr⟩ := hw.arr n k ai ha
    refine ⟨A, h1, ⟨hr.sz, hr.len, hr.gen, hr.each, hr.cap, hr.addr, ?_, ?_, hr.free⟩⟩
    · obtain ⟨cs, h2, h3⟩ := hr.cells
      exact ⟨cs, fun i j row v hi hj => (h2 i j row v hi hj).mono hsub, fun ad i j row v had hi hj => ⟨(h3 ad i j row v had hi hj).1, fun hf => hsub _ _ _ ((h3 ad i j row v had hi hj).2 hf)⟩⟩
    · intro b hb
      obtain ⟨h2, h3, h4, h5⟩ := hr.own b hb
      have hown := ho (.arr n k) b (by simp only [Gh.own]; rw [show g.a n k = some ai from ha]; exact hb)
      exact ⟨h2, h3, fun o hle => (hown o).trans (h4 o hle), fun hf o => (hown o).trans (h5 hf o)⟩
/-- A fresh block, all of it frozen. -/
theorem freshBlock (hw : WR g S w) (cells : Array Value) (e : TypeId) : ∃ g', WR g' S (w.alloc (.cells cells e)) ∧ Ext g g' ∧ Tr g w g' (w.alloc (.cells cells e)) ∧ ∀ (o : Nat) (v : Value), cells[o]? = some v → g'.fz w.heap.size o = some v := by
  have h0 := hw.alloc (.cells cells e)
  have hcell : ∀ o, (w.alloc (.cells cells e)).cell? ⟨w.heap.size, o, none⟩ = cells[o]? := by
    intro o
    unfold World.cell?
    rw [alloc_new]
    rfl
  obtain ⟨h1, h2⟩ := h0.fzMore (φ := fun b o => if b = w.heap.size then cells[o]? else g.fz b o) (fun b o v h => by
    split at h
    · rename_i e
      subst e
      rw [hcell]
      exact h
    · exact h0.fz b o v h) (fun b o v h => by
    rw [if_neg]
    · exact h
    · rintro rfl
      rw [hw.fz_new] at h
      cases h) (fun x b h o => by
    rw [if_neg]
    rintro rfl
    exact absurd (hw.own_lt h) (Nat.lt_irrefl _))
  refine ⟨_, h1, h2, ⟨rfl, rfl, rfl, by rw [alloc_size]; omega, h2.fz, fun k hk _ => alloc_heap w _ hk, fun x k h => .inl h, h2.pop_⟩, fun o v h => ?_⟩
  dsimp only
  rw [if_pos rfl]
  exact h
theorem getBox_new (d : Nat) (cs : List PV) (S : Sto) (n t : Nat) : getBox (newBox d cs S) n t = if n = 0 ∧ t = d ∧ 0 < S.length then some (initC d 0 cs) else getBox S n t := by
  cases S with
  | nil => cases n <;> simp [newBox, getBox]
  | cons f S => cases n <;> simp [newBox, getBox, upd]
theorem getArr_new_other (d : Nat) (cs : List PV) (S : Sto) (n : Nat) (k : AK) (h : n = 0 → ∀ j, k ≠ .cell d j) : getArr (newBox d cs S) n k = getArr S n k := by
  cases S with
  | nil => cases n <;> simp [newBox, getArr]
  | cons f S =>
    cases n with
    | succ n => simp [newBox, getArr]
    | zero => simp only [newBox, getArr]; exact initA_other d cs 0 f.arr k fun j _ => h rfl j
theorem getArr_new (d : Nat) (cs : List PV) (S : Sto) (hS : 0 < S.length) (j z : Nat) (h : cs[j]? = some (.nils z)) : getArr (newBox d cs S) 0 (.cell d j) = some ⟨z, [], false, 0⟩ := by
  cases S with
  | nil => exact absurd hS (Nat.lt_irrefl _)
  | cons f S =>
    simp only [newBox, getArr]
    have := initA_get d cs 0 f.arr j z h
    rwa [Nat.zero_add] at this
theorem newBox_length (d : Nat) (cs : List PV) (S : Sto) : (newBox d cs S).length = S.length := by cases S <;> rfl
/-- A variable, when what slot d named is forgotten. -/
theorem box_kill {ac : Ac} (hw : WR g ac.S w) (hne : 0 < ac.S.length) {kd : Bool} {d : Nat} {vs : List PV} {cs : Array Value} (hc : Cells (g.kill d) vs cs) (e : TypeId) (hk : kd = true) :
    ∃ g', Step kd (some d) g ac w ⟨upd (killE d ac.e) d (.ptr 0 d 0), newBox d vs (killS d ac.S)⟩ (.pointer (some ⟨w.heap.size, 0, none⟩)) (w.alloc (.cells cs e)) g' := by
  subst hk
  have hl : 0 < (killS d ac.S).length := by rw [killS_length]; exact hne
  obtain ⟨g', w1, x1, t1, b1, n1⟩ := mkBox (S' := newBox d vs (killS d ac.S)) (hw.kill d) (killed_b g d) (fun i => killed_a g rfl) hc e (by rw [getBox_new, if_pos ⟨rfl, rfl, hl⟩]) (fun j z h => getArr_new d vs _ hl j z h) (fun m t b hb => by
    rw [getBox_new, if_neg]
    rintro ⟨rfl, rfl, _⟩
    rw [killed_b] at hb
    cases hb) (fun m k ai ha => by
    apply getArr_new_other
    rintro rfl j rfl
    have := killed_a g (d := d) (k := .cell d j) rfl
    rw [this] at ha
    cases ha)
  refine ⟨g', w1, (Tr.kill g w d).trans t1, fun t ht => ?_, fun t ht u hu => ?_, fun h => (by cases h), by rw [newBox_length, killS_length]⟩
  · obtain rfl := Option.some.inj ht
    simp only [upd, if_true]
    exact .ptr _ _ _ _ b1
  · have : t ≠ d := fun e => ht (by rw [e])
    simp only [upd, if_neg this, killE]
    exact (hu.kill d).monow x1
theorem Cells.kill {vs : List PV} {cs : Array Value} (h : Cells g vs cs) (d : Nat) : Cells (g.kill d) (PV.killL d vs) cs := by
  refine ⟨by rw [killL_length]; exact h.1, fun i v hi => ?_⟩
  rw [killL_get, Option.map_eq_some_iff] at hi
  obtain ⟨u, hu, rfl⟩ := hi
  exact (h.2 i u hu).kill d
theorem run_alloc_ {t : TypeId} {i : TypeInfo} {v : Value} (hi : P.info? t = some i) (hz : i.zero = some v) (o : Value) (w : World) : (Instr.alloc t true o).run P w = .ok (.pointer (some ⟨w.heap.size, 0, none⟩)) (w.alloc (.cells v.cells t)) := by
  simp [Instr.alloc, zeroValue, typeInfo, hi, hz, newVar, newRow]
theorem run_box_ (t : TypeId) (v : Value) (w : World) : (Instr.box t v).run P w = .ok (.pointer (some ⟨w.heap.size, 0, none⟩)) (w.alloc (.cells v.cells t)) := by
  simp [Instr.box, newVar, newRow]
theorem run_buildNone {t e : TypeId} {ie : TypeInfo} (ht : P.underlying t = some (.slice e)) (hi : P.info? e = some ie) (w : World) : (Instr.buildSlice t 0 #[]).run P w = .ok (.slice (some ⟨w.heap.size, 0, none⟩) 0 0) (w.alloc (.cells #[] e)) := by
  simp [Instr.buildSlice, run_underlying ht, Go.sizeOf, typeInfo, hi, Instr.fill, newRow]
  have : (Array.range 0) = (#[] : Array Nat) := by apply Array.ext'; simp
  rw [this]
  simp
theorem rows_init {e : TypeId} {zs : List PV} {v : Value} (n : Nat) (hz : zs.length = P.cellsOf e) (h1 : v.cells.size = P.cellsOf e) (h : ∀ j p, zs[j]? = some p → FR g.fz p (v.cells.getD j Go.undef)) : Rows g (P.cellsOf e) (List.replicate n zs) ((Array.range (n * P.cellsOf e)).map (v.cells[· % v.cells.size]!)) := by
  refine ⟨by simp, fun r hr => ?_, fun i j row p hi hj => ?_⟩
  · rw [List.eq_of_mem_replicate hr]; exact hz
  · obtain rfl := List.eq_of_mem_replicate (List.mem_of_getElem? hi)
    have hj' : j < P.cellsOf e := by rw [← hz]; exact (List.getElem?_eq_some_iff.1 hj).1
    have hi' : i < n := by have := (List.getElem?_eq_some_iff.1 hi).1; simpa using this
    have hlt := cell_pos hi' hj'
    have e1 : (i * P.cellsOf e + j) % v.cells.size = j := by rw [h1, Nat.mul_comm, Nat.mul_add_mod, Nat.mod_eq_of_lt hj']
    have : ((Array.range (n * P.cellsOf e)).map (v.cells[· % v.cells.size]!)).getD (i * P.cellsOf e + j) Go.undef = v.cells.getD j Go.undef := by
      rw [Array.getD_eq_getD_getElem?]
      simp only [Array.getElem?_map, Array.getElem?_range, if_pos hlt, Option.map_some, Option.getD_some, e1]
      rw [Array.getD_eq_getD_getElem?, getElem!_pos v.cells j (by omega), Array.getElem?_eq_getElem (by omega : j < v.cells.size)]
      rfl
    rw [this]
    exact h j p hj
theorem bslice_ok {t e : TypeId} {n : Nat} {parts : Array (Nat × Operand)} {z : List PV} {ps : List (Nat × X)} (ht : P.underlying t = some (.slice e)) (hsm : n * P.cellsOf e ≤ 2 ^ 24) (h0 : P.cellsOf e ≠ 0) (hz : cZ P e = some z) (hps : cRows P e parts.toList = some ps) (hn : n ≠ 0)
    {ac : Ac} {a : Act} (hr : Rel g ac a w) {kd : Bool} {d : Option Nat} {rows : List (List PV)} (h : rowsP ac.S ac.ev (P.cellsOf e) (List.replicate n z) ps = some (rows, S')) :
    ∃ c w' g', (Instr.buildSlice t n (parts.map fun (i, x) => (i, a.eval x))).run P w = .ok c w' ∧ Step kd d g ac w (({ ac with S := S' } : Ac).put d (.list (P.cellsOf e) rows true)) c w' g' := by
  obtain ⟨i, v, hi, hv, hsz, hcl, hfr⟩ := cZ_ok (g := g) hz
  have e1 : P.cellsOf e = i.size := cellsOf_info hi
  have hzl : z.length = P.cellsOf e := hcl.1.trans hsz
  obtain ⟨g1, cells, w1, x1, t1, r1, hfill, l1, l2⟩ := rows_fill parts.toList ps (List.replicate n z) rows ac.S S' g _ ac a hps hr.wr hr.env (rows_init n hzl hsz hfr) h
  obtain ⟨g2, w2, x2, t2, f2⟩ := freshBlock w1 cells e
  have hrl : rows.length = n := by rw [l2]; simp
  have hpos : n * P.cellsOf e ≠ 0 := Nat.mul_ne_zero hn h0
  refine ⟨_, _, g2, run_buildSlice w t e n _ cells i v ht hi hv (by rw [← e1]; omega) (by rw [← e1]; exact hpos) (by rw [Array.toList_map, ← e1]; exact hfill), put_step w2 (x1.trans x2) (t1.trans t2) ?_ l1⟩
  obtain ⟨q1, q2, q3⟩ := r1
  rw [show (Value.slice (some ⟨w.heap.size, 0, none⟩) n n) = .slice (some ⟨w.heap.size, 0, none⟩) rows.length n by rw [hrl]]
  refine .data _ _ (.list (P.cellsOf e) rows true _ n (fun i j => cells.getD (i * P.cellsOf e + j) Go.undef) (by omega) (fun _ => hrl.symm) q2 (fun _ => ⟨_, rfl, rfl⟩) (fun ad i j row v had hi hj => ?_) (fun i j row v hi hj => (q3 i j row v hi hj).mono x2.fz))
  obtain rfl := Option.some.inj had
  have hj' : j < P.cellsOf e := by rw [← q2 row (List.mem_of_getElem? hi)]; exact (List.getElem?_eq_some_iff.1 hj).1
  have hlt := cell_pos (List.getElem?_eq_some_iff.1 hi).1 hj'
  rw [Nat.zero_add]
  apply f2
  rw [Array.getD_eq_getD_getElem?, Array.getElem?_eq_getElem (by rw [q1]; exact hlt)]
  rfl
theorem iface_inv {t : Nat} {v : PV} {c : Value} (h : VR g (.iface t v) c) : ∃ u, c = .iface t u := by
  cases h with
  | data _ _ h => cases h with | iface _ _ u h => exact ⟨u, rfl⟩
  | iface _ _ u h => exact ⟨u, rfl⟩
/-- Every operation but a call. -/
theorem ex_ok {cl : Oracle} {o : Oper} {op : SOp} (hc : cOp P o = some op) {kd : Bool} {ac : Ac} {a : Act} (hr : Rel g ac a w) (hne : 0 < ac.S.length) (hfree : kd = false → ∀ d z, o.dst = some d → op = .alloc z → Bare g 0 d)
    (hcall : ∀ f xs, op = .call f xs → OpRes P o kd g ac w a (callP cl kd o.dst (ac.ev f) (xs.map ac.ev) ac)) : OpRes P o kd g ac w a (ex cl kd o.dst op ac) := by
  cases op with
  | v vo =>
    simp only [ex]
    split
    · rename_i v hv
      obtain ⟨c, hrun, hvr⟩ := vop_ok hc hr hv
      exact .value hrun (put_step hr.wr (Ext.refl g) (Tr.refl g w) hvr rfl)
    · trivial
  | nilv sz =>
    obtain ⟨x, ho, hx⟩ := inv_nilv hc
    simp only [ex]
    cases hd : o.dst with
    | none => trivial
    | some d =>
      simp only
      cases hn : newArr kd d ⟨sz, [], false, 0⟩ ac with
      | bad => trivial
      | pan v S => unfold newArr at hn; split at hn <;> first | cases hn | (split at hn <;> cases hn)
      | ok ac' =>
        obtain ⟨g', hst⟩ := newArr_step (w' := w) (c := .slice none 0 0) hr.wr hne (fun g0 S0 w0 hfz hn hl => by
          obtain ⟨g', w1, x1, t1, a1⟩ := aliasRow w0 (n := 0) (k := .slot d) (A := ⟨sz, [], false, 0⟩) (a := none) (cap := 0) (cs := fun _ _ => Go.undef) rfl (fun r hr => by cases hr) (fun h => absurd rfl h) (fun ad k j row v h1 => by cases h1) (fun k j row v h1 => by simp at h1) (.inr rfl) hl (fun ai0 h0 => by rw [hn] at h0; cases h0) nm_slot
          refine ⟨g', w1, x1, ?_, _, a1, rfl, rfl, rfl, fun h => absurd rfl h, Nat.le_refl _⟩
          exact t1) hn
        have hrun : (execOp a.eval o).run P w = .ok (.value (.slice none 0 0)) w := by
          unfold execOp
          rw [ho]
          cases x with
          | const v =>
            cases v <;> try cases hx
            rename_i A n c
            cases A with
            | some _ => cases hx
            | none =>
              cases n with
              | succ _ => cases hx
              | zero => cases c with
                | succ _ => cases hx
                | zero => rfl
          | _ => cases hx
        rw [← hd] at hst
        exact .value hrun hst
  | alloc zero =>
    obtain ⟨t, ho, hz⟩ := inv_alloc hc
    obtain ⟨i, v, hi, hv, hsz, _, _⟩ := cZ_ok (g := g) hz
    have hrun : (execOp a.eval o).run P w = .ok (.value (.pointer (some ⟨w.heap.size, 0, none⟩))) (w.alloc (.cells v.cells t)) := by
      unfold execOp
      rw [ho]
      exact exec_w (run_alloc_ hi hv _ w)
    simp only [ex]
    cases hd : o.dst with
    | none => trivial
    | some d =>
      simp only
      split
      · rename_i hk
        obtain ⟨_, v', _, hv', _, hcl, _⟩ := cZ_ok (g := g.kill d) hz
        have hcl' : Cells (g.kill d) zero v.cells := by
          obtain ⟨i2, v2, hi2, hv2, _, hcl2, _⟩ := cZ_ok (g := g.kill d) hz
          rw [hi] at hi2
          obtain rfl := Option.some.inj hi2
          rw [hv] at hv2
          obtain rfl := Option.some.inj hv2
          exact hcl2
        obtain ⟨g', hst⟩ := box_kill hr.wr hne hcl' t hk
        rw [← hd] at hst
        exact .value hrun hst
      · rename_i hk
        split
        · rename_i hq
          have hb := hfree (by simpa using hk) d zero hd rfl
          obtain ⟨i2, v2, hi2, hv2, _, hcl2, _⟩ := cZ_ok (g := g) hz
          rw [hi] at hi2
          obtain rfl := Option.some.inj hi2
          rw [hv] at hv2
          obtain rfl := Option.some.inj hv2
          obtain ⟨g', w1, x1, t1, b1, n1⟩ := mkBox (S' := ac.S) hr.wr hb.1 hb.2 hcl2 t hq.1 (fun j z hj => by
            have := okA_get d zero 0 _ hq.2 j z hj
            rwa [Nat.zero_add] at this) (fun _ _ _ _ => rfl) (fun _ _ _ _ => rfl)
          refine .value hrun (g' := g') ?_
          rw [hd]
          refine ⟨w1, t1, fun t ht => ?_, fun t ht u hu => ?_, fun _ => ⟨x1, fun t ht => ?_, fun t ht hb => n1 t (fun e => ht (by rw [e])) hb⟩, rfl⟩
          · obtain rfl := Option.some.inj ht
            simp only [Ac.put, upd, if_true]
            exact .ptr _ _ _ _ b1
          · have : t ≠ d := fun e => ht (by rw [e])
            simp only [Ac.put, upd, if_neg this]
            exact hu.monow x1
          · have : t ≠ d := fun e => ht (by rw [e])
            simp only [Ac.put, upd, if_neg this]
        · trivial
  | box x =>
    obtain ⟨t, y, ho, hx⟩ := inv_box hc
    have hrun : (execOp a.eval o).run P w = .ok (.value (.pointer (some ⟨w.heap.size, 0, none⟩))) (w.alloc (.cells (a.eval y).cells t)) := by
      unfold execOp
      rw [ho]
      exact exec_w (run_box_ t _ w)
    simp only [ex]
    cases hd : o.dst with
    | none => trivial
    | some d =>
      simp only
      split
      · rename_i hk
        have hcl := ((hr.ev hx).cells_ (cells_one hk.2)).kill d
        obtain ⟨g', hst⟩ := box_kill hr.wr hne hcl t hk.1
        rw [← hd] at hst
        exact .value hrun hst
      · trivial
  | bslice sz n zero parts =>
    obtain ⟨t, e, ps, ho, ht, rfl, hsm, h0, hn0, hz, hps⟩ := inv_bslice hc
    simp only [ex]
    split
    · rename_i hn
      subst hn
      obtain ⟨i, v, hi, _⟩ := cZ_ok (g := g) hz
      have hps0 : ps = #[] := by apply Array.ext'; simpa using hn0 rfl
      subst hps0
      have hrun : (execOp a.eval o).run P w = .ok (.value (.slice (some ⟨w.heap.size, 0, none⟩) 0 0)) (w.alloc (.cells #[] e)) := by
        unfold execOp
        rw [ho]
        simp only [List.map_toArray, List.map_nil]
        exact exec_w (run_buildNone ht hi w)
      have := hr.wr.alloc (.cells #[] e)
      refine .value hrun (put_step (S' := ac.S) this (Ext.refl g) ⟨rfl, rfl, rfl, by rw [alloc_size]; omega, fun _ _ _ h => h, fun k hk _ => alloc_heap w _ hk, fun x k h => .inl h, Ext.refl _⟩ (.data _ _ (.nils _ _)) rfl)
    · rename_i hn
      split
      · rename_i rows S1 h
        obtain ⟨c, w', g', hrun, hst⟩ := bslice_ok ht hsm h0 hz hps hn hr h (kd := kd) (d := o.dst)
        refine .value (g' := g') (c := c) (w' := w') ?_ hst
        unfold execOp
        rw [ho]
        exact exec_w hrun
      · trivial
  | store k x v =>
    obtain ⟨t, y, u, k', ho, hk, rfl, hx, hv⟩ := inv_store hc
    simp only [ex]
    split
    · rename_i S1 hd hs
      obtain ⟨w', g', hrun, w1, x1, t1, l1⟩ := store_ok hr.wr hk (hr.ev hx) (hr.ev hv) hs
      refine .skip (g' := g') (w' := w') ?_ ?_
      · unfold execOp
        rw [ho]
        simp [hrun]
      · rw [hd]
        exact put_step (d := none) (v := .undef) w1 x1 t1 .undef l1
    · trivial
  | append sz bytes x y =>
    obtain ⟨c, p, q, t, u, e, z, ho, hcal, hargs, htys, ht, hu, rfl, rfl, hz, hx, hy⟩ := inv_append hc
    simp only [ex]
    cases hd : o.dst with
    | none => trivial
    | some d =>
      simp only
      cases hn : appendP kd d (P.cellsOf e) (P.bytesOf e) (ac.ev x) (ac.ev y) ac with
      | bad => trivial
      | pan v S =>
        exfalso
        unfold appendP newArr at hn
        repeat' split at hn
        all_goals cases hn
      | ok ac' =>
        obtain ⟨v, w', g', hrun, hst⟩ := append_ok (ty := o.type) hr.wr hne ht hu hz (hr.ev hx) (hr.ev hy) hn
        rw [← hd] at hst
        refine .value (g' := g') (c := v) (w' := w') ?_ hst
        unfold execOp
        rw [ho]
        simp only [resolve, hcal, hargs, htys, Sem.run_bind, Sem.run_pure, Result.andThen_ok, invoke, builtin, List.map_toArray, List.map_cons, List.map_nil]
        rw [hrun]
        simp
  | call f xs => exact hcall f xs rfl
  | panic x =>
    obtain ⟨y, ho, hx⟩ := inv_panic hc
    simp only [ex]
    split
    · rename_i t v hv
      intro K Q h
      have hvr := hr.ev hx
      rw [hv] at hvr
      obtain ⟨u, hu⟩ := iface_inv hvr
      have hrun : (execOp a.eval o).run P w = .halt (.panic (.iface t u)) w := by
        unfold execOp
        rw [ho]
        simp [hu, run_panic_iface]
      unfold Oper.wp
      rw [hrun]
      exact h _ w g hr.wr (by rw [← hu]; exact hvr) (Tr.refl g w) rfl
    · trivial
end
end Go.Proofs.Ytebflncfgjnkkaa.M

/- THE ABSTRACT MACHINE, twenty-fourth part: a call, if what is said of the function called holds. -/
namespace Go.Proofs.Ytebflncfgjnkkaa.M
set_option linter.unusedSimpArgs false
set_option linter.unusedVariables false
open Go
section
variable {g g' : Gh} {S S' : Sto} {w w' : World} {P : Program}
/-- A function is entered, or answers at once. -/
def Answers (P : Program) (f : FuncId) (args : Array Value) (w : World) (R : Ending → World → Prop) : Prop :=
  ((callFunc f args).run P w = .ok (.enter f args) w ∧ Calls P f args w R) ∨ ∃ c w', (callFunc f args).run P w = .ok (.value c) w' ∧ R (.returned c) w'
/-- What comes back. n0: the heap's size at the call. -/
def RetOk (g' : Gh) (w' : World) (n0 : Nat) : Ret → Value → Prop
  | .v x, c => VR g' x c
  | .arr sz rows frz, c => ∃ ai, ArrRel g' w' ⟨sz, rows, frz, 0⟩ ai ∧ c = .slice ai.A ai.len ai.cap ∧ ∀ b, ai.blk = some b → n0 ≤ b ∧ ∀ x, g'.own x ≠ some b
def CallPost (g : Gh) (S : Sto) (w : World) : CO → Ending → World → Prop
  | .ok r S', .returned c, w' => ∃ g', WR g' S' w' ∧ Ext g g' ∧ Tr g w g' w' ∧ RetOk g' w' w.heap.size r c ∧ S'.length = S.length
  | .pan v S', .panicked ch, w' => ∃ g' c, ch = [{ v := c, recovered := false }] ∧ WR g' S' w' ∧ VR g' v c ∧ Ext g g' ∧ Tr g w g' w' ∧ S'.length = S.length
  | _, _, _ => False
def ArgsR (g : Gh) (args : List PV) (cs : Array Value) : Prop := args.length = cs.size ∧ ∀ i v, args[i]? = some v → VR g v (cs.getD i Go.undef)
/-- All that is said of functions holds. -/
def OracleOk (P : Program) (cl : Oracle) : Prop := ∀ f args S, cl f args S ≠ .bad → ∀ g w cs, WR g S w → ArgsR g args cs → Answers P f cs w (CallPost g S w (cl f args S))
theorem Answers.wp {f : FuncId} {cs : Array Value} {R : Ending → World → Prop} (h : Answers P f cs w R) {o : Oper} {a : Act} {K : Act → World → Prop} {Q : Exit → Act → World → Prop} (he : (execOp a.eval o).run P w = (callFunc f cs).run P w)
    (h1 : ∀ c w', R (.returned c) w' → K (a.put o.dst c) w') (h2 : ∀ ch w', R (.panicked ch) w' → Q (.panic ch) a w') (h3 : ∀ w', ¬ R .outgrown w') : o.wp P a w K Q := by
  unfold Oper.wp
  rw [he]
  rcases h with ⟨h, hc⟩ | ⟨c, w', h, hR⟩
  · rw [h]
    refine hc.mono fun e w' hR => ?_
    cases e with
    | returned v => exact h1 v w' hR
    | panicked ch => exact h2 ch w' hR
    | outgrown => exact absurd hR (h3 w')
  · rw [h]
    exact h1 c w' hR
theorem cells_pure {v : PV} {c : Value} {φ : Fz} (h : VR g v c) (hp : v.cells.all PV.pure = true) (hf : g.fz = φ) : VR ⟨fun _ _ => none, fun _ _ => none, φ⟩ v c := by
  subst hf
  by_cases hv : ∃ vs, v = .agg vs
  · obtain ⟨vs, rfl⟩ := hv
    obtain ⟨cs, rfl, h1, h2⟩ := h.agg_inv
    exact .agg vs cs h1 fun i u hi => .data _ _ ((h2 i u hi).pure_FR (List.all_eq_true.1 hp u (List.mem_of_getElem? hi)))
  · have : v.cells = [v] := by cases v <;> first | rfl | exact absurd ⟨_, rfl⟩ hv
    rw [this] at hp
    exact .data _ _ (h.pure_FR (by simpa using hp))
theorem FR.plain {fz fz' : Fz} {v : PV} {c : Value} (h : FR fz v c) : v.plain = true → FR fz' v c := by
  induction h with
  | bool b => exact fun _ => .bool b
  | int k n => exact fun _ => .int k n
  | str s => exact fun _ => .str s
  | nils z A => intro h; simp [PV.plain] at h
  | list z rows full A cap cs hl hf hs hA hc hv ih => intro h; simp [PV.plain] at h
  | func f => intro h; simp [PV.plain] at h
  | iface t v c _ ih => intro h; exact .iface t v c (ih (by simpa [PV.plain] using h))
  | nili => exact fun _ => .nili
theorem plainL_get : ∀ (vs : List PV), PV.plainL vs = true → ∀ (i : Nat) (v : PV), vs[i]? = some v → v.plain = true
  | [], _, i, v, h => by simp at h
  | u :: vs, h, i, v, hi => by
    simp only [PV.plainL, Bool.and_eq_true] at h
    cases i with
    | zero => simp at hi; subst hi; exact h.1
    | succ i => exact plainL_get vs h.2 i v (by simpa using hi)
theorem VR.plain {v : PV} {c : Value} (h : VR g v c) : v.plain = true → VR g' v c := by
  induction h with
  | data v c h => exact fun hp => .data _ _ (h.plain hp)
  | agg vs cs hl _ ih => exact fun hp => .agg vs cs hl fun i v hi => ih i v hi (plainL_get vs (by simpa [PV.plain] using hp) i v hi)
  | tup vs cs hl _ ih => exact fun hp => .tup vs cs hl fun i v hi => ih i v hi (plainL_get vs (by simpa [PV.plain] using hp) i v hi)
  | iface t v c _ ih => exact fun hp => .iface t v c (ih (by simpa [PV.plain] using hp))
  | undef => exact fun _ => .undef
  | _ => intro hp; simp [PV.plain] at hp
theorem put_pop (g : Gh) (k : AK) (ai : AI) : (g.put 0 k ai g.fz).pop = g.pop := by
  unfold Gh.pop Gh.put
  simp
/-- A row that a call gives back, under the name of the slot that the call fills. -/
theorem ret_row {gb g1 : Gh} {wb w1 : World} {acb ac1 ac' : Ac} (hw : WR g1 ac1.S w1) (hne : 0 < ac1.S.length) {kd : Bool} {d : Nat} {A : Arr} {ai : AI} (hA : ArrRel g1 w1 A ai) (hb : ∀ b, ai.blk = some b → wb.heap.size ≤ b ∧ ∀ x, g1.own x ≠ some b) (he : ac1.e = acb.e) (hl : ac1.S.length = acb.S.length) (hx : Ext gb g1) (ht : Tr gb wb g1 w1)
    (h : newArr kd d A ac1 = .ok ac') : ∃ g', Step kd (some d) gb acb wb ac' (.slice ai.A ai.len ai.cap) w1 g' := by
  obtain ⟨g', t1, hs⟩ := newArr_core (w' := w1) (c := .slice ai.A ai.len ai.cap) (T := fun g' => Tr gb wb g' w1) hw hne (fun g0 S0 hor w0 hn hl0 => by
    have ht0 : Tr gb wb g0 w1 := by
      rcases hor with e | e
      · rw [e]; exact ht
      · rw [e]; exact ht.trans (Tr.kill g1 w1 d)
    have hfz : g0.fz = g1.fz := by rcases hor with e | e <;> rw [e] <;> rfl
    have hown : ∀ x b, g0.own x = some b → g1.own x = some b := by
      intro x b h
      rcases hor with e | e
      · rw [e] at h; exact h
      · rw [e] at h; exact kill_own h
    obtain ⟨p1, p2⟩ := w0.put (w' := w1) (S' := setArr S0 0 (.slot d) A) (n := 0) (k := .slot d) (A := A) (ai := ai) (φ := g0.fz) w0.fz (fun _ _ _ h => h) (fun _ _ _ _ => ⟨rfl, fun _ => rfl⟩) (hA.ghost hfz.symm) (fun b hbk x _ hx => (hb b hbk).2 x (hown x b hx)) (fun ai0 h0 => by rw [hn] at h0; cases h0) nm_slot (by rw [getArr_set, if_pos ⟨rfl, rfl, hl0⟩]) (fun m t b _ => getBox_setArr _ _ _ _ _ _) (fun m j _ hne _ => by rw [getArr_set, if_neg (fun e => hne ⟨e.1, e.2.1⟩)])
    refine ⟨_, p1, p2, ⟨ht0.os, ht0.tape, ht0.output, ht0.size, fun b o v h => ht0.fz b o v h, ht0.keep, fun x k hk => ?_, ?_⟩, ai, by simp [Gh.put], hA.len, hA.gen, rfl, hA.addr, hA.cap⟩
    · rcases put_own hk with ⟨_, h1⟩ | ⟨_, h1⟩
      · exact .inr (hb k h1).1
      · exact ht0.new x k h1
    · rw [put_pop]; exact ht0.out) h
  exact ⟨g', hs gb acb wb he.symm hl.symm hx t1⟩
theorem call_ok {cl : Oracle} (hcl : OracleOk P cl) {o : Oper} {fx : X} {xs : List X} (hc : cOp P o = some (.call fx xs)) {kd : Bool} {ac : Ac} {a : Act} (hr : Rel g ac a w) (hne : 0 < ac.S.length) :
    OpRes P o kd g ac w a (callP cl kd o.dst (ac.ev fx) (xs.map ac.ev) ac) := by
  obtain ⟨c, y, ho, hcal, hy, hxs⟩ := inv_call hc
  unfold callP
  split
  · rename_i f caps hf
    have hfv := hr.ev hy
    rw [hf] at hfv
    obtain ⟨cc, hcc, hcl1, hcr⟩ := hfv.func_inv
    obtain ⟨hxl, hxr⟩ := hr.evs c.args.toList c.argTypes.toList xs hxs
    have hxl' : xs.length = c.args.size := by simpa using hxl
    let cargs : Array Value := c.args.map a.eval ++ cc
    have hexec : (execOp a.eval o).run P w = (callFunc f cargs).run P w := by
      unfold execOp
      rw [ho]
      simp [resolve, hcal, hcc, Deferred.ofValue, invoke, cargs]
    have hargs : ∀ i v, (xs.map ac.ev ++ caps)[i]? = some v → VR g v (cargs.getD i Go.undef) := by
      intro i v hi
      rcases Nat.lt_or_ge i xs.length with hlt | hge
      · rw [List.getElem?_append_left (by simpa using hlt), List.getElem?_map, Option.map_eq_some_iff] at hi
        obtain ⟨x', hx', rfl⟩ := hi
        obtain ⟨x, hx, hvr⟩ := hxr i x' hx'
        have : cargs.getD i Go.undef = a.eval x := by
          have hx2 : c.args[i]? = some x := by simpa using hx
          rw [Array.getD_eq_getD_getElem?, Array.getElem?_append_left (by simp; omega)]
          simp [hx2]
        rw [this]
        exact hvr
      · rw [List.getElem?_append_right (by simpa using hge)] at hi
        have hi' : caps[i - c.args.size]? = some v := by rw [← hxl']; simpa using hi
        have := hcr _ v hi'
        have e : cargs.getD i Go.undef = cc.getD (i - c.args.size) Go.undef := by
          rw [Array.getD_eq_getD_getElem?, Array.getElem?_append_right (by simp; omega), Array.getD_eq_getD_getElem?]
          simp
        rw [e]
        exact this
    have hsize : (xs.map ac.ev ++ caps).length = cargs.size := by simp [cargs, hxl', hcl1]
    split
    · rename_i as_ S1 hh
      obtain ⟨g1, w1, x1, t1, l1, r1⟩ := handA_ok _ as_ ac.S S1 g (fun i => cargs.getD i Go.undef) hr.wr hargs hh
      have hS1 : S1.length = ac.S.length := handA_length _ _ _ _ hh
      have hcall := hcl f as_ S1
      split
      · rename_i r S2 hres
        dsimp only
        by_cases hrest : ((xs.map ac.ev ++ caps).any PV.hasSl && as_.all (fun v => v.cells.all PV.pure) && r.plain) = true
        · rw [if_pos hrest]
          simp only [Bool.and_eq_true] at hrest
          obtain ⟨⟨_, hpure⟩, hplain⟩ := hrest
          cases r with
          | arr sz rows frz => cases hplain
          | v x =>
            intro K Q hK
            have wE : WR ⟨fun _ _ => none, fun _ _ => none, g1.fz⟩ S1 w := ⟨w1.fz, (fun _ _ _ h => by cases h), (fun _ _ _ h => by cases h), fun x y b h => by cases x <;> simp [Gh.own] at h⟩
            have ha := hcall (by rw [hres]; exact fun h => by cases h) ⟨fun _ _ => none, fun _ _ => none, g1.fz⟩ w cargs wE ⟨l1.trans hsize, fun i v hi => cells_pure (r1 i v hi) (List.all_eq_true.1 hpure v (List.mem_of_getElem? hi)) rfl⟩
            rw [hres] at ha
            refine ha.wp hexec (fun c' w' hR => ?_) (fun ch w' hR => hR.elim) (fun w' hR => hR.elim)
            obtain ⟨g2, w2, x2, t2, ret, _⟩ := hR
            have hkeep : ∀ k, k < w.heap.size → w'.heap[k]? = w.heap[k]? := fun k hk => t2.keep k hk (fun x h => by cases x <;> simp [Gh.own] at h)
            have hwr : WR g ac.S w' := hr.wr.keep (fun b o' v h => by
              have := hr.wr.fz b o' v h
              have hlt := cell_lt this
              unfold World.cell? at this ⊢
              rw [hkeep b hlt]
              exact this) (fun x b h => hkeep b (hr.wr.own_lt h))
            refine hK c' w' g (put_step (S' := ac.S) hwr (Ext.refl g) ⟨t2.os, t2.tape, t2.output, t2.size, fun _ _ _ h => h, fun k hk _ => hkeep k hk, fun x k h => .inl h, Ext.refl _⟩ (VR.plain ret hplain) rfl)
        · rw [if_neg hrest]
          have ha := hcall (by rw [hres]; exact fun h => by cases h) g1 w cargs w1 ⟨l1.trans hsize, r1⟩
          rw [hres] at ha
          cases r with
          | v x =>
            intro K Q hK
            refine ha.wp hexec (fun c' w' hR => ?_) (fun ch w' hR => hR.elim) (fun w' hR => hR.elim)
            obtain ⟨g2, w2, x2, t2, ret, l2⟩ := hR
            exact hK c' w' g2 (put_step w2 (x1.trans x2) (t1.trans t2) ret (l2.trans hS1))
          | arr sz rows frz =>
            dsimp only
            cases hd : o.dst with
            | none =>
              intro K Q hK
              refine ha.wp hexec (fun c' w' hR => ?_) (fun ch w' hR => hR.elim) (fun w' hR => hR.elim)
              obtain ⟨g2, w2, x2, t2, ret, l2⟩ := hR
              have := put_step (d := none) (kd := kd) (ac := ac) (v := .junk) (c := c') w2 (x1.trans x2) (t1.trans t2) (.junk _) (l2.trans hS1)
              rw [hd] at hK ⊢
              exact hK c' w' g2 this
            | some d =>
              dsimp only
              cases hn : newArr kd d ⟨sz, rows, frz, 0⟩ { ac with S := S2 } with
              | bad => trivial
              | pan v S => unfold newArr at hn; split at hn <;> first | cases hn | (split at hn <;> cases hn)
              | ok ac' =>
                intro K Q hK
                refine ha.wp hexec (fun c' w' hR => ?_) (fun ch w' hR => hR.elim) (fun w' hR => hR.elim)
                obtain ⟨g2, w2, x2, t2, ⟨ai, hA, rfl, hb⟩, l2⟩ := hR
                obtain ⟨g3, hst⟩ := ret_row (acb := ac) (ac1 := { ac with S := S2 }) w2 (by show 0 < S2.length; omega) hA hb rfl (l2.trans hS1) (x1.trans x2) (t1.trans t2) hn
                rw [hd] at hK ⊢
                exact hK _ w' g3 hst
      · rename_i v S2 hres
        intro K Q hK
        have ha := hcall (by rw [hres]; exact fun h => by cases h) g1 w cargs w1 ⟨l1.trans hsize, r1⟩
        rw [hres] at ha
        refine ha.wp hexec (fun c' w' hR => hR.elim) (fun ch w' hR => ?_) (fun w' hR => hR.elim)
        obtain ⟨g2, c', rfl, w2, v2, x2, t2, l2⟩ := hR
        exact hK c' w' g2 w2 v2 (t1.trans t2) (l2.trans hS1)
      · trivial
    · trivial
  · trivial
end
end Go.Proofs.Ytebflncfgjnkkaa.M

/- THE ABSTRACT MACHINE, twenty-fifth part: a region whose operations run as they stand. -/
namespace Go.Proofs.Ytebflncfgjnkkaa.M
set_option linter.unusedSimpArgs false
set_option linter.unusedVariables false
open Go
section
variable {g g' : Gh} {S S' : Sto} {w w' : World} {P : Program}
/-- The frame, as the machine sees it: n slots, nothing deferred. -/
structure RelA (n : Nat) (g : Gh) (ac : Ac) (a : Act) (w : World) : Prop where
  rel : Rel g ac a w
  size : a.tmps.size = n
  defers : a.defers = []
  ne : 0 < ac.S.length
/-- What is left to show behind code that comes out so. -/
def EPost (n : Nat) (g : Gh) (l : Nat) (w : World) (Q : Exit → Act → World → Prop) : EO → Prop
  | .nor ac' => ∀ a' w' g', RelA n g' ac' a' w' → Tr g w g' w' → ac'.S.length = l → Q .normal a' w'
  | .ext id ac' => ∀ a' w' g', RelA n g' ac' a' w' → Tr g w g' w' → ac'.S.length = l → Q (.exit id) a' w'
  | .ret ac' => ∀ a' w' g', RelA n g' ac' a' w' → Tr g w g' w' → ac'.S.length = l → Q .ret a' w'
  | .pan v S => ∀ a' w' g' c, WR g' S w' → VR g' v c → Tr g w g' w' → S.length = l → a'.defers = [] → Q (.panic [{ v := c, recovered := false }]) a' w'
  | .bad => False
theorem EPost.from {n l : Nat} {g1 : Gh} {w1 : World} {Q : Exit → Act → World → Prop} {r : EO} (h : EPost n g l w Q r) (ht : Tr g w g1 w1) : EPost n g1 l w1 Q r := by
  cases r with
  | nor ac => exact fun a' w' g' h1 h2 h3 => h a' w' g' h1 (ht.trans h2) h3
  | ext id ac => exact fun a' w' g' h1 h2 h3 => h a' w' g' h1 (ht.trans h2) h3
  | ret ac => exact fun a' w' g' h1 h2 h3 => h a' w' g' h1 (ht.trans h2) h3
  | pan v S => exact fun a' w' g' c h1 h2 h3 h4 h5 => h a' w' g' c h1 h2 (ht.trans h3) h4 h5
  | bad => exact h
def doOp (P : Program) (ops : Array Oper) (o : Oper) (a : Act) (w : World) (K : Act → World → Prop) (Q : Exit → Act → World → Prop) : Prop :=
  if Region.wanted o (yielded ops a.tmps) = true then o.wp P a w K Q else K (a.put o.dst Go.undef) w
def DoRes (P : Program) (ops : Array Oper) (o : Oper) (kd : Bool) (g : Gh) (ac : Ac) (w : World) (a : Act) : OO → Prop
  | .ok ac' => ∀ (K : Act → World → Prop) (Q : Exit → Act → World → Prop), (∀ c w' g', Step kd o.dst g ac w ac' c w' g' → K (a.put o.dst c) w') → doOp P ops o a w K Q
  | .pan v S => ∀ (K : Act → World → Prop) (Q : Exit → Act → World → Prop), (∀ c w' g', WR g' S w' → VR g' v c → Tr g w g' w' → S.length = ac.S.length → Q (.panic [{ v := c, recovered := false }]) a w') → doOp P ops o a w K Q
  | .bad => True
theorem OpRes.wanted {ops : Array Oper} {o : Oper} {kd : Bool} {ac : Ac} {a : Act} {r : OO} (h : OpRes P o kd g ac w a r) (hw : Region.wanted o (yielded ops a.tmps) = true) : DoRes P ops o kd g ac w a r := by
  cases r with
  | ok ac' => intro K Q hK; unfold doOp; rw [if_pos hw]; exact h K Q hK
  | pan v S => intro K Q hK; unfold doOp; rw [if_pos hw]; exact h K Q hK
  | bad => trivial
theorem cOper_inv {n : Nat} {ops : Array Oper} {o : Oper} {so : SOper} (h : cOper P n ops o = some so) : cOp P o = some so.op ∧ so.dst = o.dst ∧ (∀ d, o.dst = some d → d < n) ∧
    ((o.guard = none ∧ so.guard = none) ∨ ∃ j b d, o.guard = some (j, b) ∧ (ops[j]?).bind (·.dst) = some d ∧ so.guard = some (d, b)) := by
  unfold cOper at h
  split at h
  · cases h
  · rename_i op hop
    split at h
    · rename_i hd
      have hdn : ∀ d, o.dst = some d → d < n := by
        intro d hd'
        rw [hd'] at hd
        simpa using hd
      split at h
      · rename_i hg
        cases h
        exact ⟨hop, rfl, hdn, .inl ⟨hg, rfl⟩⟩
      · rename_i j b hg
        split at h
        · rename_i d hj
          cases h
          exact ⟨hop, rfl, hdn, .inr ⟨j, b, d, hg, hj, rfl⟩⟩
        · cases h
    · cases h
theorem getD_bool {a : Act} {d : Nat} {b : Bool} (h : a.eval (.tmp d) = .bool b) : a.tmps[d]? = some (.bool b) := by
  simp only [Act.eval] at h
  rw [Array.getD_eq_getD_getElem?] at h
  cases hd : a.tmps[d]? with
  | none => rw [hd] at h; simp [Go.undef] at h
  | some v => rw [hd] at h; simp at h; rw [h]
theorem stp_ok {cl : Oracle} (hcl : OracleOk P cl) {n : Nat} {ops : Array Oper} {o : Oper} {so : SOper} (hc : cOper P n ops o = some so) {kd : Bool} {ac : Ac} {a : Act} (hr : RelA n g ac a w) (hfree : kd = false → ∀ d z, so.dst = some d → so.op = .alloc z → Bare g 0 d) :
    DoRes P ops o kd g ac w a (stp cl kd so ac) := by
  obtain ⟨h1, h2, h3, h4⟩ := cOper_inv hc
  have hop : OpRes P o kd g ac w a (ex cl kd so.dst so.op ac) := by
    rw [h2]
    exact ex_ok h1 hr.rel hr.ne (fun hk d z hd hz => hfree hk d z (by rw [h2]; exact hd) hz) (fun f xs he => call_ok hcl (by rw [h1, he]) hr.rel hr.ne)
  have hskip : Region.wanted o (yielded ops a.tmps) = false → DoRes P ops o kd g ac w a (.ok (ac.put so.dst .undef)) := by
    intro hw K Q hK
    unfold doOp
    rw [if_neg (by rw [hw]; simp)]
    rw [h2] at hK
    exact hK _ w g (put_step (S' := ac.S) (v := .undef) hr.rel.wr (Ext.refl g) (Tr.refl g w) .undef rfl)
  unfold stp
  rcases h4 with ⟨hg, hsg⟩ | ⟨j, b, d, hg, hj, hsg⟩
  · rw [hsg]
    exact hop.wanted (by simp [Region.wanted, hg])
  · rw [hsg]
    dsimp only
    have henv := hr.rel.env d
    split
    · rename_i b' hb'
      rw [hb'] at henv
      have ht := getD_bool henv.bool_inv
      have hy : yielded ops a.tmps j = some b' := by simp [yielded, hj, ht]
      split
      · rename_i e
        subst e
        exact hop.wanted (by simp [Region.wanted, hg, hy])
      · rename_i e
        exact hskip (by simp [Region.wanted, hg, hy, e])
    · rename_i hu
      rw [hu] at henv
      have hev := henv.undef_inv
      refine hskip ?_
      have hy : yielded ops a.tmps j = none := by
        simp only [yielded, hj, Option.bind_some]
        simp only [Act.eval] at hev
        rw [Array.getD_eq_getD_getElem?] at hev
        cases hd : a.tmps[d]? with
        | none => rfl
        | some v => rw [hd] at hev; simp at hev; subst hev; rfl
      simp [Region.wanted, hg, hy]
    · trivial
theorem Act.put_size (a : Act) (d : Option Nat) (c : Value) : (a.put d c).tmps.size = a.tmps.size := by cases d <;> simp [Act.put]
theorem Act.put_defers_ (a : Act) (d : Option Nat) (c : Value) : (a.put d c).defers = a.defers := by cases d <;> rfl
theorem eval_put_same {a : Act} {d : Nat} {c : Value} (h : d < a.tmps.size) : (a.put (some d) c).eval (.tmp d) = c := by
  simp only [Act.put, Act.eval]
  rw [Array.getD_eq_getD_getElem?]
  simp [h]
theorem eval_put_ne {a : Act} {d : Option Nat} {t : Nat} {c : Value} (h : d ≠ some t) : (a.put d c).eval (.tmp t) = a.eval (.tmp t) := by
  cases d with
  | none => rfl
  | some d =>
    have : d ≠ t := fun e => h (by rw [e])
    simp only [Act.put, Act.eval]
    rw [Array.getD_eq_getD_getElem?, Array.getD_eq_getD_getElem?]
    simp [this]
theorem Step.relA {kd : Bool} {d : Option Nat} {n : Nat} {ac ac' : Ac} {a : Act} {c : Value} (h : Step kd d g ac w ac' c w' g') (hr : RelA n g ac a w) (hd : ∀ t, d = some t → t < n) : RelA n g' ac' (a.put d c) w' := by
  refine ⟨⟨h.wr, fun t => ?_⟩, by rw [Act.put_size]; exact hr.size, by rw [Act.put_defers_]; exact hr.defers, by rw [h.len]; exact hr.ne⟩
  by_cases e : d = some t
  · subst e
    rw [eval_put_same (by rw [hr.size]; exact hd t rfl)]
    exact h.dst t rfl
  · rw [eval_put_ne e]
    exact h.env t e _ (hr.rel.env t)
theorem evOps_ok {cl : Oracle} (hcl : OracleOk P cl) {n : Nat} {ops : Array Oper} {Q : Exit → Act → World → Prop} : ∀ (ol : List Oper) (l : List SOper), cOpers P n ops ol = some l → ∀ {g : Gh} {ac : Ac} {a : Act} {w : World}, RelA n g ac a w → EPost n g ac.S.length w Q (evOps cl l ac) → wpList P ops Q ol a w
  | [], l, hc, g, ac, a, w, hr, hp => by
    simp only [cOpers, Option.some.injEq] at hc
    subst hc
    exact hp a w g hr (Tr.refl g w) rfl
  | o :: ol, l, hc, g, ac, a, w, hr, hp => by
    simp only [cOpers] at hc
    split at hc
    · rename_i so sl ho hl
      obtain rfl := Option.some.inj hc
      have hs := stp_ok hcl ho (kd := true) hr (fun h => by cases h)
      obtain ⟨_, _, hdn, _⟩ := cOper_inv ho
      refine wpList_step fun K hK => ?_
      simp only [evOps] at hp
      cases hst : stp cl true so ac with
      | ok ac' =>
        rw [hst] at hs hp
        have := hs K Q (fun c w' g' hstep => hK _ _ (evOps_ok hcl ol sl hl (hstep.relA hr hdn) (by rw [hstep.len]; exact hp.from hstep.tr)))
        unfold doOp at this
        exact this
      | pan v S =>
        rw [hst] at hs hp
        have := hs K Q (fun c w' g' h1 h2 h3 h4 => hp a w' g' c h1 h2 h3 h4 hr.defers)
        unfold doOp at this
        exact this
      | bad => rw [hst] at hp; exact hp.elim
    · cases hc
end
end Go.Proofs.Ytebflncfgjnkkaa.M

/- THE ABSTRACT MACHINE, twenty-sixth part: an operation looks at its slots alone. -/
namespace Go.Proofs.Ytebflncfgjnkkaa.M
set_option linter.unusedSimpArgs false
set_option linter.unusedVariables false
open Go
section
variable {ev ev' : X → PV} {S S' : Sto} {e e' : Nat → PV} {cl : Oracle}
def Agree (e e' : Nat → PV) (l : List Nat) : Prop := ∀ t ∈ l, e t = e' t
theorem agree_app {a b : List Nat} (h : Agree e e' (a ++ b)) : Agree e e' a ∧ Agree e e' b := ⟨fun t ht => h t (List.mem_append.2 (.inl ht)), fun t ht => h t (List.mem_append.2 (.inr ht))⟩
theorem ev_agree {x : X} (h : Agree e e' x.tm) : Ac.ev ⟨e, S⟩ x = Ac.ev ⟨e', S'⟩ x := by
  cases x with
  | t n => exact h n (by simp [X.tm])
  | c v => rfl
theorem evO_agree {x : Option X} (h : Agree e e' (tmO x)) : x.map (Ac.ev ⟨e, S⟩) = x.map (Ac.ev ⟨e', S'⟩) := by
  cases x with
  | none => rfl
  | some x => simp only [Option.map_some, Option.some.injEq]; exact ev_agree h
theorem evL_agree : ∀ {xs : List X}, Agree e e' (xs.flatMap X.tm) → xs.map (Ac.ev ⟨e, S⟩) = xs.map (Ac.ev ⟨e', S'⟩)
  | [], _ => rfl
  | x :: xs, h => by
    rw [List.flatMap_cons] at h
    obtain ⟨h1, h2⟩ := agree_app h
    simp only [List.map_cons]
    rw [ev_agree h1, evL_agree h2]
theorem fillP_agree : ∀ (parts : List (Nat × Nat × X)) (cs : List PV), Agree e e' (parts.flatMap fun p => p.2.2.tm) → fillP cs (Ac.ev ⟨e, S⟩) parts = fillP cs (Ac.ev ⟨e', S'⟩) parts
  | [], cs, _ => rfl
  | (off, sz, x) :: r, cs, h => by
    rw [List.flatMap_cons] at h
    obtain ⟨h1, h2⟩ := agree_app h
    simp only [fillP]
    rw [ev_agree (S' := S') h1, fillP_agree r _ h2]
theorem rowsP_agree {sz : Nat} {S0 : Sto} : ∀ (parts : List (Nat × X)) (rows : List (List PV)) (S0 : Sto), Agree e e' (parts.flatMap fun p => p.2.tm) → rowsP S0 (Ac.ev ⟨e, S⟩) sz rows parts = rowsP S0 (Ac.ev ⟨e', S'⟩) sz rows parts
  | [], rows, S0, _ => rfl
  | (i, x) :: r, rows, S0, h => by
    rw [List.flatMap_cons] at h
    obtain ⟨h1, h2⟩ := agree_app h
    simp only [rowsP]
    have e1 : Ac.ev ⟨e, S⟩ x = Ac.ev ⟨e', S'⟩ x := ev_agree h1
    rw [e1]
    split
    · rw [rowsP_agree (sz := sz) (S0 := S0) r _ _ h2]
    · rfl
theorem all_one_agree {caps : List X} (h : Agree e e' (caps.flatMap X.tm)) : (caps.all fun x => (Ac.ev ⟨e, S⟩ x).one) = caps.all fun x => (Ac.ev ⟨e', S'⟩ x).one := by
  induction caps with
  | nil => rfl
  | cons x xs ih =>
    rw [List.flatMap_cons] at h
    obtain ⟨h1, h2⟩ := agree_app h
    simp only [List.all_cons]
    rw [ev_agree (S' := S') h1, ih h2]
theorem vop_agree (o : VO) (h : Agree e e' o.tm) (S0 : Sto) : vop (Ac.ev ⟨e, S⟩) S0 o = vop (Ac.ev ⟨e', S'⟩) S0 o := by
  cases o with
  | mov x => simp only [vop, ev_agree (S := S) (S' := S') (x := x) h]
  | un _ x => simp only [vop, ev_agree (S := S) (S' := S') (x := x) h]
  | conv _ x => simp only [vop, ev_agree (S := S) (S' := S') (x := x) h]
  | mkif _ x => simp only [vop, ev_agree (S := S) (S' := S') (x := x) h]
  | load _ x => simp only [vop, ev_agree (S := S) (S' := S') (x := x) h]
  | nchk x => simp only [vop, ev_agree (S := S) (S' := S') (x := x) h]
  | faddr _ x => simp only [vop, ev_agree (S := S) (S' := S') (x := x) h]
  | field _ _ x => simp only [vop, ev_agree (S := S) (S' := S') (x := x) h]
  | extract _ x => simp only [vop, ev_agree (S := S) (S' := S') (x := x) h]
  | len _ x => simp only [vop, ev_agree (S := S) (S' := S') (x := x) h]
  | isnil _ x => simp only [vop, ev_agree (S := S) (S' := S') (x := x) h]
  | pick c a b =>
    obtain ⟨h1, h2⟩ := agree_app h
    obtain ⟨h2, h3⟩ := agree_app h2
    simp only [vop, ev_agree (S := S) (S' := S') h1, ev_agree (S := S) (S' := S') h2, ev_agree (S := S) (S' := S') h3]
  | bin _ x y => obtain ⟨h1, h2⟩ := agree_app h; simp only [vop, ev_agree (S := S) (S' := S') h1, ev_agree (S := S) (S' := S') h2]
  | binb _ x y => obtain ⟨h1, h2⟩ := agree_app h; simp only [vop, ev_agree (S := S) (S' := S') h1, ev_agree (S := S) (S' := S') h2]
  | eqs _ _ x y => obtain ⟨h1, h2⟩ := agree_app h; simp only [vop, ev_agree (S := S) (S' := S') h1, ev_agree (S := S) (S' := S') h2]
  | iaddr _ x y => obtain ⟨h1, h2⟩ := agree_app h; simp only [vop, ev_agree (S := S) (S' := S') h1, ev_agree (S := S) (S' := S') h2]
  | istr x y => obtain ⟨h1, h2⟩ := agree_app h; simp only [vop, ev_agree (S := S) (S' := S') h1, ev_agree (S := S) (S' := S') h2]
  | mm _ x y => obtain ⟨h1, h2⟩ := agree_app h; simp only [vop, ev_agree (S := S) (S' := S') h1, ev_agree (S := S) (S' := S') h2]
  | func f caps => simp only [vop, all_one_agree (S := S) (S' := S') h, evL_agree (S := S) (S' := S') h]
  | build z parts => simp only [vop, fillP_agree (S := S) (S' := S') parts z h]
  | slc _ x lo hi mx =>
    obtain ⟨h1, h2⟩ := agree_app h
    obtain ⟨h2, h3⟩ := agree_app h2
    obtain ⟨h3, h4⟩ := agree_app h3
    simp only [vop, ev_agree (S := S) (S' := S') h1, evO_agree (S := S) (S' := S') h2, evO_agree (S := S) (S' := S') h3, evO_agree (S := S) (S' := S') h4]
  | sls x lo hi =>
    obtain ⟨h1, h2⟩ := agree_app h
    obtain ⟨h2, h3⟩ := agree_app h2
    simp only [vop, ev_agree (S := S) (S' := S') h1, evO_agree (S := S) (S' := S') h2, evO_agree (S := S) (S' := S') h3]
/-- What comes out is put over whatever else the frame holds. -/
def Uni (d : Option Nat) (F : (Nat → PV) → OO) : Prop := ∀ e ac, F e = .ok ac → ∃ v, ∀ e2, F e2 = .ok (({ e := e2, S := ac.S } : Ac).put d v)
theorem uni_ok (d : Option Nat) (v : PV) (S : Sto) : Uni d fun e => .ok (({ e := e, S := S } : Ac).put d v) := fun e ac h => by
  cases h
  refine ⟨v, fun e2 => ?_⟩
  cases d <;> rfl
theorem uni_bad (d : Option Nat) : Uni d fun _ => .bad := fun e ac h => by cases h
theorem uni_newArr (d : Nat) (A : Arr) (S : Sto) : Uni (some d) fun e => newArr false d A ⟨e, S⟩ := by
  unfold newArr
  simp only [Bool.false_eq_true, if_false]
  cases getArr S 0 (.slot d) with
  | none => exact uni_ok (some d) _ _
  | some _ => exact uni_bad _
open Classical in
theorem uni_append (d sz bytes : Nat) (x y : PV) (S : Sto) : Uni (some d) fun e => appendP false d sz bytes x y ⟨e, S⟩ := by
  unfold appendP
  dsimp only
  cases srcRows S sz y with
  | none => exact uni_bad _
  | some src =>
    dsimp only
    cases x <;> try exact uni_bad _
    case nils z =>
      dsimp only
      split
      · exact uni_newArr _ _ _
      · exact uni_bad _
    case list z rows full =>
      cases full
      · exact uni_bad _
      · show Uni (some d) fun e => if z = sz ∧ bigRow (rows.length + src.length) bytes then newArr false d ⟨sz, rows ++ src, true, 0⟩ ⟨e, S⟩ else .bad
        split
        · exact uni_newArr _ _ _
        · exact uni_bad _
    case sl n a off len ver gen full =>
      dsimp only
      cases getArr S n a with
      | none => exact uni_bad _
      | some A =>
        dsimp only
        split
        · split
          · exact uni_newArr _ _ _
          · split
            · exact uni_ok (some d) _ _
            · exact uni_bad _
        · exact uni_bad _
theorem uni_call (d : Option Nat) (f : PV) (args : List PV) (S : Sto) : Uni d fun e => callP cl false d f args ⟨e, S⟩ := by
  unfold callP
  cases f <;> try exact uni_bad _
  rename_i f caps
  dsimp only
  cases handA S (args ++ caps) with
  | none => exact uni_bad _
  | some p =>
    obtain ⟨as_, S1⟩ := p
    dsimp only
    cases cl f as_ S1 with
    | bad => exact uni_bad _
    | pan v S => exact fun e ac h => by cases h
    | ok r S2 =>
      dsimp only
      cases r with
      | v x => exact uni_ok d _ _
      | arr sz rows frz =>
        cases d with
        | none => exact uni_ok none .junk _
        | some d => exact uni_newArr _ _ _
open Classical in
theorem ex_agree {d : Option Nat} {op : SOp} {ac : Ac} (hx : Agree e e' op.tm) (h : ex cl false d op ⟨e, S⟩ = .ok ac) : ∃ v, ac = (({ e := e, S := ac.S } : Ac).put d v) ∧ ex cl false d op ⟨e', S⟩ = .ok (({ e := e', S := ac.S } : Ac).put d v) := by
  have use : ∀ F : (Nat → PV) → OO, Uni d F → F e = .ok ac → ex cl false d op ⟨e', S⟩ = F e' → ∃ v, ac = (({ e := e, S := ac.S } : Ac).put d v) ∧ ex cl false d op ⟨e', S⟩ = .ok (({ e := e', S := ac.S } : Ac).put d v) := by
    intro F hF h1 h2
    obtain ⟨v, hv⟩ := hF e ac h1
    have := hv e
    rw [h1] at this
    exact ⟨v, OO.ok.inj this, h2.trans (hv e')⟩
  cases op with
  | v o =>
    refine use (fun e2 => match vop (Ac.ev ⟨e, S⟩) S o with | some v => .ok (({ e := e2, S := S } : Ac).put d v) | none => .bad) ?_ h ?_
    · cases vop (Ac.ev ⟨e, S⟩) S o with
      | none => exact uni_bad _
      | some v => exact uni_ok d v S
    · show (match vop (Ac.ev ⟨e', S⟩) S o with | some v => OO.ok (({ e := e', S := S } : Ac).put d v) | none => .bad) = _
      rw [vop_agree (S := S) (S' := S) o hx S]
  | nilv sz =>
    cases d with
    | none => cases h
    | some d => exact use _ (uni_newArr d ⟨sz, [], false, 0⟩ S) h rfl
  | alloc zero =>
    cases d with
    | none => cases h
    | some d =>
      refine use (fun e2 => if getBox S 0 d = some (initC d 0 zero) ∧ okA d 0 zero (getArr S 0) then .ok (({ e := e2, S := S } : Ac).put (some d) (.ptr 0 d 0)) else .bad) ?_ ?_ ?_
      · split
        · exact uni_ok _ _ _
        · exact uni_bad _
      · simpa [ex] using h
      · simp [ex]
  | box x =>
    cases d with
    | none => cases h
    | some d => simp [ex] at h
  | bslice sz n zero parts =>
    refine use (fun e2 => if n = 0 then .ok (({ e := e2, S := S } : Ac).put d (.nils sz)) else match rowsP S (Ac.ev ⟨e, S⟩) sz (List.replicate n zero) parts with | some (rows, S) => .ok (({ e := e2, S := S } : Ac).put d (.list sz rows true)) | none => .bad) ?_ h ?_
    · split
      · exact uni_ok _ _ _
      · split
        · exact uni_ok _ _ _
        · exact uni_bad _
    · show (if n = 0 then _ else match rowsP S (Ac.ev ⟨e', S⟩) sz (List.replicate n zero) parts with | some (rows, S) => OO.ok (({ e := e', S := S } : Ac).put d (.list sz rows true)) | none => .bad) = _
      rw [rowsP_agree (S := S) (S' := S) (S0 := S) parts _ S hx]
  | store k x v =>
    obtain ⟨h1, h2⟩ := agree_app hx
    cases d with
    | some d => simp [ex] at h
    | none =>
      refine use (fun e2 => match storeP S k (Ac.ev ⟨e, S⟩ x) (Ac.ev ⟨e, S⟩ v) with | some S => .ok (({ e := e2, S := S } : Ac).put none .junk) | none => .bad) ?_ ?_ ?_
      · split
        · exact uni_ok none _ _
        · exact uni_bad _
      · simp only [ex] at h
        cases hs : storeP S k (Ac.ev ⟨e, S⟩ x) (Ac.ev ⟨e, S⟩ v) with
        | none => rw [hs] at h; cases h
        | some S2 => rw [hs] at h; exact h
      · simp only [ex]
        rw [ev_agree (S := S) (S' := S) h1, ev_agree (S := S) (S' := S) h2]
        cases storeP S k (Ac.ev ⟨e', S⟩ x) (Ac.ev ⟨e', S⟩ v) <;> rfl
  | append sz bytes x y =>
    obtain ⟨h1, h2⟩ := agree_app hx
    cases d with
    | none => cases h
    | some d =>
      refine use _ (uni_append d sz bytes (Ac.ev ⟨e, S⟩ x) (Ac.ev ⟨e, S⟩ y) S) h ?_
      simp only [ex]
      rw [ev_agree (S := S) (S' := S) h1, ev_agree (S := S) (S' := S) h2]
  | call f args =>
    obtain ⟨h1, h2⟩ := agree_app hx
    refine use _ (uni_call (cl := cl) d (Ac.ev ⟨e, S⟩ f) (args.map (Ac.ev ⟨e, S⟩)) S) h ?_
    simp only [ex]
    rw [ev_agree (S := S) (S' := S) h1, evL_agree (S := S) (S' := S) h2]
  | panic x =>
    simp only [ex] at h
    split at h <;> cases h
/-- An inert operation neither reads nor writes the store. -/
theorem ex_inert {kd : Bool} {d : Option Nat} {op : SOp} (hi : op.inert = true) {ac : Ac} (h : ex cl kd d op ⟨e, S⟩ = .ok ac) : ac.S = S ∧ ∀ S2, ex cl kd d op ⟨e, S2⟩ = .ok ⟨ac.e, S2⟩ := by
  cases op with
  | v o =>
    have hv : ∀ S2, vop (Ac.ev ⟨e, S2⟩) S2 o = vop (Ac.ev ⟨e, S⟩) S o := by
      intro S2
      cases o <;> first | rfl | (simp [SOp.inert] at hi; done) | skip
      case conv c x =>
        cases c <;> first | (simp [SOp.inert] at hi; done) | skip
        all_goals
          show convP S2 _ (Ac.ev ⟨e, S⟩ x) = convP S _ (Ac.ev ⟨e, S⟩ x)
          cases Ac.ev ⟨e, S⟩ x <;> rfl
    simp only [ex] at h ⊢
    cases hvv : vop (Ac.ev ⟨e, S⟩) S o with
    | none => rw [hvv] at h; cases h
    | some v =>
      rw [hvv] at h
      cases h
      refine ⟨by cases d <;> rfl, fun S2 => ?_⟩
      rw [hv S2, hvv]
      cases d <;> rfl
  | _ => simp [SOp.inert] at hi
theorem stp_agree {o : SOper} {ac : Ac} (hx : Agree e e' o.looks) (h : stp cl false o ⟨e, S⟩ = .ok ac) : ∃ v, ac = (({ e := e, S := ac.S } : Ac).put o.dst v) ∧ stp cl false o ⟨e', S⟩ = .ok (({ e := e', S := ac.S } : Ac).put o.dst v) := by
  have skip : ∀ ac : Ac, OO.ok (({ e := e, S := S } : Ac).put o.dst .undef) = .ok ac → ∃ v, ac = (({ e := e, S := ac.S } : Ac).put o.dst v) ∧ OO.ok (({ e := e', S := S } : Ac).put o.dst .undef) = .ok (({ e := e', S := ac.S } : Ac).put o.dst v) := by
    intro ac h
    cases h
    refine ⟨.undef, ?_, ?_⟩ <;> cases o.dst <;> rfl
  unfold stp at h ⊢
  unfold SOper.looks at hx
  cases hg : o.guard with
  | none =>
    rw [hg] at h hx
    exact ex_agree hx h
  | some p =>
    obtain ⟨g, want⟩ := p
    rw [hg] at h hx
    dsimp only at h hx ⊢
    have h1 : e g = e' g := hx g (by simp)
    have h2 : Agree e e' o.op.tm := fun t ht => hx t (by simp [ht])
    rw [← h1]
    cases hv : e g with
    | bool b =>
      rw [hv] at h
      dsimp only at h ⊢
      split at h
      · rename_i hb; rw [if_pos hb]; exact ex_agree h2 h
      · rename_i hb; rw [if_neg hb]; exact skip ac h
    | undef => rw [hv] at h; exact skip ac h
    | _ => rw [hv] at h; cases h
theorem stp_inert {kd : Bool} {o : SOper} (hi : o.op.inert = true) {ac : Ac} (h : stp cl kd o ⟨e, S⟩ = .ok ac) : ac.S = S ∧ ∀ S2, stp cl kd o ⟨e, S2⟩ = .ok ⟨ac.e, S2⟩ := by
  have skip : ∀ ac : Ac, OO.ok (({ e := e, S := S } : Ac).put o.dst .undef) = .ok ac → ac.S = S ∧ ∀ S2, OO.ok (({ e := e, S := S2 } : Ac).put o.dst .undef) = .ok ⟨ac.e, S2⟩ := by
    intro ac h
    cases h
    refine ⟨by cases o.dst <;> rfl, fun S2 => by cases o.dst <;> rfl⟩
  unfold stp at h ⊢
  cases hg : o.guard with
  | none => rw [hg] at h; exact ex_inert hi h
  | some p =>
    obtain ⟨g, want⟩ := p
    rw [hg] at h
    dsimp only at h ⊢
    cases hv : e g with
    | bool b =>
      rw [hv] at h
      dsimp only at h ⊢
      split at h
      · rename_i hb; simp only [if_pos hb]; exact ex_inert hi h
      · rename_i hb; simp only [if_neg hb]; exact skip ac h
    | undef => rw [hv] at h; exact skip ac h
    | _ => rw [hv] at h; cases h
end
end Go.Proofs.Ytebflncfgjnkkaa.M

/- THE ABSTRACT MACHINE, twenty-seventh part: a region of open order: whatever order is drawn, what comes out is what is reckoned. -/
namespace Go.Proofs.Ytebflncfgjnkkaa.M
set_option linter.unusedSimpArgs false
set_option linter.unusedVariables false
open Go
section
variable {g g' : Gh} {S S' : Sto} {w w' : World} {P : Program}
/-! ### Who must be before whom -/
def Good (ops : List Oper) (A : Array Nat) : Prop := ∀ i j, (A.getD i 0).testBit j = true → ∃ o, ops[i]? = some o ∧ ∃ e ∈ o.after.toList, Region.binds .any e = true ∧ (e.on = j ∨ (A.getD e.on 0).testBit j = true)
theorem bits_spec (A : Array Nat) (j : Nat) : ∀ (es : List Edge) (s : Nat), (es.foldl (fun s e => if Region.binds .any e = true then s ||| 2 ^ e.on ||| A.getD e.on 0 else s) s).testBit j = true → s.testBit j = true ∨ ∃ e ∈ es, Region.binds .any e = true ∧ (e.on = j ∨ (A.getD e.on 0).testBit j = true)
  | [], s, h => .inl h
  | e :: es, s, h => by
    simp only [List.foldl_cons] at h
    rcases bits_spec A j es _ h with h1 | ⟨e', he, h1⟩
    · split at h1
      · rename_i hb
        rw [Nat.testBit_or, Nat.testBit_or, Nat.testBit_two_pow] at h1
        simp only [Bool.or_eq_true, decide_eq_true_eq] at h1
        rcases h1 with (h1 | h1) | h1
        · exact .inl h1
        · exact .inr ⟨e, by simp, hb, .inl h1⟩
        · exact .inr ⟨e, by simp, hb, .inr h1⟩
      · exact .inl h1
    · exact .inr ⟨e', by simp [he], h1⟩
theorem getD_push (A : Array Nat) (x : Nat) (i : Nat) : (A.push x).getD i 0 = if i = A.size then x else A.getD i 0 := by
  rw [Array.getD_eq_getD_getElem?, Array.getElem?_push]
  split
  · simp
  · rw [Array.getD_eq_getD_getElem?]
theorem good_fold (ops : List Oper) : ∀ (l pre : List Oper) (A : Array Nat), ops = pre ++ l → A.size = pre.length → Good ops A →
    Good ops (l.foldl (fun acc o => acc.push (o.after.toList.foldl (fun s e => if Region.binds .any e = true then s ||| 2 ^ e.on ||| acc.getD e.on 0 else s) 0)) A)
  | [], pre, A, _, _, h => h
  | o :: l, pre, A, h1, h2, h => by
    simp only [List.foldl_cons]
    refine good_fold ops l (pre ++ [o]) _ (by simp [h1]) (by simp [h2]) ?_
    intro i j hb
    have hlt : ∀ k, (A.getD k 0).testBit j = true → k < A.size := by
      intro k hk
      rcases Nat.lt_or_ge k A.size with h | h
      · exact h
      · rw [Array.getD_eq_getD_getElem?, Array.getElem?_eq_none h] at hk
        simp at hk
    have lift : ∀ k, (A.getD k 0).testBit j = true → ((A.push (o.after.toList.foldl (fun s e => if Region.binds .any e = true then s ||| 2 ^ e.on ||| A.getD e.on 0 else s) 0)).getD k 0).testBit j = true := by
      intro k hk
      rw [getD_push, if_neg (Nat.ne_of_lt (hlt k hk))]
      exact hk
    rw [getD_push] at hb
    split at hb
    · rename_i e
      rcases bits_spec A j _ _ hb with h0 | ⟨e', he, hbd, h3⟩
      · simp at h0
      · refine ⟨o, by rw [h1, e, h2]; simp, e', he, hbd, h3.imp id (lift _)⟩
    · obtain ⟨o', q1, e', q2, q3, q4⟩ := h i j hb
      exact ⟨o', q1, e', q2, q3, q4.imp id (lift _)⟩
theorem before_good (ops : Array Oper) : Good ops.toList (CheckFast.beforeF ops) := by
  rw [CheckFast.beforeF_eq]
  unfold Region.before
  rw [← Array.foldl_toList]
  have := good_fold ops.toList ops.toList [] #[] rfl rfl (fun i j h => by simp at h)
  have e : (fun (acc : Array Nat) (o : Oper) => acc.push (o.after.foldl (fun s e => if Region.binds .any e = true then s ||| 2 ^ e.on ||| acc.getD e.on 0 else s) 0)) = fun acc o => acc.push (o.after.toList.foldl (fun s e => if Region.binds .any e = true then s ||| 2 ^ e.on ||| acc.getD e.on 0 else s) 0) := by
    funext acc o
    rw [Array.foldl_toList]
  rw [e]
  exact this
theorem all_idx {α : Type} {l : List α} {f : α × Nat → Bool} (h : (l.zipIdx).all f = true) {i : Nat} {o : α} (hi : l[i]? = some o) : f (o, i) = true := by
  rw [List.all_eq_true] at h
  exact h (o, i) (List.mk_mem_zipIdx_iff_getElem?.2 hi)
theorem cOpers_get {n : Nat} {ops : Array Oper} : ∀ (ol : List Oper) (l : List SOper), cOpers P n ops ol = some l → l.length = ol.length ∧ ∀ (i : Nat) (o : Oper), ol[i]? = some o → ∃ so, l[i]? = some so ∧ cOper P n ops o = some so
  | [], l, h => by
    simp only [cOpers, Option.some.injEq] at h
    subst h
    exact ⟨rfl, fun i o h => by simp at h⟩
  | o :: ol, l, h => by
    simp only [cOpers] at h
    split at h
    · rename_i so sl ho hl
      obtain rfl := Option.some.inj h
      obtain ⟨h1, h2⟩ := cOpers_get ol sl hl
      refine ⟨by simp [h1], fun i o' hi => ?_⟩
      cases i with
      | zero => simp at hi; subst hi; exact ⟨so, rfl, ho⟩
      | succ i => simpa using h2 i o' (by simpa using hi)
    · cases h
theorem evD_seq {cl : Oracle} : ∀ (l : List SOper) (tot : List Bool) (ac acN : Ac), evD cl l tot ac = .nor acN → ∃ s : Nat → Ac, s 0 = ac ∧ s l.length = acN ∧ ∀ i o, l[i]? = some o → stp cl false o (s i) = .ok (s (i + 1)) ∧ (tot.getD i false = true ∨ (s (i + 1)).S = (s i).S)
  | [], tot, ac, acN, h => by
    simp only [evD, EO.nor.injEq] at h
    exact ⟨fun _ => ac, rfl, h, fun i o h => by simp at h⟩
  | o :: l, tot, ac, acN, h => by
    simp only [evD] at h
    split at h
    · rename_i ac' hs
      split at h
      · rename_i ht
        obtain ⟨s, h1, h2, h3⟩ := evD_seq l tot.tail ac' acN h
        refine ⟨fun i => match i with | 0 => ac | i + 1 => s i, rfl, h2, fun i o' hi => ?_⟩
        cases i with
        | zero =>
          simp at hi
          subst hi
          dsimp only
          simp only [Nat.zero_add, h1]
          refine ⟨hs, ?_⟩
          cases tot with
          | nil => simpa using ht
          | cons t tot => simpa using ht
        | succ i =>
          have := h3 i o' (by simpa using hi)
          refine ⟨this.1, ?_⟩
          cases tot with
          | nil => simpa using this.2
          | cons t tot => simpa using this.2
      · cases h
    · cases h
/-- What is laid ready. -/
theorem prep_ok {n : Nat} {a : Act} : ∀ (l : List SOper) (ac : Ac) (g : Gh), RelA n g ac a w → ∃ g', RelA n g' (prep l ac) a w ∧ Tr g w g' w ∧ (prep l ac).S.length = ac.S.length ∧ (∀ t, Bare g 0 t → Bare g' 0 t) ∧ ∀ o ∈ l, ∀ d z, o.dst = some d → o.op = .alloc z → Bare g' 0 d
  | [], ac, g, hr => ⟨g, hr, Tr.refl g w, rfl, fun _ h => h, fun o ho => by cases ho⟩
  | o :: l, ac, g, hr => by
    have keep : ∀ t d, Bare g 0 t → Bare (g.kill d) 0 t := by
      intro t d hb
      refine ⟨?_, fun i => ?_⟩
      · simp only [Gh.kill]; split
        · rfl
        · exact hb.1
      · simp only [Gh.kill]; split
        · rfl
        · exact hb.2 i
    have kills : ∀ d, RelA n (g.kill d) (ac.kill d) a w := fun d => ⟨hr.rel.kill d, hr.size, hr.defers, by show 0 < (killS d ac.S).length; rw [killS_length]; exact hr.ne⟩
    have bared : ∀ d, Bare (g.kill d) 0 d := fun d => ⟨killed_b g d, fun i => killed_a g rfl⟩
    have done : ∀ ac1 g1, RelA n g1 ac1 a w → Tr g w g1 w → ac1.S.length = ac.S.length → (∀ t, Bare g 0 t → Bare g1 0 t) → (∀ d z, o.dst = some d → o.op = .alloc z → Bare g1 0 d) → prep (o :: l) ac = prep l ac1 →
        ∃ g', RelA n g' (prep (o :: l) ac) a w ∧ Tr g w g' w ∧ (prep (o :: l) ac).S.length = ac.S.length ∧ (∀ t, Bare g 0 t → Bare g' 0 t) ∧ ∀ o' ∈ o :: l, ∀ d z, o'.dst = some d → o'.op = .alloc z → Bare g' 0 d := by
      intro ac1 g1 h1 h2 h3 h4 h5 h6
      obtain ⟨g', q1, q2, q3, q4, q5⟩ := prep_ok l ac1 g1 h1
      rw [h6]
      refine ⟨g', q1, h2.trans q2, q3.trans h3, fun t ht => q4 t (h4 t ht), fun o' ho d z hd hz => ?_⟩
      rcases List.mem_cons.1 ho with rfl | ho
      · exact q4 d (h5 d z hd hz)
      · exact q5 o' ho d z hd hz
    obtain ⟨dst, guard, op⟩ := o
    cases dst with
    | none => exact done ac g hr (Tr.refl g w) rfl (fun _ h => h) (fun d z hd => by cases hd) (by cases op <;> rfl)
    | some d =>
      have plainKill : prep (⟨some d, guard, op⟩ :: l) ac = prep l (ac.kill d) → (∀ z, op ≠ .alloc z) → _ := fun h hz => done (ac.kill d) (g.kill d) (kills d) (Tr.kill g w d) (killS_length d ac.S) (fun t => keep t d) (fun d' z hd hz' => absurd hz' (hz z)) h
      cases op with
      | alloc z =>
        refine done ⟨killE d ac.e, newBox d z (killS d ac.S)⟩ (g.kill d) ⟨⟨(kills d).rel.wr.congr (fun m t b hb => ?_) (fun m k ai ha => ?_), (kills d).rel.env⟩, hr.size, hr.defers, by rw [newBox_length, killS_length]; exact hr.ne⟩ (Tr.kill g w d) (by rw [newBox_length, killS_length]) (fun t => keep t d) (fun d' z' hd _ => by cases hd; exact bared d) rfl
        · rw [getBox_new, if_neg]
          · rfl
          · rintro ⟨rfl, rfl, _⟩
            rw [killed_b] at hb
            cases hb
        · show getArr (newBox d z (killS d ac.S)) m k = getArr (killS d ac.S) m k
          apply getArr_new_other
          rintro rfl j rfl
          have := killed_a g (d := d) (k := .cell d j) rfl
          rw [this] at ha
          cases ha
      | call f xs => exact plainKill rfl (fun z h => by cases h)
      | append s b x y => exact plainKill rfl (fun z h => by cases h)
      | nilv s => exact plainKill rfl (fun z h => by cases h)
      | v o => exact done ac g hr (Tr.refl g w) rfl (fun _ h => h) (fun d z _ hz => by cases hz) rfl
      | box x => exact done ac g hr (Tr.refl g w) rfl (fun _ h => h) (fun d z _ hz => by cases hz) rfl
      | bslice s n z p => exact done ac g hr (Tr.refl g w) rfl (fun _ h => h) (fun d z _ hz => by cases hz) rfl
      | store k x v => exact done ac g hr (Tr.refl g w) rfl (fun _ h => h) (fun d z _ hz => by cases hz) rfl
      | panic x => exact done ac g hr (Tr.refl g w) rfl (fun _ h => h) (fun d z _ hz => by cases hz) rfl
end
end Go.Proofs.Ytebflncfgjnkkaa.M

/- THE ABSTRACT MACHINE, twenty-eighth part: a region of open order, joined. -/
namespace Go.Proofs.Ytebflncfgjnkkaa.M
set_option linter.unusedSimpArgs false
set_option linter.unusedVariables false
open Go Classical
section
variable {P : Program}
/-- A reckoned run of a region: its operations, one behind the other; what each may be exchanged with. -/
structure SeqD (cl : Oracle) (l : List SOper) (b : Array Nat) (s : Nat → Ac) : Prop where
  step : ∀ i o, l[i]? = some o → stp cl false o (s i) = .ok (s (i + 1)) ∧ (totB b l i = true ∨ (s (i + 1)).S = (s i).S)
  one : ∀ (i j : Nat) (oi oj : SOper) (d : Nat), l[i]? = some oi → l[j]? = some oj → i ≠ j → oi.dst = some d → oj.dst ≠ some d
  look : ∀ (i j : Nat) (oi oj : SOper) (t : Nat), l[i]? = some oi → l[j]? = some oj → i ≠ j → t ∈ oi.looks → oj.dst = some t → cmpB b i j = true
theorem cmp_symm (b : Array Nat) (i j : Nat) : cmpB b i j = cmpB b j i := by
  unfold cmpB
  rw [Nat.max_comm, Nat.min_comm]
section
variable {cl : Oracle} {l : List SOper} {b : Array Nat} {s : Nat → Ac}
def dstAt (l : List SOper) (i : Nat) : Option Nat := (l[i]?).bind (·.dst)
/-- It may write the store, and knows where it stands to all that look at it. -/
def Ty (b : Array Nat) (l : List SOper) (i : Nat) : Prop := ∃ o, l[i]? = some o ∧ o.op.inert = false ∧ totB b l i = true
theorem tot_cmp {i j : Nat} {oj : SOper} (h : totB b l i = true) (hj : l[j]? = some oj) (hne : j ≠ i) (hi : oj.op.inert = false) : cmpB b i j = true := by
  have := all_idx h hj
  simpa [hne, hi] using this
theorem SeqD.put (h : SeqD cl l b s) {i : Nat} {o : SOper} (hi : l[i]? = some o) : ∃ v, s (i + 1) = (({ e := (s i).e, S := (s (i + 1)).S } : Ac).put o.dst v) := by
  obtain ⟨v, hv, _⟩ := stp_agree (e := (s i).e) (S := (s i).S) (e' := (s i).e) (fun _ _ => rfl) (h.step i o hi).1
  exact ⟨v, hv⟩
theorem SeqD.keepE (h : SeqD cl l b s) {i : Nat} {o : SOper} (hi : l[i]? = some o) {t : Nat} (ht : o.dst ≠ some t) : (s (i + 1)).e t = (s i).e t := by
  obtain ⟨v, hv⟩ := h.put hi
  rw [hv]
  cases hd : o.dst with
  | none => rfl
  | some d =>
    have : t ≠ d := fun e => ht (by rw [hd, e])
    simp [Ac.put, upd, this]
theorem SeqD.before (h : SeqD cl l b s) {t : Nat} : ∀ i, i ≤ l.length → (∀ j, j < i → dstAt l j ≠ some t) → (s i).e t = (s 0).e t
  | 0, _, _ => rfl
  | i + 1, hi, hn => by
    have hlt : i < l.length := hi
    rw [h.keepE (List.getElem?_eq_getElem hlt) (fun e => hn i (Nat.lt_succ_self i) (by simp [dstAt, List.getElem?_eq_getElem hlt, e]))]
    exact h.before i (by omega) (fun j hj => hn j (by omega))
theorem SeqD.behind (h : SeqD cl l b s) {t j : Nat} {oj : SOper} (hj : l[j]? = some oj) (hd : oj.dst = some t) : ∀ i, j < i → i ≤ l.length → (s i).e t = (s (j + 1)).e t
  | 0, h0, _ => absurd h0 (Nat.not_lt_zero _)
  | i + 1, h0, hi => by
    rcases Nat.lt_or_ge j i with hlt | hge
    · have hil : i < l.length := hi
      rw [h.keepE (List.getElem?_eq_getElem hil) (h.one j i oj _ t hj (List.getElem?_eq_getElem hil) (by omega) hd)]
      exact h.behind hj hd i hlt (by omega)
    · have : i = j := by omega
      rw [this]
theorem SeqD.still (h : SeqD cl l b s) {i : Nat} (hi : i < l.length) (hT : ¬ Ty b l i) : (s (i + 1)).S = (s i).S := by
  have hio := List.getElem?_eq_getElem hi
  obtain ⟨h1, h2⟩ := h.step i _ hio
  cases hin : (l[i]).op.inert with
  | true => exact (stp_inert (e := (s i).e) (S := (s i).S) hin h1).1
  | false =>
    rcases h2 with h2 | h2
    · exact absurd ⟨_, hio, hin, h2⟩ hT
    · exact h2
theorem SeqD.stills (h : SeqD cl l b s) {i : Nat} : ∀ j, i ≤ j → j ≤ l.length → (∀ k, i ≤ k → k < j → ¬ Ty b l k) → (s j).S = (s i).S
  | 0, h0, _, _ => by rw [show i = 0 by omega]
  | j + 1, h0, hj, hT => by
    rcases Nat.lt_or_ge i (j + 1) with hlt | hge
    · rw [h.still (i := j) hj (hT j (by omega) (Nat.lt_succ_self j))]
      exact h.stills j (by omega) (by omega) (fun k h1 h2 => hT k h1 (by omega))
    · rw [show i = j + 1 by omega]
end
/-- What the frame holds when just those of L have run. -/
noncomputable def ef (l : List SOper) (s : Nat → Ac) (L : Array Bool) : Nat → PV := fun t => if ∃ i, L.getD i false = true ∧ dstAt l i = some t then (s l.length).e t else (s 0).e t
structure DI (P : Program) (n : Nat) (l : List SOper) (b : Array Nat) (s : Nat → Ac) (g0 : Gh) (w0 : World) (len0 : Nat) (L : Array Bool) (m : Nat) (g : Gh) (a : Act) (w : World) : Prop where
  size : L.size = l.length
  closed : ∀ i j, L.getD i false = true → (b.getD i 0).testBit j = true → L.getD j false = true
  mle : m ≤ l.length
  mark : ∀ i, Ty b l i → (L.getD i false = true ↔ i < m)
  rel : RelA n g ⟨ef l s L, (s m).S⟩ a w
  bare : ∀ (i : Nat) (o : SOper) (d : Nat) (z : List PV), l[i]? = some o → L.getD i false = false → o.dst = some d → o.op = .alloc z → Bare g 0 d
  tr : Tr g0 w0 g w
  len : (s m).S.length = len0
theorem getD_tf {L : Array Bool} {i : Nat} (h : L.getD i true = false) : L.getD i false = false ∧ i < L.size := by
  rw [Array.getD_eq_getD_getElem?] at h ⊢
  cases hi : L[i]? with
  | none => rw [hi] at h; simp at h
  | some x => rw [hi] at h; exact ⟨by simpa using h, (Array.getElem?_eq_some_iff.1 hi).1⟩
theorem getD_ft {L : Array Bool} {i : Nat} (h : L.getD i false = false) (hi : i < L.size) : L.getD i true = false := by
  rw [Array.getD_eq_getD_getElem?] at h ⊢
  rw [Array.getElem?_eq_getElem hi] at h ⊢
  simpa using h
theorem getD_set_same {L : Array Bool} {i : Nat} (h : i < L.size) : (L.setIfInBounds i true).getD i false = true := by
  rw [Array.getD_eq_getD_getElem?]
  simp [h]
theorem ac_ext {a b : Ac} (h1 : a.e = b.e) (h2 : a.S = b.S) : a = b := by
  cases a
  cases b
  simp only at h1 h2
  rw [h1, h2]
theorem any_ok {cl : Oracle} (hcl : OracleOk P cl) {n : Nat} {ops : Array Oper} {l : List SOper} (hc : cOpers P n ops ops.toList = some l) {b : Array Nat} (hb : b = CheckFast.beforeF ops) (hfw : fwdOk ops = true) {s : Nat → Ac} (hs : SeqD cl l b s) {g0 : Gh} {w0 : World} {len0 : Nat} {Q : Exit → Act → World → Prop}
    (hQ : ∀ a w g, RelA n g (s l.length) a w → Tr g0 w0 g w → (s l.length).S.length = len0 → Q .normal a w) :
    ∀ (fuel : Nat) (R : List Nat) (L : Array Bool) (m : Nat) (g : Gh) (a : Act) (w : World), DI P n l b s g0 w0 len0 L m g a w → R.length ≤ fuel → (∀ j, j < l.length → L.getD j true = false → j ∈ R) → wpAny P .any ops Q fuel L a w := by
  obtain ⟨hll, hget⟩ := cOpers_get ops.toList l hc
  have hN : ops.size = l.length := by rw [hll]; simp
  have hgood := before_good ops
  rw [← hb] at hgood
  -- nothing is ready: all is done
  have hend : ∀ L m g a w, DI P n l b s g0 w0 len0 L m g a w → Region.ready .any ops L = [] → Q .normal a w := by
    intro L m g a w hd hr
    have hall : ∀ k i, i ≤ k → i < l.length → L.getD i false = true := by
      intro k
      induction k with
      | zero =>
        intro i hi hl
        refine Decidable.byContradiction fun hcon => ?_
        have h0 : L.getD i true = false := getD_ft (by simpa using hcon) (by rw [hd.size]; exact hl)
        have : i ∈ Region.ready .any ops L := by
          rw [mem_ready]
          refine ⟨h0, ops[i], Array.getElem?_eq_getElem (by omega), fun e he hbd => ?_⟩
          have := all_idx hfw (i := i) (o := ops[i]) (by simp [hN, hl])
          rw [List.all_eq_true] at this
          have := this e (by simpa using he)
          simp [hbd] at this
          omega
        rw [hr] at this
        cases this
      | succ k ih =>
        intro i hi hl
        refine Decidable.byContradiction fun hcon => ?_
        have h0 : L.getD i true = false := getD_ft (by simpa using hcon) (by rw [hd.size]; exact hl)
        have : i ∈ Region.ready .any ops L := by
          rw [mem_ready]
          refine ⟨h0, ops[i], Array.getElem?_eq_getElem (by omega), fun e he hbd => ?_⟩
          have := all_idx hfw (i := i) (o := ops[i]) (by simp [hN, hl])
          rw [List.all_eq_true] at this
          have := this e (by simpa using he)
          simp [hbd] at this
          exact ih e.on (by omega) (by omega)
        rw [hr] at this
        cases this
    have hS : (s m).S = (s l.length).S := by
      refine (hs.stills l.length hd.mle (Nat.le_refl _) fun k h1 h2 hT => ?_).symm
      have := (hd.mark k hT).1 (hall k k (Nat.le_refl _) h2)
      omega
    have hE : ef l s L = (s l.length).e := by
      funext t
      unfold ef
      split
      · rfl
      · rename_i hno
        refine (hs.before l.length (Nat.le_refl _) fun j hj e => hno ⟨j, hall j j (Nat.le_refl _) hj, e⟩).symm
    have hr := hd.rel
    rw [hE, hS] at hr
    exact hQ a w g hr hd.tr (by rw [← hS]; exact hd.len)
  intro fuel
  induction fuel with
  | zero =>
    intro R L m g a w hd hR hun
    have hR0 : R = [] := List.eq_nil_of_length_eq_zero (by omega)
    have hr : Region.ready .any ops L = [] := by
      apply List.eq_nil_iff_forall_not_mem.2
      intro i hi
      rw [mem_ready] at hi
      obtain ⟨h1, o, h2, _⟩ := hi
      have := hun i (by rw [← hN]; exact (Array.getElem?_eq_some_iff.1 h2).1) h1
      rw [hR0] at this
      cases this
    exact ⟨hr, hend L m g a w hd hr⟩
  | succ fuel ih =>
    intro R L m g a w hd hR hun
    refine ⟨hend L m g a w hd, fun i hi => ?_⟩
    rw [mem_ready] at hi
    obtain ⟨h1, o, h2, hdep⟩ := hi
    obtain ⟨hin, hiL⟩ := getD_tf h1
    have hil : i < l.length := by rw [← hd.size]; exact hiL
    obtain ⟨so, hso, hco⟩ := hget i o (by simpa using h2)
    -- what is before it has run
    have hbef : ∀ j, (b.getD i 0).testBit j = true → L.getD j false = true := by
      intro j hj
      obtain ⟨o', q1, e, q2, q3, q4⟩ := hgood i j hj
      have : o = o' := by
        have : ops.toList[i]? = some o := by simpa using h2
        rw [this] at q1
        exact Option.some.inj q1
      subst this
      have hon := hdep e (by simpa using q2) q3
      rcases q4 with q4 | q4
      · rw [← q4]; exact hon
      · exact hd.closed _ _ hon q4
    have hcmp : ∀ j, cmpB b i j = true → j ≠ i → (L.getD j false = true ↔ j < i) := by
      intro j hj hne
      unfold cmpB at hj
      constructor
      · intro hL
        refine Decidable.byContradiction fun hge => ?_
        have h3 : max i j = j := by omega
        have h4 : min i j = i := by omega
        rw [h3, h4] at hj
        have := hd.closed j i hL hj
        rw [hin] at this
        cases this
      · intro hlt
        have h3 : max i j = i := by omega
        have h4 : min i j = j := by omega
        rw [h3, h4] at hj
        exact hbef j hj
    -- what it looks at is what was reckoned
    have hag : Agree (s i).e (ef l s L) so.looks := by
      intro t ht
      have key : (∃ j, L.getD j false = true ∧ dstAt l j = some t) ↔ ∃ j, j < i ∧ dstAt l j = some t := by
        constructor
        · rintro ⟨j, hj1, hj2⟩
          cases hlj : l[j]? with
          | none => simp [dstAt, hlj] at hj2
          | some oj =>
            have hne : j ≠ i := fun e => by rw [e] at hj1; rw [hin] at hj1; cases hj1
            simp only [dstAt, hlj, Option.bind_some] at hj2
            exact ⟨j, (hcmp j (hs.look i j so oj t hso hlj (Ne.symm hne) ht hj2) hne).1 hj1, by simp [dstAt, hlj, hj2]⟩
        · rintro ⟨j, hj1, hj2⟩
          cases hlj : l[j]? with
          | none => simp [dstAt, hlj] at hj2
          | some oj =>
            simp only [dstAt, hlj, Option.bind_some] at hj2
            exact ⟨j, (hcmp j (hs.look i j so oj t hso hlj (by omega) ht hj2) (by omega)).2 hj1, by simp [dstAt, hlj, hj2]⟩
      unfold ef
      by_cases hex : ∃ j, j < i ∧ dstAt l j = some t
      · rw [if_pos (key.2 hex)]
        obtain ⟨j, hj1, hj2⟩ := hex
        cases hlj : l[j]? with
        | none => simp [dstAt, hlj] at hj2
        | some oj =>
          simp only [dstAt, hlj, Option.bind_some] at hj2
          rw [hs.behind hlj hj2 i hj1 (by omega), hs.behind hlj hj2 l.length (by omega) (Nat.le_refl _)]
      · rw [if_neg (fun h => hex (key.1 h))]
        exact hs.before i (by omega) fun j hj e => hex ⟨j, hj, e⟩
    -- the store too
    have hSi : so.op.inert = false → (s i).S = (s m).S := by
      intro hni
      have hno : ∀ k, Ty b l k → k ≠ i → (k < m ↔ k < i) := by
        rintro k ⟨ok, hk1, hk2, hk3⟩ hne
        have hc1 := tot_cmp hk3 hso (Ne.symm hne) hni
        rw [cmp_symm] at hc1
        rw [← hd.mark k ⟨ok, hk1, hk2, hk3⟩]
        exact hcmp k hc1 hne
      rcases Nat.lt_or_ge i m with hlt | hge
      · refine (hs.stills m (by omega) hd.mle fun k k1 k2 hT => ?_).symm
        by_cases e : k = i
        · subst e
          have := (hd.mark k hT).2 hlt
          rw [hin] at this
          cases this
        · have := (hno k hT e).1 k2
          omega
      · refine hs.stills i hge (by omega) fun k k1 k2 hT => ?_
        have := (hno k hT (by omega)).2 k2
        omega
    obtain ⟨hst, htt⟩ := hs.step i so hso
    obtain ⟨v, hv1, hv2⟩ := stp_agree (e := (s i).e) (S := (s i).S) (e' := ef l s L) hag hst
    -- the machine's step there
    obtain ⟨m', hm1, hm2, hstep, hmS⟩ : ∃ m', m' ≤ l.length ∧ (∀ k, Ty b l k → ((L.setIfInBounds i true).getD k false = true ↔ k < m')) ∧ stp cl false so ⟨ef l s L, (s m).S⟩ = .ok (({ e := ef l s L, S := (s m').S } : Ac).put so.dst v) ∧ True := by
      have hset : ∀ k, k ≠ i → ((L.setIfInBounds i true).getD k false = true ↔ L.getD k false = true) := fun k hk => by rw [getD_set_ne false (Ne.symm hk)]
      by_cases hT : Ty b l i
      · obtain ⟨oi, q1, q2, q3⟩ := hT
        rw [hso] at q1
        obtain rfl := Option.some.inj q1
        refine ⟨i + 1, hil, fun k hTk => ?_, ?_, trivial⟩
        · by_cases e : k = i
          · subst e
            exact ⟨fun _ => Nat.lt_succ_self k, fun _ => getD_set_same hiL⟩
          · rw [hset k e]
            obtain ⟨ok, hk1, hk2, hk3⟩ := hTk
            rw [hcmp k (tot_cmp q3 hk1 e hk2) e]
            omega
        · rw [← hSi q2]
          exact hv2
      · refine ⟨m, hd.mle, fun k hTk => ?_, ?_, trivial⟩
        · have e : k ≠ i := fun e => hT (by rw [← e]; exact hTk)
          rw [hset k e]
          exact hd.mark k hTk
        · cases hin' : so.op.inert with
          | true =>
            obtain ⟨_, h3⟩ := stp_inert (e := ef l s L) (S := (s i).S) hin' hv2
            have := h3 (s m).S
            rw [this]
            cases so.dst <;> rfl
          | false =>
            have hE := hSi hin'
            have hE2 : (s (i + 1)).S = (s i).S := hs.still hil hT
            rw [hE2, hE] at hv2
            exact hv2
    have hres := stp_ok hcl hco (kd := false) hd.rel (fun _ d z hdd hz => hd.bare i so d z hso hin hdd hz)
    rw [hstep] at hres
    obtain ⟨_, hdst, hdn, _⟩ := cOper_inv hco
    have hdo := hres (wpAny P .any ops Q fuel (L.setIfInBounds i true)) Q (fun c w' g' hstp => by
      have hra := hstp.relA hd.rel hdn
      have heq : (({ e := ef l s L, S := (s m').S } : Ac).put so.dst v) = ⟨ef l s (L.setIfInBounds i true), (s m').S⟩ := by
        have hE : (({ e := ef l s L, S := (s m').S } : Ac).put so.dst v).e = ef l s (L.setIfInBounds i true) := by
          funext t
          by_cases e : so.dst = some t
          · have h4 : (({ e := ef l s L, S := (s m').S } : Ac).put so.dst v).e t = v := by rw [e]; simp [Ac.put, upd]
            have h5 : (s (i + 1)).e t = v := by rw [hv1, e]; simp [Ac.put, upd]
            rw [h4]
            unfold ef
            rw [if_pos ⟨i, getD_set_same hiL, by simp [dstAt, hso, e]⟩]
            rw [hs.behind hso e l.length hil (Nat.le_refl _), h5]
          · have h4 : (({ e := ef l s L, S := (s m').S } : Ac).put so.dst v).e t = ef l s L t := by
              cases hd' : so.dst with
              | none => rfl
              | some d =>
                have : t ≠ d := fun e' => e (by rw [hd', e'])
                simp [Ac.put, upd, this]
            rw [h4]
            unfold ef
            have : (∃ k, L.getD k false = true ∧ dstAt l k = some t) ↔ ∃ k, (L.setIfInBounds i true).getD k false = true ∧ dstAt l k = some t := by
              constructor
              · rintro ⟨k, k1, k2⟩
                exact ⟨k, getD_set_true k1, k2⟩
              · rintro ⟨k, k1, k2⟩
                refine ⟨k, ?_, k2⟩
                by_cases ek : k = i
                · subst ek
                  simp only [dstAt, hso, Option.bind_some] at k2
                  exact absurd k2 e
                · rwa [getD_set_ne false (Ne.symm ek)] at k1
            by_cases hh : ∃ k, L.getD k false = true ∧ dstAt l k = some t
            · rw [if_pos hh, if_pos (this.1 hh)]
            · rw [if_neg hh, if_neg (fun h => hh (this.2 h))]
        have hSS : (({ e := ef l s L, S := (s m').S } : Ac).put so.dst v).S = (s m').S := by cases so.dst <;> rfl
        exact ac_ext hE hSS
      rw [heq] at hra hstp
      refine ih (R.erase i) _ m' g' _ w' ⟨by simp [hd.size], ?_, hm1, hm2, hra, ?_, hd.tr.trans hstp.tr, ?_⟩ ?_ ?_
      · intro p q hp hq
        by_cases e : p = i
        · subst e
          exact getD_set_true (hbef q hq)
        · rw [getD_set_ne false (Ne.symm e)] at hp
          exact getD_set_true (hd.closed p q hp hq)
      · intro p op d z hp hpL hpd hpz
        have e : p ≠ i := fun e => by subst e; rw [getD_set_same hiL] at hpL; cases hpL
        rw [getD_set_ne false (Ne.symm e)] at hpL
        refine (hstp.ext rfl).2.2 d ?_ (hd.bare p op d z hp hpL hpd hpz)
        rw [← hdst]
        exact hs.one p i op so d hp hso e hpd
      · have := hstp.len
        rw [← hd.len]
        exact this
      · have hmem := hun i hil h1
        rw [List.length_erase_of_mem hmem]
        omega
      · intro j hj hjL
        have e : j ≠ i := fun e => by
          subst e
          have := (getD_tf hjL).1
          rw [getD_set_same hiL] at this
          cases this
        rw [getD_set_ne true (Ne.symm e)] at hjL
        exact (List.mem_erase_of_ne e).2 (hun j hj hjL))
    unfold wpOp
    rw [h2]
    unfold doOp at hdo
    dsimp only
    split
    · rename_i hw
      rw [if_pos hw] at hdo
      exact .inl hdo
    · rename_i hw
      rw [if_neg hw] at hdo
      exact hdo
theorem evD_nor {cl : Oracle} : ∀ (l : List SOper) (tot : List Bool) (ac : Ac) (r : EO), (∀ ac', r ≠ .nor ac') → r ≠ .bad → evD cl l tot ac ≠ r
  | [], tot, ac, r, h1, h2 => by simp only [evD]; exact fun e => h1 ac e.symm
  | o :: l, tot, ac, r, h1, h2 => by
    simp only [evD]
    split
    · split
      · exact evD_nor l _ _ r h1 h2
      · exact fun e => h2 e.symm
    · exact fun e => h2 e.symm
theorem dreg_ok {cl : Oracle} (hcl : OracleOk P cl) (hm : P.follows .mixedOrders = true) {n id : Nat} {ops : Array Oper} {l : List SOper} (hc : cOpers P n ops ops.toList = some l) (hdr : drawOk ops l (CheckFast.beforeF ops) = true) {g : Gh} {ac : Ac} {a : Act} {w : World} {Q : Exit → Act → World → Prop} (hr : RelA n g ac a w)
    (hp : EPost n g ac.S.length w Q (evD cl l ((List.range l.length).map (totB (CheckFast.beforeF ops) l)) (prep l ac))) : (Code.region id ops true).wp P Q a w := by
  obtain ⟨g1, hr1, ht1, hl1, _, hb1⟩ := prep_ok l ac g hr
  have hN : ops.size = l.length := by rw [(cOpers_get ops.toList l hc).1]; simp
  apply wp_region_any hm
  cases hev : evD cl l ((List.range l.length).map (totB (CheckFast.beforeF ops) l)) (prep l ac) with
  | nor acN =>
    rw [hev] at hp
    obtain ⟨s, s0, sN, hs⟩ := evD_seq l _ _ acN hev
    unfold drawOk at hdr
    simp only [Bool.and_eq_true] at hdr
    obtain ⟨hd1, hd2, hd3⟩ := hdr
    have hseq : SeqD cl l (CheckFast.beforeF ops) s := by
      refine ⟨fun i o hi => ⟨(hs i o hi).1, (hs i o hi).2.imp (fun h => ?_) (fun h => h)⟩, fun i j oi oj d hi hj hne hdi hdj => ?_, fun i j oi oj t hi hj hne ht hdj => ?_⟩
      · have hlt := (List.getElem?_eq_some_iff.1 hi).1
        rw [List.getD_eq_getElem?_getD, List.getElem?_map, List.getElem?_range hlt] at h
        simpa using h
      · have h1 := all_idx hd1 hi
        have h2 := all_idx h1 hj
        have hne' : ¬ j = i := Ne.symm hne
        simp [hne', hdi, hdj] at h2
      · have h1 := all_idx hd2 hi
        rw [List.all_eq_true] at h1
        have h2 := all_idx (h1 t ht) hj
        have hne' : ¬ j = i := Ne.symm hne
        simpa [hne', hdj] using h2
    have hr2 : RelA n g1 (prep l ac) a { w with drawn := w.drawn + 1 } := ⟨⟨hr1.rel.wr.drawn _, hr1.rel.env⟩, hr1.size, hr1.defers, hr1.ne⟩
    have ht2 : Tr g w g1 { w with drawn := w.drawn + 1 } := ⟨ht1.os, ht1.tape, ht1.output, ht1.size, ht1.fz, ht1.keep, ht1.new, ht1.out⟩
    have hno : ∀ i, (Array.replicate ops.size false).getD i false = false := by
      intro i
      rw [Array.getD_eq_getD_getElem?, Array.getElem?_replicate]
      split <;> rfl
    refine any_ok hcl hc rfl hd3 hseq (g0 := g) (w0 := w) (len0 := ac.S.length) (fun a' w' g' h1 h2 h3 => ?_) ops.size (List.range l.length) _ 0 g1 a _ ⟨by simp [hN], (fun i j h => by rw [hno] at h; cases h), Nat.zero_le _, fun i _ => ⟨(fun h => by rw [hno] at h; cases h), fun h => absurd h (Nat.not_lt_zero _)⟩, ?_, ?_, ht2, ?_⟩ (by simp [hN]) (fun j hj _ => List.mem_range.2 hj)
    · rw [sN] at h1 h3
      exact hp a' w' g' h1 h2 h3
    · have : (⟨ef l s (Array.replicate ops.size false), (s 0).S⟩ : Ac) = prep l ac := by
        rw [s0]
        have : ef l s (Array.replicate ops.size false) = (prep l ac).e := by
          funext t
          unfold ef
          rw [if_neg, s0]
          rintro ⟨i, h, _⟩
          rw [hno] at h
          cases h
        rw [this]
      rw [this]
      exact hr2
    · intro i o d z hi _ hd hz
      exact hb1 o (List.mem_of_getElem? hi) d z hd hz
    · rw [s0]; exact hl1
  | ext i ac' => exact absurd hev (evD_nor _ _ _ _ (by intro ac h; cases h) (by intro h; cases h))
  | ret ac' => exact absurd hev (evD_nor _ _ _ _ (by intro ac h; cases h) (by intro h; cases h))
  | pan v S => exact absurd hev (evD_nor _ _ _ _ (by intro ac h; cases h) (by intro h; cases h))
  | bad => rw [hev] at hp; exact hp.elim
end
end Go.Proofs.Ytebflncfgjnkkaa.M

/- THE ABSTRACT MACHINE, twenty-ninth part: a function's code. -/
namespace Go.Proofs.Ytebflncfgjnkkaa.M
set_option linter.unusedSimpArgs false
set_option linter.unusedVariables false
open Go Classical
section
variable {P : Program}
/-- A loop that has begun. -/
def Loops (P : Program) (c : Code) (Q : Exit → Act → World → Prop) (a : Act) (w : World) : Prop :=
  ∀ (b : Frame) (k : List Item) (cs : List Frame), ∃ e a' w', Q e a' w' ∧ Arrives P (lone (b.at a (.code c :: .inLoop c :: k)) cs w) b k cs e a' w'
theorem loops_of {c : Code} {Q : Exit → Act → World → Prop} {a : Act} {w : World} (h : c.wp P (Exit.then (Loops P c Q) Q) a w) : Loops P c Q a w := by
  intro b k cs
  obtain ⟨e, a₁, w₁, hq, harr⟩ := h b (.inLoop c :: k) cs
  cases e with
  | normal =>
    obtain ⟨e₂, a₂, w₂, hq₂, harr₂⟩ := hq b k cs
    exact ⟨e₂, a₂, w₂, hq₂, .of_steps (Steps.trans harr (.one step_inLoop)) harr₂⟩
  | exit id => exact ⟨_, a₁, w₁, hq, .pass (x := .inLoop c) rfl (fun _ _ => .inl (by simp)) harr⟩
  | goto l => exact ⟨_, a₁, w₁, hq, .pass (x := .inLoop c) rfl (fun _ _ => .inl (by simp)) harr⟩
  | ret => exact ⟨_, a₁, w₁, hq, .pass (x := .inLoop c) rfl (fun _ _ => .inl (by simp)) harr⟩
  | panic ch => exact ⟨_, a₁, w₁, hq, .pass (x := .inLoop c) rfl (fun _ _ => .inl (by simp)) harr⟩
  | outgrown => exact ⟨_, a₁, w₁, hq, .pass (x := .inLoop c) rfl (fun _ _ => .inl (by simp)) harr⟩
theorem wp_of_loops {c : Code} {Q : Exit → Act → World → Prop} {a : Act} {w : World} (h : Loops P c Q a w) : (Code.loop c).wp P Q a w := by
  intro b k cs
  obtain ⟨e, a', w', hq, harr⟩ := h b k cs
  exact ⟨e, a', w', hq, .of_steps (.one step_loop) harr⟩
/-- What one part of the code says, of what comes behind it. -/
theorem EPost.behind {n l : Nat} {g : Gh} {w : World} {Q : Exit → Act → World → Prop} {T : Act → World → Prop} {r : EO} (hr : r ≠ .bad) (h : (∀ ac', r ≠ .nor ac') → EPost n g l w Q r) (hn : ∀ ac', r = .nor ac' → ∀ a' w' g', RelA n g' ac' a' w' → Tr g w g' w' → ac'.S.length = l → T a' w') : EPost n g l w (Exit.then T Q) r := by
  cases r with
  | nor ac => exact hn ac rfl
  | ext id ac => exact h (fun _ h => by cases h)
  | ret ac => exact h (fun _ h => by cases h)
  | pan v S => exact h (fun _ h => by cases h)
  | bad => exact absurd rfl hr
theorem EPost.ne_bad {n l : Nat} {g : Gh} {w : World} {Q : Exit → Act → World → Prop} {r : EO} (h : EPost n g l w Q r) : r ≠ .bad := fun e => by rw [e] at h; exact h
theorem evC_ok {cl : Oracle} (hcl : OracleOk P cl) (hm : P.follows .mixedOrders = true) {n : Nat} : ∀ (c : Code) (sc : SC), cCode P n c = some sc → ∀ (N : Nat) {g : Gh} {ac : Ac} {a : Act} {w : World} {Q : Exit → Act → World → Prop}, RelA n g ac a w → EPost n g ac.S.length w Q (evC cl N sc ac) → c.wp P Q a w := by
  intro c
  induction c with
  | skip =>
    intro sc hc N g ac a w Q hr hp
    simp only [cCode, Option.some.injEq] at hc
    subst hc
    simp only [evC] at hp
    exact wp_skip (hp a w g hr (Tr.refl g w) rfl)
  | region id ops draw =>
    intro sc hc N g ac a w Q hr hp
    cases draw with
    | false =>
      simp only [cCode, Option.map_eq_some_iff] at hc
      obtain ⟨l, hl, rfl⟩ := hc
      simp only [evC] at hp
      exact wp_region_list (evOps_ok hcl ops.toList l hl hr hp)
    | true =>
      simp only [cCode] at hc
      split at hc
      · rename_i l hl
        split at hc
        · rename_i hdr
          cases hc
          simp only [evC] at hp
          exact dreg_ok hcl hm hl hdr hr hp
        · cases hc
      · cases hc
  | seq x y ihx ihy =>
    intro sc hc N g ac a w Q hr hp
    simp only [cCode] at hc
    split at hc
    · rename_i sx sy hx hy
      cases hc
      have hbad : evC cl N sx ac ≠ .bad := fun e => by
        simp only [evC, e] at hp
        exact hp
      refine wp_seq (ihx sx hx N hr (EPost.behind hbad (fun hnn => ?_) (fun ac' he a' w' g' h1 h2 h3 => ?_)))
      · simp only [evC] at hp
        cases he : evC cl N sx ac with
        | nor ac' => exact absurd he (hnn ac')
        | _ => rw [he] at hp; exact hp
      · simp only [evC, he] at hp
        exact ihy sy hy N h1 (by rw [h3]; exact hp.from h2)
    · cases hc
  | cond x y z ihy ihz =>
    intro sc hc N g ac a w Q hr hp
    simp only [cCode] at hc
    split at hc
    · rename_i sx sy sz hx hy hz
      cases hc
      simp only [evC] at hp
      split at hp
      · rename_i t ht
        have hev := hr.rel.ev hx
        rw [ht] at hev
        refine wp_cond hev.bool_inv ?_
        cases t with
        | true => exact ihy sy hy N hr hp
        | false => exact ihz sz hz N hr hp
      · exact hp.elim
    · cases hc
  | block id x ih =>
    intro sc hc N g ac a w Q hr hp
    simp only [cCode, Option.map_eq_some_iff] at hc
    obtain ⟨sx, hx, rfl⟩ := hc
    simp only [evC] at hp
    refine wp_block (ih sx hx N hr ?_)
    cases he : evC cl N sx ac with
    | nor ac' => rw [he] at hp; exact hp
    | ext i ac' =>
      rw [he] at hp
      simp only [inBlk] at hp
      intro a' w' g' h1 h2 h3
      simp only [Exit.inBlock]
      split
      · rename_i e; rw [if_pos e] at hp; exact hp a' w' g' h1 h2 h3
      · rename_i e; rw [if_neg e] at hp; exact hp a' w' g' h1 h2 h3
    | ret ac' => rw [he] at hp; exact hp
    | pan v S => rw [he] at hp; exact hp
    | bad => rw [he] at hp; exact hp
  | loop x ih =>
    intro sc hc N g ac a w Q hr hp
    simp only [cCode, Option.map_eq_some_iff] at hc
    obtain ⟨sx, hx, rfl⟩ := hc
    have key : ∀ (N : Nat) {g : Gh} {ac : Ac} {a : Act} {w : World}, RelA n g ac a w → EPost n g ac.S.length w Q (evC cl N (.loop sx) ac) → Loops P x Q a w := by
      intro N
      induction N with
      | zero =>
        intro g ac a w hr hp
        simp only [evC] at hp
        exact hp.elim
      | succ N ihN =>
        intro g ac a w hr hp
        have hbad : evC cl (N + 1) sx ac ≠ .bad := fun e => by
          simp only [evC, e] at hp
          exact hp
        refine loops_of (ih sx hx (N + 1) hr (EPost.behind hbad (fun hnn => ?_) (fun ac' he a' w' g' h1 h2 h3 => ?_)))
        · simp only [evC] at hp
          cases he : evC cl (N + 1) sx ac with
          | nor ac' => exact absurd he (hnn ac')
          | _ => rw [he] at hp; exact hp
        · simp only [evC, he] at hp
          exact ihN h1 (by rw [h3]; exact hp.from h2)
    exact wp_of_loops (key N hr hp)
  | exit id =>
    intro sc hc N g ac a w Q hr hp
    simp only [cCode, Option.some.injEq] at hc
    subst hc
    simp only [evC] at hp
    exact wp_exit (hp a w g hr (Tr.refl g w) rfl)
  | ret =>
    intro sc hc N g ac a w Q hr hp
    simp only [cCode, Option.some.injEq] at hc
    subst hc
    simp only [evC] at hp
    exact wp_ret (hp a w g hr (Tr.refl g w) rfl)
  | _ => intro sc hc; simp [cCode] at hc
end
end Go.Proofs.Ytebflncfgjnkkaa.M
