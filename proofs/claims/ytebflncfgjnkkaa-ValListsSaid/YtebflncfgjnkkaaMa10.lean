/- THE ABSTRACT MACHINE, tenth part: the rest of the operations that only yield a value. -/
import Derived.Test.YtebflncfgjnkkaaMa9
namespace Go.Proofs.Ytebflncfgjnkkaa.M
set_option linter.unusedSimpArgs false
set_option linter.unusedVariables false
open Go
section
variable {g : Gh} {S : Sto} {w : World} {P : Program}
theorem encode_ascii (n : Int) (h0 : 0 ≤ n) (h1 : n < 128) : Utf8.encode n = ⟨[UInt8.ofNat n.toNat].toArray⟩ := by
  have hv : Utf8.valid n = true := by simp [Utf8.valid]; omega
  unfold Utf8.encode
  simp only [hv, if_true]
  rw [if_pos (by omega)]
theorem bytesOf_inv : ∀ (rows : List (List PV)) (s : List UInt8), bytesOf rows = some s → rows.length = s.length ∧ ∀ (i : Nat) (row : List PV), rows[i]? = some row → ∃ n, row = [.int .u8 n] ∧ s[i]? = some (UInt8.ofNat n.toNat)
  | [], s, h => by
    simp only [bytesOf, Option.some.injEq] at h
    subst h
    exact ⟨rfl, fun i row h => by simp at h⟩
  | r :: rows, s, h => by
    unfold bytesOf at h
    split at h
    · rename_i e
      cases e
    · rename_i n r' e
      cases e
      rw [Option.map_eq_some_iff] at h
      obtain ⟨s', hs', rfl⟩ := h
      obtain ⟨h1, h2⟩ := bytesOf_inv _ s' hs'
      refine ⟨by simp [h1], fun i row hi => ?_⟩
      cases i with
      | zero => simp at hi; subst hi; exact ⟨n, rfl, rfl⟩
      | succ i => simp at hi; simpa using h2 i row hi
    · cases h
theorem foldl_push (ns : List Int) (s : ByteArray) : ns.foldl (fun r n => r.push (UInt8.ofNat n.toNat)) s = s ++ ⟨(ns.map fun n => UInt8.ofNat n.toNat).toArray⟩ := by
  induction ns generalizing s with
  | nil => apply ByteArray.ext; simp
  | cons n ns ih =>
    rw [List.foldl_cons, ih]
    apply ByteArray.ext
    simp
theorem conv_int {s t : TypeId} {k k' : IntKind} (hs : P.underlying s = some (.int k')) (ht : P.underlying t = some (.int k)) {p v : PV} {a : Value} (ha : VR g p a) (h : convP S (.int k) p = some v) : ∃ u, (convert s t a).run P w = .ok u w ∧ VR g v u := by
  cases p <;> try (simp [convP] at h; done)
  obtain rfl := ha.int_inv
  obtain rfl := Option.some.inj h
  refine ⟨_, ?_, .data _ _ (.int _ _)⟩
  simp [convert, run_underlying hs, run_underlying ht, Conv.intToInt]
theorem conv_chr {s t : TypeId} {k' : IntKind} (hs : P.underlying s = some (.int k')) (ht : P.underlying t = some .string) {p v : PV} {a : Value} (ha : VR g p a) (h : convP S .chr p = some v) : ∃ u, (convert s t a).run P w = .ok u w ∧ VR g v u := by
  cases p <;> try (simp [convP] at h; done)
  rename_i k0 n
  obtain rfl := ha.int_inv
  simp only [convP] at h
  split at h
  · rename_i hn
    obtain rfl := Option.some.inj h
    refine ⟨_, ?_, .data _ _ (.str _)⟩
    rw [run_convert_int_string w s t k0 n (by simp [hs]) ht, encode_ascii n hn.1 hn.2]
  · cases h
theorem conv_id {s t : TypeId} (hs : P.underlying s = some .string) (ht : P.underlying t = some .string) {p v : PV} {a : Value} (ha : VR g p a) (h : convP S .id p = some v) : ∃ u, (convert s t a).run P w = .ok u w ∧ VR g v u := by
  cases p <;> try (simp [convP] at h; done)
  obtain rfl := ha.str_inv
  obtain rfl := Option.some.inj h
  refine ⟨_, ?_, .data _ _ (.str _)⟩
  simp [convert, run_underlying hs, run_underlying ht]
theorem conv_bytes (hw : WR g S w) {s t e : TypeId} (hs : P.underlying s = some (.slice e)) (he : P.underlying e = some (.int .u8)) (ht : P.underlying t = some .string) {p v : PV} {a : Value} (ha : VR g p a) (h : convP S .bytes p = some v) : ∃ u, (convert s t a).run P w = .ok u w ∧ VR g v u := by
    have h : (match view S p with | some (_, rows, _) => (bytesOf rows).map .str | none => none) = some v := by cases p <;> exact h
    split at h
    · rename_i z rows full hv
      rw [Option.map_eq_some_iff] at h
      obtain ⟨bs, hbs, rfl⟩ := h
      obtain ⟨A, cap, cs, rfl, se⟩ := seen hw ha hv
      obtain ⟨hlen, hb⟩ := bytesOf_inv rows bs hbs
      refine ⟨_, ?_, .data _ _ (.str bs)⟩
      rw [run_convert_bytes_string w s t e A _ cap hs he ht]
      cases A with
      | none =>
        have : rows = [] := by
          cases rows with
          | nil => rfl
          | cons r rows =>
            obtain ⟨ad, h1, _⟩ := se.addr (by simp)
            cases h1
        subst this
        have : bs = [] := by simpa using hlen.symm
        subst this
        simp [Conv.bytesToString]
        rfl
      | some ad =>
        have hz : rows ≠ [] → z = 1 := by
          intro hne
          cases rows with
          | nil => exact absurd rfl hne
          | cons r rows =>
            obtain ⟨n, rfl, _⟩ := hb 0 r rfl
            exact (se.each _ List.mem_cons_self).symm
        let ns : List Int := rows.map fun r => match r with | [.int .u8 n] => n | _ => 0
        have hns : ∀ (i : Nat) (n : Int), rows[i]? = some [PV.int .u8 n] → ns[i]? = some n := by
          intro i n hi
          simp [ns, hi]
        have hcells : (loadCells ad rows.length).run P w = .ok (ns.map (Value.int .u8)).toArray w := by
          have := run_loadCells_list (P := P) w ad (ns.map (Value.int .u8)) (fun j v hj => by
            rw [List.getElem?_map, Option.map_eq_some_iff] at hj
            obtain ⟨n, hn, rfl⟩ := hj
            have hlt : j < rows.length := by have := (List.getElem?_eq_some_iff.1 hn).1; simpa [ns] using this
            obtain ⟨m, hm, _⟩ := hb j _ (List.getElem?_eq_getElem hlt)
            have hr : rows[j]? = some [PV.int .u8 m] := by rw [List.getElem?_eq_getElem hlt, hm]
            obtain rfl : m = n := Option.some.inj ((hns j m hr).symm.trans hn)
            obtain ⟨ad', e1, hsp⟩ := se.addr (fun e => by rw [e] at hlt; simp at hlt)
            obtain rfl := Option.some.inj e1
            have h1 := se.cell ad j 0 _ (.int .u8 m) rfl hr rfl
            have h2 := se.fr j 0 _ (.int .u8 m) hr rfl
            rw [hz (fun e => by rw [e] at hlt; simp at hlt), Nat.mul_one, Nat.add_zero] at h1
            rw [add_off hsp, h1, VR.int_inv (VR.data (g := g) _ _ h2)])
          simpa [ns] using this
        rw [run_bytesToString w ad rows.length cap ns hcells, foldl_push]
        have e2 : ns.map (fun n => UInt8.ofNat n.toNat) = bs := by
          apply List.ext_getElem?
          intro i
          rw [List.getElem?_map]
          rcases Nat.lt_or_ge i rows.length with hlt | hge
          · obtain ⟨n, hn, hb'⟩ := hb i _ (List.getElem?_eq_getElem hlt)
            rw [hns i n (by rw [List.getElem?_eq_getElem hlt, hn]), hb']
            rfl
          · rw [List.getElem?_eq_none (by simpa [ns] using hge), List.getElem?_eq_none (by omega)]
            rfl
        rw [e2]
        have : ByteArray.empty ++ ⟨bs.toArray⟩ = (⟨bs.toArray⟩ : ByteArray) := by apply ByteArray.ext; simp
        rw [this]
    · cases h
theorem part_ok {vs : List PV} {cs : Array Value} (hc : Cells g vs cs) {t : TypeId} {k : Option Nat} (hk : kOf P t = some k) {o : Nat} {v : PV} (h : pickC k vs o = some v) : ∃ c, (part t cs o).run P w = .ok c w ∧ VR g v c := by
  cases k with
  | none =>
    obtain ⟨d, hu, hd, _⟩ := kOf_none hk
    have hlt : o < cs.size := by rw [← hc.1]; exact (List.getElem?_eq_some_iff.1 h).1
    refine ⟨cs.getD o undef, ?_, hc.2 o v h⟩
    simp [part, Sem.run_bind, isAgg_plain hu hd, hlt]
  | some k =>
    obtain ⟨fs, hu, hs⟩ := kOf_some hk
    simp only [pickC] at h
    split at h
    · rename_i hle
      obtain rfl := Option.some.inj h
      obtain ⟨i, hi⟩ := info_of hu
      have hsz : i.size = k := by rw [← hs, cellsOf_info hi]
      have h1 := hc.1
      refine ⟨.agg (cs.extract o (o + k)), ?_, .agg _ _ (by simp; omega) fun j v hj => ?_⟩
      · have hagg : (isAgg t).run P w = .ok true w := by
          unfold isAgg
          rw [Sem.run_bind, run_underlying hu w]
          simp
        simp [part, Sem.run_bind, hagg, sizeOf, typeInfo, hi, hsz]
      · rw [List.getElem?_take] at hj
        split at hj
        · rename_i hjk
          rw [List.getElem?_drop] at hj
          have := hc.2 (o + j) v hj
          have e : (cs.extract o (o + k)).getD j undef = cs.getD (o + j) undef := by
            rw [Array.getD_eq_getD_getElem?, Array.getD_eq_getD_getElem?, Array.getElem?_extract, if_pos (by omega)]
          rw [e]
          exact this
        · cases hj
    · cases h
theorem iaddr_ok (hw : WR g S w) {t e : TypeId} (ht : P.underlying t = some (.slice e)) (he : ∃ i, P.info? e = some i) {p q v : PV} {a b : Value} (ha : VR g p a) (hb : VR g q b) (h : iaddrP S (P.cellsOf e) p q = some v) :
    ∃ c, (Instr.indexAt t a b).run P w = .ok c w ∧ VR g v c := by
  obtain ⟨ie, hie⟩ := he
  have hsz : ie.size = P.cellsOf e := (cellsOf_info hie).symm
  unfold iaddrP at h
  split at h
  · rename_i k i
    obtain rfl := hb.int_inv
    split at h
    · rename_i h0
      split at h
      · rename_i z rows f
        split at h
        · rename_i hz
          subst hz
          split at h
          · rename_i row hrow
            obtain rfl := Option.some.inj h
            have hlt : i.toNat < rows.length := (List.getElem?_eq_some_iff.1 hrow).1
            cases ha with
            | data _ _ ha =>
              cases ha with
              | list _ _ _ A cap cs hl hf hs hA hc hv =>
                obtain ⟨ad, rfl, hsp⟩ := hA (fun e => by rw [e] at hlt; simp at hlt)
                refine ⟨.pointer (some ⟨ad.block, ad.off + i.toNat * P.cellsOf e + 0, none⟩), ?_, .rowp row 0 ad.block (ad.off + i.toNat * P.cellsOf e) (cs i.toNat) (fun j v hj => by
                  rw [Nat.add_assoc]; exact hc ad i.toNat j row v rfl hrow hj) (fun j v hj => hv i.toNat j row v hrow hj)⟩
                have h2 : i < (rows.length : Int) := by omega
                simp [Instr.indexAt, run_underlying ht, asIntOf, h0, h2, sizeOf, typeInfo, hie, hsz, add_off hsp]
          · cases h
        · cases h
      · rename_i n t' off len ver gen f
        split at h
        · rename_i R hR
          split at h
          · rename_i hc
            obtain rfl := Option.some.inj h
            cases ha with
            | data _ _ ha => cases ha
            | sl _ _ _ _ _ _ _ ai _ hai hle h1c hs =>
              obtain ⟨R', hR', hr⟩ := hw.arr n t' ai hai
              obtain rfl : R = R' := Option.some.inj (hR.symm.trans hR')
              obtain ⟨A, cap, rfl, sa⟩ := hs (hr.gen.trans hc.1) (hr.len.trans hc.2.1)
              obtain ⟨ad, q1, q2, rfl⟩ := sa.pos (by omega)
              have e1 : ai.sz = P.cellsOf e := hr.sz.trans hc.2.2.1
              refine ⟨.pointer (some ⟨ad.block, ad.off + ((off + i.toNat) * ai.sz + 0), none⟩), ?_, .elem _ _ _ _ _ _ ai _ hai hle rfl (fun _ _ => ⟨ad, q1, q2, rfl⟩)⟩
              have h2 : i < (len : Int) := by omega
              simp [Instr.indexAt, run_underlying ht, asIntOf, h0, h2, sizeOf, typeInfo, hie, hsz, e1, Addr.add_mid, Nat.add_mul, Nat.add_assoc]
          · cases h
        · cases h
      · cases h
    · cases h
  · cases h
theorem lenS_ok {t ty : TypeId} {p v : PV} {a : Value} (ht : P.underlying t = some .string) (ha : VR g p a) (h : lenS p = some v) : ∃ c, (Builtin.len_ #[t] ty #[a]).run P w = .ok c w ∧ VR g v c := by
  unfold lenS at h
  split at h
  · obtain rfl := ha.str_inv
    obtain rfl := Option.some.inj h
    refine ⟨_, ?_, .data _ _ (.int _ _)⟩
    simp [Builtin.len_, run_underlying ht, goInt, size_mk]
  · cases h
theorem len_ok (hw : WR g S w) {t ty e : TypeId} {p v : PV} {a : Value} (he : P.underlying t = some (.slice e)) (ha : VR g p a) (h : lenP S p = some v) : ∃ c, (Builtin.len_ #[t] ty #[a]).run P w = .ok c w ∧ VR g v c := by
  unfold lenP at h
  split at h
  · cases ha with | data _ _ ha => cases ha with | nils z A =>
    obtain rfl := Option.some.inj h
    refine ⟨_, ?_, .data _ _ (.int _ _)⟩
    simp [Builtin.len_, run_underlying he, goInt]
  · cases ha with | data _ _ ha => cases ha with | list =>
    obtain rfl := Option.some.inj h
    refine ⟨_, ?_, .data _ _ (.int _ _)⟩
    simp [Builtin.len_, run_underlying he, goInt]
  · rename_i n t' off len ver gen f
    split at h
    · rename_i R hR
      split at h
      · rename_i hc
        cases ha with
        | data _ _ ha => cases ha
        | sl _ _ _ _ _ _ _ ai _ hai hle h1c hs' =>
          obtain ⟨R', hR', hr⟩ := hw.arr n t' ai hai
          obtain rfl : R = R' := Option.some.inj (hR.symm.trans hR')
          obtain ⟨A, cap, rfl, sa⟩ := hs' (hr.gen.trans hc.1) (hr.len.trans hc.2)
          obtain rfl := Option.some.inj h
          refine ⟨_, ?_, .data _ _ (.int _ _)⟩
          simp [Builtin.len_, run_underlying he, goInt]
      · cases h
    · cases h
  · cases h
end
end Go.Proofs.Ytebflncfgjnkkaa.M
