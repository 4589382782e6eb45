/- THE ABSTRACT MACHINE, ninth part: more operations that only yield a value. -/
import Derived.Test.YtebflncfgjnkkaaMa8
import Derived.Laws.Slices
namespace Go.Proofs.Ytebflncfgjnkkaa.M
set_option linter.unusedSimpArgs false
set_option linter.unusedVariables false
open Go
section
variable {g : Gh} {S : Sto} {w : World} {P : Program}
theorem add_off {ad : Addr} (h : ad.spot = none) (n : Nat) : ad.add n = ⟨ad.block, ad.off + n, none⟩ := by
  obtain ⟨b, o, s⟩ := ad
  simp only at h
  subst h
  exact Addr.add_mid b o n
/-! ### Slices of slices -/
def OptR (g : Gh) : Option PV → Option Value → Prop
  | none, none => True
  | some p, some c => VR g p c
  | _, _ => False
theorem idx_ok {d : Nat} {p : Option PV} {c : Option Value} (h : OptR g p c) {a : Nat} (hi : idx d p = some a) : (p = none ∧ c = none ∧ a = d) ∨ (∃ k i, c = some (.int k i) ∧ p ≠ none ∧ 0 ≤ i ∧ a = i.toNat) := by
  unfold idx at hi
  split at hi
  · cases c with
    | none => exact .inl ⟨rfl, rfl, (Option.some.inj hi).symm⟩
    | some c => exact h.elim
  · rename_i k i
    split at hi
    · rename_i h0
      cases c with
      | none => exact h.elim
      | some c =>
        obtain rfl := VR.int_inv h
        exact .inr ⟨k, i, rfl, (fun e => by cases e), h0, (Option.some.inj hi).symm⟩
    · cases hi
  · cases hi
theorem bounds_ok {lo hi mx : Option PV} {lo' hi' mx' : Option Value} (hlo : OptR g lo lo') (hhi : OptR g hi hi') (hmx : OptR g mx mx') {l cap a b m : Nat} (h1 : idx 0 lo = some a) (h2 : idx l hi = some b) (h3 : idx l mx = some m)
    (hab : a ≤ b) (hbm : b ≤ m) (hml : m ≤ l) (hlc : l ≤ cap) (hm : mx.isNone ∨ hi.isSome ∧ m = b) (isS : Bool) : (Instr.sliceBounds isS l cap lo' hi' mx').run P w = .ok (a, b, if mx.isNone then cap else m) w := by
  rcases idx_ok hlo h1 with ⟨rfl, rfl, rfl⟩ | ⟨k1, i1, rfl, n1, p1, rfl⟩ <;> rcases idx_ok hhi h2 with ⟨rfl, rfl, rfl⟩ | ⟨k2, i2, rfl, n2, p2, rfl⟩ <;> rcases idx_ok hmx h3 with ⟨rfl, rfl, rfl⟩ | ⟨k3, i3, rfl, n3, p3, rfl⟩
  · simp [Instr.sliceBounds]
  · rcases hm with hm | hm
    · exact absurd (by simpa using hm) n3
    · simp at hm
  · simp [Instr.sliceBounds, run_sliceBound w k2 i2 cap _ p2 (by omega)]
  · have e : mx.isNone = false := by cases mx <;> simp_all
    simp [Instr.sliceBounds, e, run_sliceBound w k3 i3 cap _ p3 (by omega), run_sliceBound w k2 i2 i3.toNat _ p2 (by omega)]
  · simp [Instr.sliceBounds, run_sliceBound w k1 i1 m _ p1 (by omega)]
  · rcases hm with hm | hm
    · exact absurd (by simpa using hm) n3
    · simp at hm
  · simp [Instr.sliceBounds, run_sliceBound w k2 i2 cap _ p2 (by omega), run_sliceBound w k1 i1 i2.toNat _ p1 (by omega)]
  · have e : mx.isNone = false := by cases mx <;> simp_all
    simp [Instr.sliceBounds, e, run_sliceBound w k3 i3 cap _ p3 (by omega), run_sliceBound w k2 i2 i3.toNat _ p2 (by omega), run_sliceBound w k1 i1 i2.toNat _ p1 (by omega)]
/-- What slcP makes, told apart. -/
theorem slcP_inv {sz : Nat} {v u : PV} {lo hi mx : Option PV} (h : slcP S sz v lo hi mx = some u) : ∃ l full a b m, idx 0 lo = some a ∧ idx l hi = some b ∧ idx l mx = some m ∧ a ≤ b ∧ b ≤ m ∧ m ≤ l ∧ (mx.isNone ∨ hi.isSome ∧ m = b) ∧
    ((∃ z, v = .nils z ∧ l = 0 ∧ u = .nils z) ∨ (∃ rows, v = .list sz rows full ∧ l = rows.length ∧ u = .list sz ((rows.drop a).take (b - a)) (fullOf mx full b l)) ∨
     (∃ n t off ver gen A, v = .sl n t off l ver gen full ∧ getArr S n t = some A ∧ A.gen = gen ∧ A.rows.length = ver ∧ A.sz = sz ∧ u = .sl n t (off + a) (b - a) ver gen (fullOf mx full b l))) := by
  have key : ∀ (l : Nat) (full : Bool) (k : Nat → Nat → Bool → PV), slcGo lo hi mx l full k = some u → ∃ a b m, idx 0 lo = some a ∧ idx l hi = some b ∧ idx l mx = some m ∧ a ≤ b ∧ b ≤ m ∧ m ≤ l ∧ (mx.isNone ∨ hi.isSome ∧ m = b) ∧ u = k a (b - a) (fullOf mx full b l) := by
    intro l full k h
    unfold slcGo at h
    split at h
    · rename_i a b m h1 h2 h3
      split at h
      · rename_i hc
        exact ⟨a, b, m, h1, h2, h3, hc.1, hc.2.1, hc.2.2.1, hc.2.2.2, (Option.some.inj h).symm⟩
      · cases h
    · cases h
  cases v <;> try cases h
  case nils z =>
    simp only [slcP] at h
    obtain ⟨a, b, m, h1, h2, h3, h4, h5, h6, h7, rfl⟩ := key 0 true _ h
    exact ⟨0, true, a, b, m, h1, h2, h3, h4, h5, h6, h7, .inl ⟨z, rfl, rfl, rfl⟩⟩
  case list z rows f =>
    simp only [slcP] at h
    split at h
    · rename_i hz
      subst hz
      obtain ⟨a, b, m, h1, h2, h3, h4, h5, h6, h7, rfl⟩ := key rows.length f _ h
      exact ⟨rows.length, f, a, b, m, h1, h2, h3, h4, h5, h6, h7, .inr (.inl ⟨rows, rfl, rfl, rfl⟩)⟩
    · cases h
  case sl n t off len ver gen f =>
    simp only [slcP] at h
    split at h
    · rename_i A hA
      split at h
      · rename_i hc
        obtain ⟨a, b, m, h1, h2, h3, h4, h5, h6, h7, rfl⟩ := key len f _ h
        exact ⟨len, f, a, b, m, h1, h2, h3, h4, h5, h6, h7, .inr (.inr ⟨n, t, off, ver, gen, A, rfl, hA, hc.1, hc.2.1, hc.2.2, rfl⟩)⟩
      · cases h
    · cases h
theorem slc_ok (hw : WR g S w) {t e : TypeId} (ht : P.underlying t = some (.slice e)) {v u : PV} {c : Value} {lo hi mx : Option PV} {lo' hi' mx' : Option Value} (hv : VR g v c) (hlo : OptR g lo lo') (hhi : OptR g hi hi') (hmx : OptR g mx mx')
    (he : ∃ i, P.info? e = some i) (h : slcP S (P.cellsOf e) v lo hi mx = some u) : ∃ c', (Instr.sliceAt t c lo' hi' mx').run P w = .ok c' w ∧ VR g u c' := by
  obtain ⟨ie, hie⟩ := he
  have hsz : ie.size = P.cellsOf e := (cellsOf_info hie).symm
  obtain ⟨l, full, a, b, m, h1, h2, h3, hab, hbm, hml, hm, hk⟩ := slcP_inv h
  have run : ∀ A cap, l ≤ cap → (Instr.sliceAt t (.slice A l cap) lo' hi' mx').run P w = .ok (.slice (if (if mx.isNone then cap else m) = a then A else A.map (·.add (a * P.cellsOf e))) (b - a) ((if mx.isNone then cap else m) - a)) w := by
    intro A cap hlc
    have hb := bounds_ok (P := P) (w := w) hlo hhi hmx h1 h2 h3 hab hbm hml hlc hm true
    have : (Instr.sliceAt t (.slice A l cap) lo' hi' mx').run P w = (Instr.slice t (.slice A l cap) lo' hi' mx').run P w := by
      simp [Instr.sliceAt, run_underlying ht]
    rw [this]
    simp only [Instr.slice, Sem.run_bind, run_underlying ht, Result.andThen_ok, hb]
    simp [sizeOf, typeInfo, hie, hsz]
  have hfull : ∀ cap, l ≤ cap → (full = true → cap = l) → (fullOf mx full b l) = true → (if mx.isNone then cap else m) - a = b - a := by
    intro cap hlc hf hh
    cases mx with
    | none =>
      simp [fullOf] at hh
      have := hf hh.1
      simp
      omega
    | some x =>
      simp only [Option.isNone_some] at hm ⊢
      rcases hm with hm | hm
      · cases hm
      · simp; omega
  have hge : ∀ cap, l ≤ cap → b ≤ (if mx.isNone then cap else m) := by intro cap hlc; split <;> omega
  rcases hk with ⟨z, rfl, rfl, rfl⟩ | ⟨rows, rfl, rfl, rfl⟩ | ⟨n, t', off, ver, gen, R, rfl, hR, hg1, hg2, hg3, rfl⟩
  · cases hv with
    | data _ _ hv =>
      cases hv with
      | nils _ A =>
        refine ⟨_, run A 0 (Nat.le_refl _), ?_⟩
        have e1 : b - a = 0 := by omega
        have e2 : (if mx.isNone then 0 else m) - a = 0 := by split <;> omega
        rw [e1, e2]
        exact .data _ _ (.nils _ _)
  · cases hv with
    | data _ _ hv =>
      cases hv with
      | list _ _ _ A cap cs hl hf hs hA hc hv =>
        refine ⟨_, run A cap hl, ?_⟩
        have hlen : ((rows.drop a).take (b - a)).length = b - a := by rw [List.length_take, List.length_drop]; omega
        have hget : ∀ i row, ((rows.drop a).take (b - a))[i]? = some row → rows[a + i]? = some row ∧ i < b - a := by
          intro i row hi
          rw [List.getElem?_take] at hi
          split at hi
          · rename_i hlt
            rw [List.getElem?_drop] at hi
            exact ⟨hi, hlt⟩
          · cases hi
        have hle := hge cap hl
        have key := FR.list (fz := g.fz) (P.cellsOf e) ((rows.drop a).take (b - a)) (fullOf mx full b rows.length)
          (if (if mx.isNone then cap else m) = a then A else A.map (·.add (a * P.cellsOf e))) ((if mx.isNone then cap else m) - a) (fun i j => cs (a + i) j) (by rw [hlen]; omega)
          (fun h => by rw [hlen]; exact hfull cap hl hf h) (fun r hr => hs r (List.mem_of_mem_drop (List.mem_of_mem_take hr))) ?_ ?_ (fun i j row v hi hj => hv (a + i) j row v (hget i row hi).1 hj)
        · rw [hlen] at key
          exact .data _ _ key
        · intro hne
          have hpos : 0 < b - a := by
            rcases Nat.eq_zero_or_pos (b - a) with h0 | h0
            · rw [h0] at hne; simp at hne
            · exact h0
          obtain ⟨ad, rfl, hsp⟩ := hA (fun e => by rw [e] at hlen; simp at hlen; omega)
          rw [if_neg (by omega)]
          exact ⟨_, rfl, by simp only [add_off hsp]⟩
        · intro ad i j row v had hi hj
          obtain ⟨hi', hlt⟩ := hget i row hi
          obtain ⟨ad0, rfl, hsp⟩ := hA (fun e => by rw [e] at hi'; simp at hi')
          rw [if_neg (by omega)] at had
          simp only [Option.map_some, Option.some.injEq] at had
          subst had
          rw [add_off hsp]
          have := hc ad0 (a + i) j row v rfl hi' hj
          rw [Nat.add_mul] at this
          rw [show ad0.off + a * P.cellsOf e + (i * P.cellsOf e + j) = ad0.off + (a * P.cellsOf e + i * P.cellsOf e + j) by omega]
          exact this
  · cases hv with
    | data _ _ hv => cases hv
    | sl _ _ _ _ _ _ _ ai _ ha hle h1c hs =>
      obtain ⟨R', hR', hr⟩ := hw.arr n t' ai ha
      obtain rfl : R = R' := Option.some.inj (hR.symm.trans hR')
      obtain ⟨A, cap, rfl, sa⟩ := hs (hr.gen.trans hg1) (hr.len.trans hg2)
      refine ⟨_, run A cap sa.le, .sl _ _ _ _ _ _ _ ai _ ha hle rfl fun _ _ => ⟨_, _, rfl, ?_⟩⟩
      have hle' := hge cap sa.le
      have e1 : ai.sz = P.cellsOf e := hr.sz.trans hg3
      refine ⟨by have := sa.fits; omega, by omega, ?_, ?_, ?_, ?_⟩
      · intro h0
        have h01 : off = 0 := by omega
        have h02 : a = 0 := by omega
        subst h02
        rw [← sa.zero h01]
        have e0 : A.map (·.add (0 * P.cellsOf e)) = A := by cases A <;> simp [Addr.add]
        rw [e0]
        simp
      · intro hp
        obtain ⟨ad, q1, q2, q3⟩ := sa.pos (by omega)
        refine ⟨ad, q1, q2, ?_⟩
        rw [if_neg (by omega), q3]
        simp only [Option.map_some]
        rw [add_off rfl, ← e1, Nat.add_mul, Nat.add_assoc]
      · exact fun hh => hfull cap sa.le sa.whole hh
      · intro h0 hl hh
        have h01 : off = 0 := by omega
        have h02 : a = 0 := by omega
        subst h02
        have hfit := sa.fits
        cases mx with
        | some x => simp [fullOf] at hh
        | none =>
          simp only [Option.isNone_none, if_true, Nat.sub_zero, fullOf] at *
          have hbl : b = l := by omega
          simp only [hbl, decide_true, Bool.and_true] at hh
          exact sa.open_ h01 (by omega) hh
end
end Go.Proofs.Ytebflncfgjnkkaa.M
