/- THE ABSTRACT MACHINE, seventeenth part: stores. -/
import Derived.Test.YtebflncfgjnkkaaMa16
namespace Go.Proofs.Ytebflncfgjnkkaa.M
set_option linter.unusedSimpArgs false
set_option linter.unusedVariables false
open Go
section
variable {g g' : Gh} {S S' : Sto} {w w' : World} {P : Program}
mutual
theorem dn_up : ∀ (v u : PV), v.dn = some u → u.up = v
  | .bool _, u, h | .int _ _, u, h | .str _, u, h | .nils _, u, h | .list _ _ _, u, h | .rowp _ _, u, h | .nili, u, h | .undef, u, h | .junk, u, h => by simp only [PV.dn, Option.some.injEq] at h; subst h; rfl
  | .agg vs, u, h => by
    simp only [PV.dn, Option.map_eq_some_iff] at h
    obtain ⟨us, hus, rfl⟩ := h
    simp [PV.up, dnL_up vs us hus]
  | .tup vs, u, h => by
    simp only [PV.dn, Option.map_eq_some_iff] at h
    obtain ⟨us, hus, rfl⟩ := h
    simp [PV.up, dnL_up vs us hus]
  | .ptr n t o, u, h => by
    cases n with
    | zero => simp [PV.dn] at h
    | succ n => simp only [PV.dn, Option.some.injEq] at h; subst h; rfl
  | .elem n a i o v g, u, h => by
    cases n with
    | zero => simp [PV.dn] at h
    | succ n => simp only [PV.dn, Option.some.injEq] at h; subst h; rfl
  | .sl n a o l v g f, u, h => by
    cases n with
    | zero => simp [PV.dn] at h
    | succ n => simp only [PV.dn, Option.some.injEq] at h; subst h; rfl
  | .func f caps, u, h => by
    simp only [PV.dn, Option.map_eq_some_iff] at h
    obtain ⟨us, hus, rfl⟩ := h
    simp [PV.up, dnL_up caps us hus]
  | .iface t v, u, h => by
    simp only [PV.dn, Option.map_eq_some_iff] at h
    obtain ⟨u', hu, rfl⟩ := h
    simp [PV.up, dn_up v u' hu]
theorem dnL_up : ∀ (vs us : List PV), PV.dnL vs = some us → PV.upL us = vs
  | [], us, h => by simp only [PV.dnL, Option.some.injEq] at h; subst h; rfl
  | v :: vs, us, h => by
    simp only [PV.dnL] at h
    cases hv : v.dn with
    | none => simp [hv] at h
    | some v' =>
      cases hvs : PV.dnL vs with
      | none => simp [hv, hvs] at h
      | some vs' =>
        simp only [hv, hvs, Option.some.injEq] at h
        subst h
        simp [PV.upL, dn_up v v' hv, dnL_up vs vs' hvs]
end
theorem dnN_up : ∀ (n : Nat) (v u : PV), PV.dnN n v = some u → PV.upN n u = v
  | 0, v, u, h => by simp only [PV.dnN, Option.some.injEq] at h; subst h; rfl
  | n + 1, v, u, h => by
    simp only [PV.dnN, Option.bind_eq_some_iff] at h
    obtain ⟨v', h1, h2⟩ := h
    rw [PV.upN, dnN_up n v' u h2, dn_up v v' h1]
theorem upN_sl (n m : Nat) (a : AK) (o l v g : Nat) (f : Bool) : PV.upN n (.sl m a o l v g f) = .sl (m + n) a o l v g f := by
  induction n with
  | zero => rfl
  | succ n ih => rw [PV.upN, ih]; rfl
theorem upN_list (n z : Nat) (rows : List (List PV)) (f : Bool) : PV.upN n (.list z rows f) = .list z rows f := by
  induction n with
  | zero => rfl
  | succ n ih => rw [PV.upN, ih]; rfl
/-- A box holds something else. -/
theorem WR.boxPut (hw : WR g S w) {n t b : Nat} (hb : g.b n t = some b) (hf : ∀ b o v, g.fz b o = some v → w'.cell? ⟨b, o, none⟩ = some v) (ho : ∀ k, k ≠ b → w'.heap[k]? = w.heap[k]?)
    {vs : List PV} {cs : Array Value} {e : TypeId} (h1 : getBox S' n t = some vs) (h2 : w'.heap[b]? = some (.cells cs e (0, 0))) (h3 : vs.length = cs.size) (h4 : ∀ i v, vs[i]? = some v → VR g (PV.upN n v) (cs.getD i undef))
    (hSb : ∀ m t', ¬ (m = n ∧ t' = t) → getBox S' m t' = getBox S m t') (hSa : ∀ m k, getArr S' m k = getArr S m k) : WR g S' w' := by
  have hother : ∀ x k, x ≠ .box n t → g.own x = some k → w'.heap[k]? = w.heap[k]? := fun x k hne hx => ho k (fun e => by subst e; exact hne (hw.inj x (.box n t) k hx hb))
  refine ⟨hf, ?_, ?_, hw.inj⟩
  · intro m t' b' hb'
    by_cases e : m = n ∧ t' = t
    · obtain ⟨rfl, rfl⟩ := e
      rw [hb] at hb'
      obtain rfl := Option.some.inj hb'
      obtain ⟨_, _, _, _, _, _, _, q⟩ := hw.box m t' b hb
      exact ⟨vs, cs, _, h1, h2, h3, h4, q⟩
    · obtain ⟨us, cs', e', q1, q2, q3⟩ := hw.box m t' b' hb'
      exact ⟨us, cs', e', (hSb m t' e).trans q1, (hother (.box m t') b' (by simpa using e) hb').trans q2, q3⟩
  · intro m k ai ha
    obtain ⟨A, q1, hr⟩ := hw.arr m k ai ha
    refine ⟨A, (hSa m k).trans q1, ?_⟩
    obtain ⟨us, c1, c2⟩ := hr.cells
    refine ⟨hr.sz, hr.len, hr.gen, hr.each, hr.cap, hr.addr, ⟨us, c1, fun ad i j row v had hi hj => ?_⟩, fun b' hb' => ?_, hr.free⟩
    · obtain ⟨h4, h5⟩ := c2 ad i j row v had hi hj
      refine ⟨?_, h5⟩
      cases hfr : A.frz with
      | true => exact hf _ _ _ (h5 hfr)
      | false =>
        cases hbk : ai.blk with
        | none =>
          rcases (hr.free hbk).2 with h | h
          · rw [hfr] at h; cases h
          · rw [h] at hi; simp at hi
        | some b' =>
          have hA := (hr.own b' hbk).1
          rw [had] at hA
          obtain rfl := Option.some.inj hA
          have := hother (.arr m k) b' (by simp) (by simp [Gh.own, ha, hbk])
          unfold World.cell? at h4 ⊢
          rw [this]
          exact h4
    · obtain ⟨q2, ⟨cells, elem, q3, q4⟩, q5⟩ := hr.own b' hb'
      exact ⟨q2, ⟨cells, elem, (hother (.arr m k) b' (by simp) (by simp [Gh.own, ha, hb'])).trans q3, q4⟩, q5⟩
theorem getBox_set (S : Sto) (n t : Nat) (A : List PV) (m t' : Nat) : getBox (setBox S n t A) m t' = if m = n ∧ t' = t ∧ n < S.length then some A else getBox S m t' := by
  induction S generalizing n m with
  | nil => cases n <;> cases m <;> simp [setBox, getBox]
  | cons f S ih =>
    cases n <;> cases m <;> simp [setBox, getBox, upd, ih]
theorem getArr_setBox (S : Sto) (n t : Nat) (A : List PV) (m : Nat) (k : AK) : getArr (setBox S n t A) m k = getArr S m k := by
  induction S generalizing n m with
  | nil => cases n <;> cases m <;> simp [setBox, getArr]
  | cons f S ih =>
    cases n <;> cases m <;> simp [setBox, getArr, ih]
theorem setBox_length (S : Sto) (n t : Nat) (A : List PV) : (setBox S n t A).length = S.length := by
  induction S generalizing n with
  | nil => cases n <;> simp [setBox]
  | cons f S ih => cases n <;> simp [setBox, ih]
theorem stCell_ok (hw : WR g S w) {n t o : Nat} {v u : PV} {c : Value} (hn : n < S.length) (hbx : ∃ b, g.b n t = some b) (h : VR g v c) (hs : stCell S n t o v = some (u, S')) :
    ∃ g', WR g' S' w ∧ Ext g g' ∧ Tr g w g' w ∧ VR g' (PV.upN n u) c ∧ S'.length = S.length ∧ ∀ m t', getBox S' m t' = getBox S m t' := by
  unfold stCell at hs
  split at hs
  · rename_i z
    cases hs
    cases h with | data _ _ h => cases h with | nils _ A =>
    let gen := match getArr S n (.cell t o) with | some A => A.gen + 1 | none => 0
    obtain ⟨g', w1, x1, t1, a1⟩ := aliasRow hw (n := n) (k := .cell t o) (A := ⟨z, [], false, gen⟩) (a := A) (cap := 0) (cs := fun _ _ => undef) rfl (fun r hr => by cases hr) (fun h => absurd rfl h) (fun _ i _ _ _ _ h => by simp at h) (fun i _ _ _ h => by simp at h) (.inr rfl) hn (fun ai0 h0 => by
      obtain ⟨A0, q1, q2⟩ := hw.arr n _ ai0 h0
      left
      simp only [gen, q1]
      rw [q2.gen]
      exact Nat.lt_succ_self _) (fun t' i e hb => by
        cases e
        obtain ⟨b, h⟩ := hbx
        rw [hb.1] at h
        cases h)
    refine ⟨g', w1, x1, t1, ?_, setArr_length _ _ _ _, fun m t' => getBox_setArr _ _ _ _ _ _⟩
    rw [upN_sl, Nat.zero_add]
    exact .sl _ _ _ _ _ _ _ _ _ a1 (.inr ⟨rfl, Nat.le_refl _⟩) rfl (fun _ _ => ⟨A, 0, rfl, ⟨Nat.le_refl _, Nat.le_refl _, (fun _ => rfl), (fun h => absurd h (Nat.lt_irrefl _)), (fun h => by cases h), (fun _ _ _ => rfl)⟩⟩)
  · rename_i z rows f
    cases hs
    refine ⟨g, hw, Ext.refl _, Tr.refl _ _, ?_, rfl, fun _ _ => rfl⟩
    rw [upN_list]
    cases h with | data _ _ h => cases h with | list _ _ _ A cap cs hl hf hs hA hc hv =>
    exact .data _ _ (.list z rows false A cap cs hl (by simp) hs hA hc hv)
  · rename_i m a off len ver gen f
    split at hs
    · rename_i e
      obtain ⟨rfl, rfl, rfl, rfl, rfl⟩ := e
      cases hs
      exact ⟨g, hw, Ext.refl _, Tr.refl _ _, by rw [upN_sl, Nat.zero_add]; exact h, rfl, fun _ _ => rfl⟩
    · obtain ⟨g', w1, x1, t1, r1⟩ := hand1_ok hw h hs
      have : ∃ z rows f, u = .list z rows f ∧ ∀ m t', getBox S' m t' = getBox S m t' := by
        simp only [hand1] at hs
        split at hs
        · split at hs
          · cases hs
            exact ⟨_, _, _, rfl, fun m t' => getBox_setArr _ _ _ _ _ _⟩
          · cases hs
        · cases hs
      obtain ⟨z, rows, f, rfl, hbx⟩ := this
      exact ⟨g', w1, x1, t1, by rw [upN_list]; exact r1, hand1_length hs, hbx⟩
  · rw [Option.map_eq_some_iff] at hs
    obtain ⟨u', hu, e⟩ := hs
    cases e
    exact ⟨g, hw, Ext.refl _, Tr.refl _ _, by rw [dnN_up n v _ hu]; exact h, rfl, fun _ _ => rfl⟩
theorem stCells_ok {n t : Nat} : ∀ (vs us : List PV) (o : Nat) (S S' : Sto) (g : Gh) (f : Nat → Value), WR g S w → n < S.length → (∃ b, g.b n t = some b) → (∀ i v, vs[i]? = some v → VR g v (f i)) → stCells S n t o vs = some (us, S') →
    ∃ g', WR g' S' w ∧ Ext g g' ∧ Tr g w g' w ∧ us.length = vs.length ∧ (∀ i v, us[i]? = some v → VR g' (PV.upN n v) (f i)) ∧ S'.length = S.length ∧ ∀ m t', getBox S' m t' = getBox S m t'
  | [], us, o, S, S', g, f, hw, hn, hbx, h, hh => by
    simp only [stCells, Option.some.injEq, Prod.mk.injEq] at hh
    obtain ⟨rfl, rfl⟩ := hh
    exact ⟨g, hw, Ext.refl _, Tr.refl _ _, rfl, (fun i v h => by simp at h), rfl, fun _ _ => rfl⟩
  | v :: vs, us, o, S, S', g, f, hw, hn, hbx, h, hh => by
    simp only [stCells] at hh
    split at hh
    · rename_i v1 S1 h1
      split at hh
      · rename_i vs2 S2 h2
        simp only [Option.some.injEq, Prod.mk.injEq] at hh
        obtain ⟨rfl, rfl⟩ := hh
        obtain ⟨g1, w1, x1, t1, r1, l1, b1⟩ := stCell_ok hw hn hbx (h 0 v rfl) h1
        obtain ⟨g2, w2, x2, t2, e2, r2, l2, b2⟩ := stCells_ok vs vs2 (o + 1) S1 S2 g1 (fun i => f (i + 1)) w1 (by omega) (hbx.imp fun b h => x1.b _ _ _ h) (fun i v hi => (h (i + 1) v (by simpa using hi)).mono x1) h2
        refine ⟨g2, w2, x1.trans x2, t1.trans t2, by simp [e2], fun i v hi => ?_, l2.trans l1, fun m t' => (b2 m t').trans (b1 m t')⟩
        cases i with
        | zero => simp at hi; subst hi; exact r1.mono x2
        | succ i => simp at hi; exact r2 i v hi
      · cases hh
    · cases hh
theorem cells_all_one {v : PV} {c : Value} (h : VR g v c) (h1 : v.cells.all PV.one = true) : ∀ u ∈ c.cells.toList, u.oneCell' = true := by
  intro u hu
  have hc := h.cells_ (cells_one h1)
  obtain ⟨i, hi⟩ := List.getElem?_of_mem hu
  have hlt : i < c.cells.size := by simpa using (List.getElem?_eq_some_iff.1 hi).1
  have hlt' : i < v.cells.length := by rw [hc.1]; exact hlt
  have hv := hc.2 i _ (List.getElem?_eq_getElem hlt')
  have : c.cells.getD i Go.undef = u := by
    rw [Array.getD_eq_getD_getElem?]
    have : c.cells[i]? = some u := by simpa using hi
    rw [this]
    rfl
  rw [this] at hv
  exact hv.oneCell (List.all_eq_true.1 h1 _ (List.getElem_mem hlt'))
/-- A store. -/
theorem store_ok (hw : WR g S w) {ty : TypeId} {k : Option Nat} (hk : kOf P ty = some k) {p v : PV} {a c : Value} (hp : VR g p a) (hv : VR g v c) (h : storeP S (k.getD 1) p v = some S') :
    ∃ w' g', (Instr.storeAt ty a c).run P w = .ok () w' ∧ WR g' S' w' ∧ Ext g g' ∧ Tr g w g' w' ∧ S'.length = S.length := by
  obtain ⟨it, hit, hsz⟩ : ∃ it, P.info? ty = some it ∧ it.size = k.getD 1 := by
    cases k with
    | none =>
      obtain ⟨d, hu, _, h1⟩ := kOf_none hk
      obtain ⟨i, hi⟩ := info_of hu
      exact ⟨i, hi, by rw [← cellsOf_info hi]; exact h1⟩
    | some k =>
      obtain ⟨d, hu, h1⟩ := kOf_some hk
      obtain ⟨i, hi⟩ := info_of hu
      exact ⟨i, hi, by rw [← cellsOf_info hi]; exact h1⟩
  unfold storeP at h
  split at h
  · rename_i hc
    obtain ⟨hlen, hone⟩ := hc
    have hcells := hv.cells_ (cells_one hone)
    have h1c := cells_all_one hv hone
    have hcsz : c.cells.size = k.getD 1 := by rw [← hcells.1]; exact hlen
    split at h
    · rename_i n t o
      obtain ⟨b, hb, rfl⟩ := hp.ptr_inv
      split at h
      · rename_i cs0 hcs0
        split at h
        · rename_i hfit
          split at h
          · rename_i us S1 hst
            obtain rfl := Option.some.inj h
            have hn := getBox_lt hcs0
            obtain ⟨g1, w1, x1, t1, e1, r1, l1, b1⟩ := stCells_ok v.cells us o S S1 g (fun i => c.cells.getD i Go.undef) hw hn ⟨_, hb⟩ hcells.2 hst
            have hb1 := x1.b _ _ _ hb
            obtain ⟨vs, cs, elem, q1, q2, q3, q4, q5⟩ := w1.box n t b hb1
            have hvs : vs = cs0 := by
              have := (b1 n t).symm.trans q1
              rw [hcs0] at this
              exact (Option.some.inj this).symm
            subst hvs
            have hth : w.there b o c.cells.size := there_of q2 (by omega)
            refine ⟨_, g1, store_run hit (by omega) hth h1c, ?_, x1, t1.trans ?_, ?_⟩
            · obtain ⟨cs', s1, s2, s3⟩ := setCells_heap b c.cells.toList o w cs elem _ q2
              refine w1.boxPut hb1 (vs := setAt vs o us) (cs := cs') ?_ (fun k hk => setCells_other b _ o w k hk) (by rw [getBox_set, if_pos ⟨rfl, rfl, by omega⟩]) s1 (by rw [setAt_length, s2]; exact q3) ?_ (fun m t' hne => by rw [getBox_set, if_neg (fun e => hne ⟨e.1, e.2.1⟩)]) (fun m k => getArr_setBox _ _ _ _ _ _)
              · intro b' o' v' hf
                have hne : b' ≠ b := fun e => by subst e; rw [q5] at hf; cases hf
                have := w1.fz b' o' v' hf
                unfold World.cell? at this ⊢
                rw [setCells_other b _ o w b' hne]
                exact this
              · intro i v' hi
                rw [setAt_get us vs o i (by omega)] at hi
                rw [Array.getD_eq_getD_getElem?, s3 i]
                split at hi
                · rename_i hin
                  rw [if_pos ⟨hin.1, by simp; omega, by omega⟩]
                  have := r1 (i - o) v' hi
                  rw [Array.getD_eq_getD_getElem?] at this
                  simpa using this
                · rename_i hin
                  rw [if_neg (by simp; omega)]
                  have := q4 i v' hi
                  rwa [Array.getD_eq_getD_getElem?] at this
            · obtain ⟨r1, r2, r3, r4⟩ := setCells_rest b c.cells.toList o w
              refine ⟨r1, r2, r3, by rw [r4]; exact Nat.le_refl _, fun _ _ _ h => h, fun k _ hne => setCells_other b _ o w k (fun e => by subst e; exact hne (.box n t) hb1), fun x k hx => .inl hx, Ext.refl _⟩
            · rw [setBox_length, l1]
          · cases h
        · cases h
      · cases h
    · rename_i n a i o ver gen
      split at h
      · rename_i us S1 hst
        split at h
        · rename_i R hR
          split at h
          · rename_i hcur
            split at h
            · rename_i row hrow
              split at h
              · rename_i hfit
                obtain rfl := Option.some.inj h
                obtain ⟨g1, w1, x1, t1, e1, r1⟩ := handL_ok v.cells us S S1 g (fun i => c.cells.getD i Go.undef) hw hcells.2 hst
                have hp1 := hp.mono x1
                cases hp1 with
                | data _ _ h => cases h
                | elem _ _ _ _ _ _ ai _ hai hle h1c' hs =>
                  obtain ⟨R', hR', hr⟩ := w1.arr n a ai hai
                  obtain rfl : R = R' := Option.some.inj (hR.symm.trans hR')
                  obtain ⟨ad, z1, z2, rfl⟩ := hs (hr.gen.trans hcur.1) (hr.len.trans hcur.2.1)
                  have hblk : ∃ b, ai.blk = some b := by
                    cases hb : ai.blk with
                    | some b => exact ⟨b, rfl⟩
                    | none =>
                      rcases (hr.free hb).2 with h | h
                      · rw [hcur.2.2.1] at h; cases h
                      · rw [h] at hrow; simp at hrow
                  obtain ⟨b, hb⟩ := hblk
                  obtain ⟨hA, ⟨cells, elem, hc1, hc2⟩, hc3, hc4⟩ := hr.own b hb
                  rw [z1] at hA
                  obtain rfl := Option.some.inj hA
                  simp only [Nat.zero_add]
                  have hi : i < R.rows.length := (List.getElem?_eq_some_iff.1 hrow).1
                  have hrl : row.length = R.sz := hr.each row (List.mem_of_getElem? hrow)
                  have hmul : (i + 1) * R.sz ≤ ai.cap * R.sz := Nat.mul_le_mul_right _ (by have := hr.cap; rw [hr.len] at this; omega)
                  rw [Nat.add_mul, Nat.one_mul] at hmul
                  have hth : w.there b (i * ai.sz + o) c.cells.size := there_of hc1 (by rw [hr.sz, hc2]; omega)
                  obtain ⟨cs', s1, s2, s3⟩ := setCells_heap b c.cells.toList (i * ai.sz + o) w cells elem _ hc1
                  obtain ⟨cs, c1, c2⟩ := hr.cells
                  have hus : ∀ j u, us[j]? = some u → FR g1.fz u (c.cells.getD j Go.undef) := fun j u hj => (r1 j u hj).pure_FR (List.all_eq_true.1 hcur.2.2.2 u (List.mem_of_getElem? hj))
                  have hown1 : g1.own (.arr n a) = some b := by simp [Gh.own, hai, hb]
                  have hfz : ∀ b' o' v', g1.fz b' o' = some v' → (w.setCells b (i * ai.sz + o) c.cells.toList).cell? ⟨b', o', none⟩ = some v' := by
                    intro b' o' v' hf
                    have hne : b' ≠ b := fun e => by subst e; rw [hc4 hcur.2.2.1] at hf; cases hf
                    have := w1.fz b' o' v' hf
                    unfold World.cell? at this ⊢
                    rw [setCells_other b _ _ w b' hne]
                    exact this
                  let A' : Arr := { R with rows := R.rows.set i (setAt row o us) }
                  let cs2 : Nat → Nat → Value := fun i' j => if i' = i ∧ o ≤ j ∧ j < o + us.length then c.cells.getD (j - o) Go.undef else cs i' j
                  have hget : ∀ i' row' j v', A'.rows[i']? = some row' → row'[j]? = some v' → (i' = i ∧ o ≤ j ∧ j < o + us.length ∧ us[j - o]? = some v') ∨ (¬ (i' = i ∧ o ≤ j ∧ j < o + us.length) ∧ ∃ row0, R.rows[i']? = some row0 ∧ row0[j]? = some v') := by
                    intro i' row' j v' h1 h2
                    simp only [A'] at h1
                    by_cases ei : i' = i
                    · subst ei
                      rw [List.getElem?_set_self hi] at h1
                      obtain rfl := Option.some.inj h1
                      rw [setAt_get us row o j (by omega)] at h2
                      split at h2
                      · rename_i hin
                        exact .inl ⟨rfl, hin.1, hin.2, h2⟩
                      · rename_i hin
                        exact .inr ⟨fun h => hin h.2, row, hrow, h2⟩
                    · rw [List.getElem?_set_ne (Ne.symm ei)] at h1
                      exact .inr ⟨fun h => ei h.1, row', h1, h2⟩
                  have hrel : ArrRel ⟨g1.b, g1.a, g1.fz⟩ (w.setCells b (i * ai.sz + o) c.cells.toList) A' ai := by
                    refine ⟨hr.sz, by simp [A', hr.len], hr.gen, fun r hr' => ?_, hr.cap, fun _ => ⟨_, z1, rfl⟩, ⟨cs2, fun i' j row' v' h1 h2 => ?_, fun ad' i' j row' v' had h1 h2 => ⟨?_, fun hf => ?_⟩⟩, fun b' hb' => ?_, fun hb' => by rw [hb] at hb'; cases hb'⟩
                    · rcases List.mem_or_eq_of_mem_set hr' with h | h
                      · exact hr.each r h
                      · rw [h, setAt_length]; exact hrl
                    · rcases hget i' row' j v' h1 h2 with ⟨e1', e2', e3', e4'⟩ | ⟨hne, row0, q1, q2⟩
                      · simp only [cs2]
                        rw [if_pos ⟨e1', e2', e3'⟩]
                        exact hus _ _ e4'
                      · simp only [cs2]
                        rw [if_neg hne]
                        exact c1 i' j row0 v' q1 q2
                    · rw [z1] at had
                      obtain rfl := Option.some.inj had
                      have hcell : (w.setCells b (i * ai.sz + o) c.cells.toList).cell? ⟨b, 0 + (i' * R.sz + j), none⟩ = cs'[i' * R.sz + j]? := by simp [World.cell?, s1]
                      simp only [A']
                      rw [hcell, s3]
                      rcases hget i' row' j v' h1 h2 with ⟨e1', e2', e3', e4'⟩ | ⟨hne, row0, q1, q2⟩
                      · subst e1'
                        rw [if_pos ⟨by rw [hr.sz]; omega, by simp [hr.sz]; omega, by rw [hc2]; omega⟩]
                        simp only [cs2]
                        rw [if_pos (by first | exact ⟨rfl, e2', e3'⟩ | exact ⟨trivial, e2', e3'⟩)]
                        rw [show i' * R.sz + j - (i' * ai.sz + o) = j - o by rw [hr.sz]; omega]
                        rw [Array.getD_eq_getD_getElem?]
                        have : j - o < c.cells.size := by have := (List.getElem?_eq_some_iff.1 e4').1; omega
                        simp [this]
                      · simp only [cs2]
                        rw [if_neg hne]
                        have q3 := (c2 _ i' j row0 v' z1 q1 q2).1
                        simp only [World.cell?, hc1] at q3
                        have hj : j < R.sz := by rw [← hr.each row0 (List.mem_of_getElem? q1)]; exact (List.getElem?_eq_some_iff.1 q2).1
                        rw [if_neg]
                        · simpa using q3
                        · intro hh
                          simp only [Array.length_toList] at hh
                          rw [hr.sz] at hh
                          apply hne
                          have hii : i' = i := by
                            rcases Nat.lt_trichotomy i' i with h | h | h
                            · have : (i' + 1) * R.sz ≤ i * R.sz := Nat.mul_le_mul_right _ h
                              rw [Nat.add_mul, Nat.one_mul] at this
                              omega
                            · exact h
                            · have : (i + 1) * R.sz ≤ i' * R.sz := Nat.mul_le_mul_right _ h
                              rw [Nat.add_mul, Nat.one_mul] at this
                              omega
                          subst hii
                          exact ⟨rfl, by omega, by omega⟩
                    · simp only [A'] at hf; rw [hcur.2.2.1] at hf; cases hf
                    · rw [hb] at hb'
                      obtain rfl := Option.some.inj hb'
                      exact ⟨z1, ⟨cs', elem, s1, by rw [s2]; exact hc2⟩, hc3, fun _ => hc4 hcur.2.2.1⟩
                  have hn := getArr_lt hR
                  obtain ⟨p1, p2⟩ := w1.put (w' := w.setCells b (i * ai.sz + o) c.cells.toList) (S' := setArr S1 n a A') (n := n) (k := a) (φ := g1.fz) hfz (fun _ _ _ h => h) (fun x b' hne hx => ⟨setCells_other b _ _ w b' (fun e => by subst e; exact hne (w1.inj x (.arr n a) _ hx hown1)), fun _ => rfl⟩) hrel (fun b' hb' x hne hx => by
                    rw [hb] at hb'
                    obtain rfl := Option.some.inj hb'
                    exact hne (w1.inj x (.arr n a) _ hx hown1)) (fun ai0 h0 => by rw [hai] at h0; cases h0; exact AIle.refl _) (nm_some hai) (by rw [getArr_set, if_pos ⟨rfl, rfl, hn⟩]) (fun m t b _ => getBox_setArr _ _ _ _ _ _) (fun m j _ hne _ => by rw [getArr_set, if_neg (fun e => hne ⟨e.1, e.2.1⟩)])
                  obtain ⟨r1', r2', r3', r4'⟩ := setCells_rest b c.cells.toList (i * ai.sz + o) w
                  exact ⟨_, _, store_run hit (by omega) hth h1c, p1, x1.trans p2, t1.trans (tr_put p2 r1' r2' r3' (by rw [r4']; exact Nat.le_refl _) (fun j _ hne => setCells_other b _ _ w j (fun e => by subst e; exact hne _ hown1)) (fun b' hb' => .inl (by rw [hb] at hb'; obtain rfl := Option.some.inj hb'; exact hown1))), by rw [setArr_length, handL_length _ _ _ _ hst]⟩
              · cases h
            · cases h
          · cases h
        · cases h
      · cases h
    · cases h
  · cases h
end
end Go.Proofs.Ytebflncfgjnkkaa.M
