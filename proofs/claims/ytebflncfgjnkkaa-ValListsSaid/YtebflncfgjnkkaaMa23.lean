/- THE ABSTRACT MACHINE, twenty-third part: an operation, but a call: it does what the machine does. -/
import Derived.Test.YtebflncfgjnkkaaMa22
import Derived.WalkSmall
namespace Go.Proofs.Ytebflncfgjnkkaa.M
set_option linter.unusedSimpArgs false
set_option linter.unusedVariables false
open Go
section
variable {g g' : Gh} {S S' : Sto} {w w' : World} {P : Program}
/-- What the machine says of an operation. -/
def OpRes (P : Program) (o : Oper) (kd : Bool) (g : Gh) (ac : Ac) (w : World) (a : Act) : OO → Prop
  | .ok ac' => ∀ (K : Act → World → Prop) (Q : Exit → Act → World → Prop), (∀ c w' g', Step kd o.dst g ac w ac' c w' g' → K (a.put o.dst c) w') → o.wp P a w K Q
  | .pan v S => ∀ (K : Act → World → Prop) (Q : Exit → Act → World → Prop), (∀ c w' g', WR g' S w' → VR g' v c → Tr g w g' w' → S.length = ac.S.length → Q (.panic [{ v := c, recovered := false }]) a w') → o.wp P a w K Q
  | .bad => True
theorem exec_w {s : Sem Value} {c : Value} (h : s.run P w = .ok c w') : (do pure (Next.value (← s)) : Sem Next).run P w = .ok (.value c) w' := by simp [h]
theorem OpRes.value {o : Oper} {kd : Bool} {ac ac' : Ac} {a : Act} {c : Value} (hrun : (execOp a.eval o).run P w = .ok (.value c) w') (hst : Step kd o.dst g ac w ac' c w' g') : OpRes P o kd g ac w a (.ok ac') := fun K Q h => by
  unfold Oper.wp
  rw [hrun]
  exact h c w' g' hst
theorem OpRes.skip {o : Oper} {kd : Bool} {ac ac' : Ac} {a : Act} (hrun : (execOp a.eval o).run P w = .ok .skip w') (hst : Step kd o.dst g ac w ac' Go.undef w' g') : OpRes P o kd g ac w a (.ok ac') := fun K Q h => by
  unfold Oper.wp
  rw [hrun]
  exact h _ w' g' hst
theorem put_step {kd : Bool} {d : Option Nat} {ac : Ac} {v : PV} {c : Value} (h1 : WR g' S' w') (hx : Ext g g') (ht : Tr g w g' w') (hv : VR g' v c) (hl : S'.length = ac.S.length) : Step kd d g ac w (({ ac with S := S' } : Ac).put d v) c w' g' := by
  cases d with
  | none => exact ⟨h1, ht, (fun t ht => by cases ht), fun t _ u hu => hu.mono hx, fun _ => ⟨hx.toExw, fun _ _ => rfl, fun t _ hb => hx.nam 0 t hb⟩, hl⟩
  | some d =>
    refine ⟨h1, ht, fun t ht => ?_, fun t ht u hu => ?_, fun _ => ⟨hx.toExw, fun t ht => ?_, fun t _ hb => hx.nam 0 t hb⟩, hl⟩
    · obtain rfl := Option.some.inj ht
      simp only [Ac.put, upd, if_true]
      exact hv
    · have : t ≠ d := fun e => ht (by rw [e])
      simp only [Ac.put, upd, if_neg this]
      exact hu.mono hx
    · have : t ≠ d := fun e => ht (by rw [e])
      simp only [Ac.put, upd, if_neg this]
theorem put_self {ac : Ac} {d : Option Nat} {v : PV} : (({ ac with S := ac.S } : Ac).put d v) = ac.put d v := rfl
/-- Cells that nobody owns are frozen. -/
theorem WR.fzMore (hw : WR g S w) {φ : Fz} (hφ : ∀ b o v, φ b o = some v → w.cell? ⟨b, o, none⟩ = some v) (hsub : ∀ b o v, g.fz b o = some v → φ b o = some v) (ho : ∀ x b, g.own x = some b → ∀ o, φ b o = g.fz b o) :
    WR ⟨g.b, g.a, φ⟩ S w ∧ Ext g ⟨g.b, g.a, φ⟩ := by
  have hx : Ext g ⟨g.b, g.a, φ⟩ := ⟨⟨fun _ _ _ h => h, fun _ _ ai h => ⟨ai, h, AIle.refl _⟩, hsub⟩, fun _ _ h => h⟩
  refine ⟨⟨hφ, ?_, ?_, hw.inj⟩, hx⟩
  · intro n t b hb
    obtain ⟨vs, cs, elem, h1, h2, h3, h4, h5⟩ := hw.box n t b hb
    exact ⟨vs, cs, elem, h1, h2, h3, fun i v hi => (h4 i v hi).mono hx, fun o => (ho (.box n t) b hb o).trans (h5 o)⟩
  · intro n k ai ha
    obtain ⟨A, h1, hr⟩ := hw.arr n k ai ha
    refine ⟨A, h1, ⟨hr.sz, hr.len, hr.gen, hr.each, hr.cap, hr.addr, ?_, ?_, hr.free⟩⟩
    · obtain ⟨cs, h2, h3⟩ := hr.cells
      exact ⟨cs, fun i j row v hi hj => (h2 i j row v hi hj).mono hsub, fun ad i j row v had hi hj => ⟨(h3 ad i j row v had hi hj).1, fun hf => hsub _ _ _ ((h3 ad i j row v had hi hj).2 hf)⟩⟩
    · intro b hb
      obtain ⟨h2, h3, h4, h5⟩ := hr.own b hb
      have hown := ho (.arr n k) b (by simp only [Gh.own]; rw [show g.a n k = some ai from ha]; exact hb)
      exact ⟨h2, h3, fun o hle => (hown o).trans (h4 o hle), fun hf o => (hown o).trans (h5 hf o)⟩
/-- A fresh block, all of it frozen. -/
theorem freshBlock (hw : WR g S w) (cells : Array Value) (e : TypeId) : ∃ g', WR g' S (w.alloc (.cells cells e)) ∧ Ext g g' ∧ Tr g w g' (w.alloc (.cells cells e)) ∧ ∀ (o : Nat) (v : Value), cells[o]? = some v → g'.fz w.heap.size o = some v := by
  have h0 := hw.alloc (.cells cells e)
  have hcell : ∀ o, (w.alloc (.cells cells e)).cell? ⟨w.heap.size, o, none⟩ = cells[o]? := by
    intro o
    unfold World.cell?
    rw [alloc_new]
    rfl
  obtain ⟨h1, h2⟩ := h0.fzMore (φ := fun b o => if b = w.heap.size then cells[o]? else g.fz b o) (fun b o v h => by
    split at h
    · rename_i e
      subst e
      rw [hcell]
      exact h
    · exact h0.fz b o v h) (fun b o v h => by
    rw [if_neg]
    · exact h
    · rintro rfl
      rw [hw.fz_new] at h
      cases h) (fun x b h o => by
    rw [if_neg]
    rintro rfl
    exact absurd (hw.own_lt h) (Nat.lt_irrefl _))
  refine ⟨_, h1, h2, ⟨rfl, rfl, rfl, by rw [alloc_size]; omega, h2.fz, fun k hk _ => alloc_heap w _ hk, fun x k h => .inl h, h2.pop_⟩, fun o v h => ?_⟩
  dsimp only
  rw [if_pos rfl]
  exact h
theorem getBox_new (d : Nat) (cs : List PV) (S : Sto) (n t : Nat) : getBox (newBox d cs S) n t = if n = 0 ∧ t = d ∧ 0 < S.length then some (initC d 0 cs) else getBox S n t := by
  cases S with
  | nil => cases n <;> simp [newBox, getBox]
  | cons f S => cases n <;> simp [newBox, getBox, upd]
theorem getArr_new_other (d : Nat) (cs : List PV) (S : Sto) (n : Nat) (k : AK) (h : n = 0 → ∀ j, k ≠ .cell d j) : getArr (newBox d cs S) n k = getArr S n k := by
  cases S with
  | nil => cases n <;> simp [newBox, getArr]
  | cons f S =>
    cases n with
    | succ n => simp [newBox, getArr]
    | zero => simp only [newBox, getArr]; exact initA_other d cs 0 f.arr k fun j _ => h rfl j
theorem getArr_new (d : Nat) (cs : List PV) (S : Sto) (hS : 0 < S.length) (j z : Nat) (h : cs[j]? = some (.nils z)) : getArr (newBox d cs S) 0 (.cell d j) = some ⟨z, [], false, 0⟩ := by
  cases S with
  | nil => exact absurd hS (Nat.lt_irrefl _)
  | cons f S =>
    simp only [newBox, getArr]
    have := initA_get d cs 0 f.arr j z h
    rwa [Nat.zero_add] at this
theorem newBox_length (d : Nat) (cs : List PV) (S : Sto) : (newBox d cs S).length = S.length := by cases S <;> rfl
/-- A variable, when what slot d named is forgotten. -/
theorem box_kill {ac : Ac} (hw : WR g ac.S w) (hne : 0 < ac.S.length) {kd : Bool} {d : Nat} {vs : List PV} {cs : Array Value} (hc : Cells (g.kill d) vs cs) (e : TypeId) (hk : kd = true) :
    ∃ g', Step kd (some d) g ac w ⟨upd (killE d ac.e) d (.ptr 0 d 0), newBox d vs (killS d ac.S)⟩ (.pointer (some ⟨w.heap.size, 0, none⟩)) (w.alloc (.cells cs e)) g' := by
  subst hk
  have hl : 0 < (killS d ac.S).length := by rw [killS_length]; exact hne
  obtain ⟨g', w1, x1, t1, b1, n1⟩ := mkBox (S' := newBox d vs (killS d ac.S)) (hw.kill d) (killed_b g d) (fun i => killed_a g rfl) hc e (by rw [getBox_new, if_pos ⟨rfl, rfl, hl⟩]) (fun j z h => getArr_new d vs _ hl j z h) (fun m t b hb => by
    rw [getBox_new, if_neg]
    rintro ⟨rfl, rfl, _⟩
    rw [killed_b] at hb
    cases hb) (fun m k ai ha => by
    apply getArr_new_other
    rintro rfl j rfl
    have := killed_a g (d := d) (k := .cell d j) rfl
    rw [this] at ha
    cases ha)
  refine ⟨g', w1, (Tr.kill g w d).trans t1, fun t ht => ?_, fun t ht u hu => ?_, fun h => (by cases h), by rw [newBox_length, killS_length]⟩
  · obtain rfl := Option.some.inj ht
    simp only [upd, if_true]
    exact .ptr _ _ _ _ b1
  · have : t ≠ d := fun e => ht (by rw [e])
    simp only [upd, if_neg this, killE]
    exact (hu.kill d).monow x1
theorem Cells.kill {vs : List PV} {cs : Array Value} (h : Cells g vs cs) (d : Nat) : Cells (g.kill d) (PV.killL d vs) cs := by
  refine ⟨by rw [killL_length]; exact h.1, fun i v hi => ?_⟩
  rw [killL_get, Option.map_eq_some_iff] at hi
  obtain ⟨u, hu, rfl⟩ := hi
  exact (h.2 i u hu).kill d
theorem run_alloc_ {t : TypeId} {i : TypeInfo} {v : Value} (hi : P.info? t = some i) (hz : i.zero = some v) (o : Value) (w : World) : (Instr.alloc t true o).run P w = .ok (.pointer (some ⟨w.heap.size, 0, none⟩)) (w.alloc (.cells v.cells t)) := by
  simp [Instr.alloc, zeroValue, typeInfo, hi, hz, newVar, newRow]
theorem run_box_ (t : TypeId) (v : Value) (w : World) : (Instr.box t v).run P w = .ok (.pointer (some ⟨w.heap.size, 0, none⟩)) (w.alloc (.cells v.cells t)) := by
  simp [Instr.box, newVar, newRow]
theorem run_buildNone {t e : TypeId} {ie : TypeInfo} (ht : P.underlying t = some (.slice e)) (hi : P.info? e = some ie) (w : World) : (Instr.buildSlice t 0 #[]).run P w = .ok (.slice (some ⟨w.heap.size, 0, none⟩) 0 0) (w.alloc (.cells #[] e)) := by
  simp [Instr.buildSlice, run_underlying ht, Go.sizeOf, typeInfo, hi, Instr.fill, newRow]
  have : (Array.range 0) = (#[] : Array Nat) := by apply Array.ext'; simp
  rw [this]
  simp
theorem rows_init {e : TypeId} {zs : List PV} {v : Value} (n : Nat) (hz : zs.length = P.cellsOf e) (h1 : v.cells.size = P.cellsOf e) (h : ∀ j p, zs[j]? = some p → FR g.fz p (v.cells.getD j Go.undef)) : Rows g (P.cellsOf e) (List.replicate n zs) ((Array.range (n * P.cellsOf e)).map (v.cells[· % v.cells.size]!)) := by
  refine ⟨by simp, fun r hr => ?_, fun i j row p hi hj => ?_⟩
  · rw [List.eq_of_mem_replicate hr]; exact hz
  · obtain rfl := List.eq_of_mem_replicate (List.mem_of_getElem? hi)
    have hj' : j < P.cellsOf e := by rw [← hz]; exact (List.getElem?_eq_some_iff.1 hj).1
    have hi' : i < n := by have := (List.getElem?_eq_some_iff.1 hi).1; simpa using this
    have hlt := cell_pos hi' hj'
    have e1 : (i * P.cellsOf e + j) % v.cells.size = j := by rw [h1, Nat.mul_comm, Nat.mul_add_mod, Nat.mod_eq_of_lt hj']
    have : ((Array.range (n * P.cellsOf e)).map (v.cells[· % v.cells.size]!)).getD (i * P.cellsOf e + j) Go.undef = v.cells.getD j Go.undef := by
      rw [Array.getD_eq_getD_getElem?]
      simp only [Array.getElem?_map, Array.getElem?_range, if_pos hlt, Option.map_some, Option.getD_some, e1]
      rw [Array.getD_eq_getD_getElem?, getElem!_pos v.cells j (by omega), Array.getElem?_eq_getElem (by omega : j < v.cells.size)]
      rfl
    rw [this]
    exact h j p hj
theorem bslice_ok {t e : TypeId} {n : Nat} {parts : Array (Nat × Operand)} {z : List PV} {ps : List (Nat × X)} (ht : P.underlying t = some (.slice e)) (hsm : n * P.cellsOf e ≤ 2 ^ 24) (h0 : P.cellsOf e ≠ 0) (hz : cZ P e = some z) (hps : cRows P e parts.toList = some ps) (hn : n ≠ 0)
    {ac : Ac} {a : Act} (hr : Rel g ac a w) {kd : Bool} {d : Option Nat} {rows : List (List PV)} (h : rowsP ac.S ac.ev (P.cellsOf e) (List.replicate n z) ps = some (rows, S')) :
    ∃ c w' g', (Instr.buildSlice t n (parts.map fun (i, x) => (i, a.eval x))).run P w = .ok c w' ∧ Step kd d g ac w (({ ac with S := S' } : Ac).put d (.list (P.cellsOf e) rows true)) c w' g' := by
  obtain ⟨i, v, hi, hv, hsz, hcl, hfr⟩ := cZ_ok (g := g) hz
  have e1 : P.cellsOf e = i.size := cellsOf_info hi
  have hzl : z.length = P.cellsOf e := hcl.1.trans hsz
  obtain ⟨g1, cells, w1, x1, t1, r1, hfill, l1, l2⟩ := rows_fill parts.toList ps (List.replicate n z) rows ac.S S' g _ ac a hps hr.wr hr.env (rows_init n hzl hsz hfr) h
  obtain ⟨g2, w2, x2, t2, f2⟩ := freshBlock w1 cells e
  have hrl : rows.length = n := by rw [l2]; simp
  have hpos : n * P.cellsOf e ≠ 0 := Nat.mul_ne_zero hn h0
  refine ⟨_, _, g2, run_buildSlice w t e n _ cells i v ht hi hv (by rw [← e1]; omega) (by rw [← e1]; exact hpos) (by rw [Array.toList_map, ← e1]; exact hfill), put_step w2 (x1.trans x2) (t1.trans t2) ?_ l1⟩
  obtain ⟨q1, q2, q3⟩ := r1
  rw [show (Value.slice (some ⟨w.heap.size, 0, none⟩) n n) = .slice (some ⟨w.heap.size, 0, none⟩) rows.length n by rw [hrl]]
  refine .data _ _ (.list (P.cellsOf e) rows true _ n (fun i j => cells.getD (i * P.cellsOf e + j) Go.undef) (by omega) (fun _ => hrl.symm) q2 (fun _ => ⟨_, rfl, rfl⟩) (fun ad i j row v had hi hj => ?_) (fun i j row v hi hj => (q3 i j row v hi hj).mono x2.fz))
  obtain rfl := Option.some.inj had
  have hj' : j < P.cellsOf e := by rw [← q2 row (List.mem_of_getElem? hi)]; exact (List.getElem?_eq_some_iff.1 hj).1
  have hlt := cell_pos (List.getElem?_eq_some_iff.1 hi).1 hj'
  rw [Nat.zero_add]
  apply f2
  rw [Array.getD_eq_getD_getElem?, Array.getElem?_eq_getElem (by rw [q1]; exact hlt)]
  rfl
theorem iface_inv {t : Nat} {v : PV} {c : Value} (h : VR g (.iface t v) c) : ∃ u, c = .iface t u := by
  cases h with
  | data _ _ h => cases h with | iface _ _ u h => exact ⟨u, rfl⟩
  | iface _ _ u h => exact ⟨u, rfl⟩
/-- Every operation but a call. -/
theorem ex_ok {cl : Oracle} {o : Oper} {op : SOp} (hc : cOp P o = some op) {kd : Bool} {ac : Ac} {a : Act} (hr : Rel g ac a w) (hne : 0 < ac.S.length) (hfree : kd = false → ∀ d z, o.dst = some d → op = .alloc z → Bare g 0 d)
    (hcall : ∀ f xs, op = .call f xs → OpRes P o kd g ac w a (callP cl kd o.dst (ac.ev f) (xs.map ac.ev) ac)) : OpRes P o kd g ac w a (ex cl kd o.dst op ac) := by
  cases op with
  | v vo =>
    simp only [ex]
    split
    · rename_i v hv
      obtain ⟨c, hrun, hvr⟩ := vop_ok hc hr hv
      exact .value hrun (put_step hr.wr (Ext.refl g) (Tr.refl g w) hvr rfl)
    · trivial
  | nilv sz =>
    obtain ⟨x, ho, hx⟩ := inv_nilv hc
    simp only [ex]
    cases hd : o.dst with
    | none => trivial
    | some d =>
      simp only
      cases hn : newArr kd d ⟨sz, [], false, 0⟩ ac with
      | bad => trivial
      | pan v S => unfold newArr at hn; split at hn <;> first | cases hn | (split at hn <;> cases hn)
      | ok ac' =>
        obtain ⟨g', hst⟩ := newArr_step (w' := w) (c := .slice none 0 0) hr.wr hne (fun g0 S0 w0 hfz hn hl => by
          obtain ⟨g', w1, x1, t1, a1⟩ := aliasRow w0 (n := 0) (k := .slot d) (A := ⟨sz, [], false, 0⟩) (a := none) (cap := 0) (cs := fun _ _ => Go.undef) rfl (fun r hr => by cases hr) (fun h => absurd rfl h) (fun ad k j row v h1 => by cases h1) (fun k j row v h1 => by simp at h1) (.inr rfl) hl (fun ai0 h0 => by rw [hn] at h0; cases h0) nm_slot
          refine ⟨g', w1, x1, ?_, _, a1, rfl, rfl, rfl, fun h => absurd rfl h, Nat.le_refl _⟩
          exact t1) hn
        have hrun : (execOp a.eval o).run P w = .ok (.value (.slice none 0 0)) w := by
          unfold execOp
          rw [ho]
          cases x with
          | const v =>
            cases v <;> try cases hx
            rename_i A n c
            cases A with
            | some _ => cases hx
            | none =>
              cases n with
              | succ _ => cases hx
              | zero => cases c with
                | succ _ => cases hx
                | zero => rfl
          | _ => cases hx
        rw [← hd] at hst
        exact .value hrun hst
  | alloc zero =>
    obtain ⟨t, ho, hz⟩ := inv_alloc hc
    obtain ⟨i, v, hi, hv, hsz, _, _⟩ := cZ_ok (g := g) hz
    have hrun : (execOp a.eval o).run P w = .ok (.value (.pointer (some ⟨w.heap.size, 0, none⟩))) (w.alloc (.cells v.cells t)) := by
      unfold execOp
      rw [ho]
      exact exec_w (run_alloc_ hi hv _ w)
    simp only [ex]
    cases hd : o.dst with
    | none => trivial
    | some d =>
      simp only
      split
      · rename_i hk
        obtain ⟨_, v', _, hv', _, hcl, _⟩ := cZ_ok (g := g.kill d) hz
        have hcl' : Cells (g.kill d) zero v.cells := by
          obtain ⟨i2, v2, hi2, hv2, _, hcl2, _⟩ := cZ_ok (g := g.kill d) hz
          rw [hi] at hi2
          obtain rfl := Option.some.inj hi2
          rw [hv] at hv2
          obtain rfl := Option.some.inj hv2
          exact hcl2
        obtain ⟨g', hst⟩ := box_kill hr.wr hne hcl' t hk
        rw [← hd] at hst
        exact .value hrun hst
      · rename_i hk
        split
        · rename_i hq
          have hb := hfree (by simpa using hk) d zero hd rfl
          obtain ⟨i2, v2, hi2, hv2, _, hcl2, _⟩ := cZ_ok (g := g) hz
          rw [hi] at hi2
          obtain rfl := Option.some.inj hi2
          rw [hv] at hv2
          obtain rfl := Option.some.inj hv2
          obtain ⟨g', w1, x1, t1, b1, n1⟩ := mkBox (S' := ac.S) hr.wr hb.1 hb.2 hcl2 t hq.1 (fun j z hj => by
            have := okA_get d zero 0 _ hq.2 j z hj
            rwa [Nat.zero_add] at this) (fun _ _ _ _ => rfl) (fun _ _ _ _ => rfl)
          refine .value hrun (g' := g') ?_
          rw [hd]
          refine ⟨w1, t1, fun t ht => ?_, fun t ht u hu => ?_, fun _ => ⟨x1, fun t ht => ?_, fun t ht hb => n1 t (fun e => ht (by rw [e])) hb⟩, rfl⟩
          · obtain rfl := Option.some.inj ht
            simp only [Ac.put, upd, if_true]
            exact .ptr _ _ _ _ b1
          · have : t ≠ d := fun e => ht (by rw [e])
            simp only [Ac.put, upd, if_neg this]
            exact hu.monow x1
          · have : t ≠ d := fun e => ht (by rw [e])
            simp only [Ac.put, upd, if_neg this]
        · trivial
  | box x =>
    obtain ⟨t, y, ho, hx⟩ := inv_box hc
    have hrun : (execOp a.eval o).run P w = .ok (.value (.pointer (some ⟨w.heap.size, 0, none⟩))) (w.alloc (.cells (a.eval y).cells t)) := by
      unfold execOp
      rw [ho]
      exact exec_w (run_box_ t _ w)
    simp only [ex]
    cases hd : o.dst with
    | none => trivial
    | some d =>
      simp only
      split
      · rename_i hk
        have hcl := ((hr.ev hx).cells_ (cells_one hk.2)).kill d
        obtain ⟨g', hst⟩ := box_kill hr.wr hne hcl t hk.1
        rw [← hd] at hst
        exact .value hrun hst
      · trivial
  | bslice sz n zero parts =>
    obtain ⟨t, e, ps, ho, ht, rfl, hsm, h0, hn0, hz, hps⟩ := inv_bslice hc
    simp only [ex]
    split
    · rename_i hn
      subst hn
      obtain ⟨i, v, hi, _⟩ := cZ_ok (g := g) hz
      have hps0 : ps = #[] := by apply Array.ext'; simpa using hn0 rfl
      subst hps0
      have hrun : (execOp a.eval o).run P w = .ok (.value (.slice (some ⟨w.heap.size, 0, none⟩) 0 0)) (w.alloc (.cells #[] e)) := by
        unfold execOp
        rw [ho]
        simp only [List.map_toArray, List.map_nil]
        exact exec_w (run_buildNone ht hi w)
      have := hr.wr.alloc (.cells #[] e)
      refine .value hrun (put_step (S' := ac.S) this (Ext.refl g) ⟨rfl, rfl, rfl, by rw [alloc_size]; omega, fun _ _ _ h => h, fun k hk _ => alloc_heap w _ hk, fun x k h => .inl h, Ext.refl _⟩ (.data _ _ (.nils _ _)) rfl)
    · rename_i hn
      split
      · rename_i rows S1 h
        obtain ⟨c, w', g', hrun, hst⟩ := bslice_ok ht hsm h0 hz hps hn hr h (kd := kd) (d := o.dst)
        refine .value (g' := g') (c := c) (w' := w') ?_ hst
        unfold execOp
        rw [ho]
        exact exec_w hrun
      · trivial
  | store k x v =>
    obtain ⟨t, y, u, k', ho, hk, rfl, hx, hv⟩ := inv_store hc
    simp only [ex]
    split
    · rename_i S1 hd hs
      obtain ⟨w', g', hrun, w1, x1, t1, l1⟩ := store_ok hr.wr hk (hr.ev hx) (hr.ev hv) hs
      refine .skip (g' := g') (w' := w') ?_ ?_
      · unfold execOp
        rw [ho]
        simp [hrun]
      · rw [hd]
        exact put_step (d := none) (v := .undef) w1 x1 t1 .undef l1
    · trivial
  | append sz bytes x y =>
    obtain ⟨c, p, q, t, u, e, z, ho, hcal, hargs, htys, ht, hu, rfl, rfl, hz, hx, hy⟩ := inv_append hc
    simp only [ex]
    cases hd : o.dst with
    | none => trivial
    | some d =>
      simp only
      cases hn : appendP kd d (P.cellsOf e) (P.bytesOf e) (ac.ev x) (ac.ev y) ac with
      | bad => trivial
      | pan v S =>
        exfalso
        unfold appendP newArr at hn
        repeat' split at hn
        all_goals cases hn
      | ok ac' =>
        obtain ⟨v, w', g', hrun, hst⟩ := append_ok (ty := o.type) hr.wr hne ht hu hz (hr.ev hx) (hr.ev hy) hn
        rw [← hd] at hst
        refine .value (g' := g') (c := v) (w' := w') ?_ hst
        unfold execOp
        rw [ho]
        simp only [resolve, hcal, hargs, htys, Sem.run_bind, Sem.run_pure, Result.andThen_ok, invoke, builtin, List.map_toArray, List.map_cons, List.map_nil]
        rw [hrun]
        simp
  | call f xs => exact hcall f xs rfl
  | panic x =>
    obtain ⟨y, ho, hx⟩ := inv_panic hc
    simp only [ex]
    split
    · rename_i t v hv
      intro K Q h
      have hvr := hr.ev hx
      rw [hv] at hvr
      obtain ⟨u, hu⟩ := iface_inv hvr
      have hrun : (execOp a.eval o).run P w = .halt (.panic (.iface t u)) w := by
        unfold execOp
        rw [ho]
        simp [hu, run_panic_iface]
      unfold Oper.wp
      rw [hrun]
      exact h _ w g hr.wr (by rw [← hu]; exact hvr) (Tr.refl g w) rfl
    · trivial
end
end Go.Proofs.Ytebflncfgjnkkaa.M
