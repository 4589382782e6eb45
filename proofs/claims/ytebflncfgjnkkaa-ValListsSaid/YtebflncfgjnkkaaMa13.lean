/- THE ABSTRACT MACHINE, thirteenth part: what a step may do to the world; names that are forgotten; new variables. -/
import Derived.Test.YtebflncfgjnkkaaMa12
namespace Go.Proofs.Ytebflncfgjnkkaa.M
set_option linter.unusedSimpArgs false
set_option linter.unusedVariables false
open Go
section
variable {g g' : Gh} {S S' : Sto} {w w' : World} {P : Program}
structure Tr (g : Gh) (w : World) (g' : Gh) (w' : World) : Prop where
  os : w'.os = w.os
  tape : w'.tape = w.tape
  output : w'.output = w.output
  size : w.heap.size ≤ w'.heap.size
  fz : ∀ b o v, g.fz b o = some v → g'.fz b o = some v
  keep : ∀ k, k < w.heap.size → (∀ x, g.own x ≠ some k) → w'.heap[k]? = w.heap[k]?
  new : ∀ x k, g'.own x = some k → g.own x = some k ∨ w.heap.size ≤ k
  out : Ext g.pop g'.pop
theorem Tr.refl (g : Gh) (w : World) : Tr g w g w := ⟨rfl, rfl, rfl, Nat.le_refl _, fun _ _ _ h => h, fun _ _ _ => rfl, fun x _ h => .inl h, Ext.refl _⟩
theorem Tr.trans {g'' : Gh} {w'' : World} (h : Tr g w g' w') (h' : Tr g' w' g'' w'') : Tr g w g'' w'' :=
  ⟨h'.os.trans h.os, h'.tape.trans h.tape, h'.output.trans h.output, Nat.le_trans h.size h'.size, fun b o v hv => h'.fz b o v (h.fz b o v hv), fun k hk hn => by
    rw [h'.keep k (Nat.lt_of_lt_of_le hk h.size) (fun x hx => by
      rcases h.new x k hx with hy | hy
      · exact hn x hy
      · omega)]
    exact h.keep k hk hn, fun x k hx => by
    rcases h'.new x k hx with hy | hy
    · exact h.new x k hy
    · exact .inr (Nat.le_trans h.size hy), h.out.trans h'.out⟩
theorem WR.own_lt (hw : WR g S w) {x : Ow} {k : Nat} (h : g.own x = some k) : k < w.heap.size := by
  cases x with
  | box n t =>
    obtain ⟨vs, cs, elem, _, h2, _⟩ := hw.box n t k h
    exact (Array.getElem?_eq_some_iff.1 h2).1
  | arr n a =>
    simp only [Gh.own, Option.bind_eq_some_iff] at h
    obtain ⟨ai, ha, hb⟩ := h
    obtain ⟨A, _, hr⟩ := hw.arr n a ai ha
    obtain ⟨_, ⟨cells, elem, hc, _⟩, _⟩ := hr.own k hb
    exact (Array.getElem?_eq_some_iff.1 hc).1
theorem cell_lt {w : World} {a : Addr} {v : Value} (h : w.cell? a = some v) : a.block < w.heap.size := by
  unfold World.cell? at h
  split at h
  · rename_i hc
    exact (Array.getElem?_eq_some_iff.1 hc).1
  · cases h
/-- A world in which what is known stands as it did. -/
theorem WR.keep (hw : WR g S w) (hf : ∀ b o v, g.fz b o = some v → w'.cell? ⟨b, o, none⟩ = some v) (ho : ∀ x b, g.own x = some b → w'.heap[b]? = w.heap[b]?) : WR g S w' := by
  refine ⟨hf, ?_, ?_, hw.inj⟩
  · intro n t b hb
    obtain ⟨vs, cs, elem, h1, h2, h3⟩ := hw.box n t b hb
    exact ⟨vs, cs, elem, h1, (ho (.box n t) b hb).trans h2, h3⟩
  · intro n k ai ha
    obtain ⟨A, h1, hr⟩ := hw.arr n k ai ha
    refine ⟨A, h1, ⟨hr.sz, hr.len, hr.gen, hr.each, hr.cap, hr.addr, ?_, ?_, hr.free⟩⟩
    · obtain ⟨cs, h2, h3⟩ := hr.cells
      refine ⟨cs, h2, fun ad i j row v had hi hj => ?_⟩
      obtain ⟨h4, h5⟩ := h3 ad i j row v had hi hj
      refine ⟨?_, h5⟩
      cases hfr : A.frz with
      | true => exact hf _ _ _ (h5 hfr)
      | false =>
        cases hb : ai.blk with
        | none =>
          rcases (hr.free hb).2 with h | h
          · rw [hfr] at h; cases h
          · rw [h] at hi; simp at hi
        | some b =>
          have hA := (hr.own b hb).1
          rw [had] at hA
          obtain rfl := Option.some.inj hA
          have := ho (.arr n k) b (by simp [Gh.own, ha, hb])
          unfold World.cell? at h4 ⊢
          rw [this]
          exact h4
    · intro b hb
      obtain ⟨h2, ⟨cells, elem, h3, h4⟩, h5⟩ := hr.own b hb
      exact ⟨h2, ⟨cells, elem, (ho (.arr n k) b (by simp [Gh.own, ha, hb])).trans h3, h4⟩, h5⟩
/-- A store that has the same of what is named. -/
theorem WR.congr (hw : WR g S w) (hb : ∀ n t b, g.b n t = some b → getBox S' n t = getBox S n t) (ha : ∀ n k ai, g.a n k = some ai → getArr S' n k = getArr S n k) : WR g S' w := by
  refine ⟨hw.fz, ?_, ?_, hw.inj⟩
  · intro n t b h
    obtain ⟨vs, cs, elem, h1, h2⟩ := hw.box n t b h
    exact ⟨vs, cs, elem, (hb n t b h).trans h1, h2⟩
  · intro n k ai h
    obtain ⟨A, h1, h2⟩ := hw.arr n k ai h
    exact ⟨A, (ha n k ai h).trans h1, h2⟩
/-! ### Forgotten names -/
mutual
theorem kill_up (d : Nat) : ∀ v : PV, v.up.kill d = v.up
  | .bool _ | .int _ _ | .str _ | .nils _ | .list _ _ _ | .rowp _ _ | .nili | .undef | .junk => by simp [PV.up, PV.kill]
  | .agg vs => by simp [PV.up, PV.kill, killL_up d vs]
  | .tup vs => by simp [PV.up, PV.kill, killL_up d vs]
  | .ptr n t o => by simp [PV.up, PV.kill]
  | .elem n a i o v g => by simp [PV.up, PV.kill]
  | .sl n a o l v g f => by simp [PV.up, PV.kill]
  | .func f caps => by simp [PV.up, PV.kill, killL_up d caps]
  | .iface t v => by simp [PV.up, PV.kill, kill_up d v]
theorem killL_up (d : Nat) : ∀ vs : List PV, PV.killL d (PV.upL vs) = PV.upL vs
  | [] => by simp [PV.upL, PV.killL]
  | v :: vs => by simp [PV.upL, PV.killL, kill_up d v, killL_up d vs]
end
theorem getBox_kill (d n t : Nat) (S : Sto) : getBox (killS d S) n t = if n = 0 then (if t = d then none else (getBox S n t).map (PV.killL d)) else getBox S n t := by
  cases S with
  | nil => cases n <;> simp [killS, getBox]
  | cons f S => cases n <;> simp [killS, getBox, Fr.kill]
theorem getArr_kill (d n : Nat) (k : AK) (S : Sto) : getArr (killS d S) n k = if n = 0 ∧ k.tmp = d then none else getArr S n k := by
  cases S with
  | nil => cases n <;> simp [killS, getArr]
  | cons f S => cases n <;> simp [killS, getArr, Fr.kill]
theorem kill_own {d : Nat} {x : Ow} {b : Nat} (h : (g.kill d).own x = some b) : g.own x = some b := by
  cases x with
  | box n t =>
    simp only [Gh.own, Gh.kill] at h ⊢
    split at h
    · cases h
    · exact h
  | arr n k =>
    simp only [Gh.own, Gh.kill] at h ⊢
    split at h
    · cases h
    · exact h
theorem kill_pop (d : Nat) (g : Gh) : (g.kill d).pop = g.pop := by
  unfold Gh.pop Gh.kill
  simp
theorem WR.kill (hw : WR g S w) (d : Nat) : WR (g.kill d) (killS d S) w := by
  refine ⟨hw.fz, ?_, ?_, fun x y b hx hy => hw.inj x y b (kill_own hx) (kill_own hy)⟩
  · intro n t b hb
    simp only [Gh.kill] at hb
    split at hb
    · cases hb
    · rename_i hn
      obtain ⟨vs, cs, elem, h1, h2, h3, h4, h5⟩ := hw.box n t b hb
      rw [getBox_kill]
      cases n with
      | zero =>
        have ht : t ≠ d := fun e => hn ⟨rfl, e⟩
        refine ⟨PV.killL d vs, cs, elem, by simp [ht, h1], h2, by rw [killL_length]; exact h3, fun i v hi => ?_, h5⟩
        rw [killL_get, Option.map_eq_some_iff] at hi
        obtain ⟨u, hu, rfl⟩ := hi
        exact (h4 i u hu).kill d
      | succ n =>
        refine ⟨vs, cs, elem, by simpa using h1, h2, h3, fun i v hi => ?_, h5⟩
        have := (h4 i v hi).kill d
        rwa [PV.upN, kill_up] at this
  · intro n k ai ha
    simp only [Gh.kill] at ha
    split at ha
    · cases ha
    · rename_i hn
      obtain ⟨A, h1, hr⟩ := hw.arr n k ai ha
      exact ⟨A, by rw [getArr_kill, if_neg hn]; exact h1, ⟨hr.sz, hr.len, hr.gen, hr.each, hr.cap, hr.addr, hr.cells, hr.own, hr.free⟩⟩
theorem Rel.kill {ac : Ac} {a : Act} (h : Rel g ac a w) (d : Nat) : Rel (g.kill d) (ac.kill d) a w := ⟨h.wr.kill d, fun t => (h.env t).kill d⟩
theorem Tr.kill (g : Gh) (w : World) (d : Nat) : Tr g w (g.kill d) w :=
  ⟨rfl, rfl, rfl, Nat.le_refl _, fun _ _ _ h => h, fun _ _ _ => rfl, fun x _ h => .inl (kill_own h), by rw [kill_pop]; exact Ext.refl _⟩
theorem killed_b (g : Gh) (d : Nat) : (g.kill d).b 0 d = none := by simp [Gh.kill]
theorem killed_a (g : Gh) {d : Nat} {k : AK} (h : k.tmp = d) : (g.kill d).a 0 k = none := by simp [Gh.kill, h]
/-! ### A world with a block more -/
theorem alloc_heap (w : World) (o : Obj) {k : Nat} (h : k < w.heap.size) : (w.alloc o).heap[k]? = w.heap[k]? := Go.RowKit.Below.heap_alloc w o k h
theorem alloc_cell (w : World) (o : Obj) {a : Addr} {v : Value} (h : w.cell? a = some v) : (w.alloc o).cell? a = some v := by
  rw [World.cell?_alloc_lt _ _ _ (cell_lt h)]
  exact h
theorem WR.alloc (hw : WR g S w) (o : Obj) : WR g S (w.alloc o) :=
  hw.keep (fun b o' v h => alloc_cell w o (hw.fz b o' v h)) (fun x b h => alloc_heap w o (hw.own_lt h))
theorem WR.drew (hw : WR g S w) : WR g S w.drew := hw.keep hw.fz (fun _ _ _ => rfl)
theorem WR.drawn (hw : WR g S w) (n : Nat) : WR g S { w with drawn := n } := hw.keep hw.fz (fun _ _ _ => rfl)
theorem alloc_size (w : World) (o : Obj) : (w.alloc o).heap.size = w.heap.size + 1 := by show (w.heap.push o).size = _; simp
theorem alloc_new (w : World) (o : Obj) : (w.alloc o).heap[w.heap.size]? = some o := by show (w.heap.push o)[w.heap.size]? = _; simp
end
end Go.Proofs.Ytebflncfgjnkkaa.M
