/- THE ABSTRACT MACHINE, fifth part: what its values and its store say of the world: g tells which block a box is, where a row lies, and which cells are frozen: as they are, for good. -/
import Derived.Test.YtebflncfgjnkkaaMa4
import Derived.Deep.MidRow
namespace Go.Proofs.Ytebflncfgjnkkaa.M
set_option linter.unusedSimpArgs false
set_option linter.unusedVariables false
open Go
/-- Where a row lies; blk: its block, if it is the row's alone. -/
structure AI where
  A : Option Addr
  cap : Nat
  sz : Nat
  len : Nat
  gen : Nat
  blk : Option Nat
structure Gh where
  b : Nat → Nat → Option Nat
  a : Nat → AK → Option AI
  fz : Nat → Nat → Option Value
inductive Ow where
  | box (n t : Nat)
  | arr (n : Nat) (k : AK)
def Gh.own (g : Gh) : Ow → Option Nat
  | .box n t => g.b n t
  | .arr n k => (g.a n k).bind (·.blk)
abbrev Fz := Nat → Nat → Option Value
/-- A cell's frozen data. -/
inductive FR (fz : Fz) : PV → Value → Prop
  | bool (b : Bool) : FR fz (.bool b) (.bool b)
  | int (k : IntKind) (n : Int) : FR fz (.int k n) (.int k n)
  | str (s : List UInt8) : FR fz (.str s) (.string ⟨s.toArray⟩)
  | nils (z : Nat) (A : Option Addr) : FR fz (.nils z) (.slice A 0 0)
  | list (z : Nat) (rows : List (List PV)) (full : Bool) (A : Option Addr) (cap : Nat) (cs : Nat → Nat → Value) (hl : rows.length ≤ cap) (hf : full = true → cap = rows.length) (hs : ∀ r ∈ rows, r.length = z)
      (hA : rows ≠ [] → ∃ ad, A = some ad ∧ ad.spot = none)
      (hc : ∀ ad i j row v, A = some ad → rows[i]? = some row → row[j]? = some v → fz ad.block (ad.off + (i * z + j)) = some (cs i j))
      (hv : ∀ i j row v, rows[i]? = some row → row[j]? = some v → FR fz v (cs i j)) : FR fz (.list z rows full) (.slice A rows.length cap)
  | func (f : Nat) : FR fz (.func f []) (.func (.func f) #[] #[])
  | iface (t : Nat) (v : PV) (c : Value) (h : FR fz v c) : FR fz (.iface t v) (.iface t c)
  | nili : FR fz .nili .nilIface
def lexle (g l g' l' : Nat) : Prop := g < g' ∨ g = g' ∧ l ≤ l'
/-- A slice over a row: where it lies. -/
structure SlAt (ai : AI) (off len : Nat) (full : Bool) (A : Option Addr) (c : Nat) : Prop where
  fits : off + len ≤ ai.len
  le : len ≤ c
  zero : off = 0 → A = ai.A
  pos : 0 < len → ∃ ad, ai.A = some ad ∧ ad.spot = none ∧ A = some ⟨ad.block, ad.off + off * ai.sz, none⟩
  whole : full = true → c = len
  open_ : off = 0 → len = ai.len → full = false → c = ai.cap
inductive VR (g : Gh) : PV → Value → Prop
  | data (v : PV) (c : Value) (h : FR g.fz v c) : VR g v c
  | agg (vs : List PV) (cs : Array Value) (hl : vs.length = cs.size) (h : ∀ i v, vs[i]? = some v → VR g v (cs.getD i undef)) : VR g (.agg vs) (.agg cs)
  | tup (vs : List PV) (cs : Array Value) (hl : vs.length = cs.size) (h : ∀ i v, vs[i]? = some v → VR g v (cs.getD i undef)) : VR g (.tup vs) (.tuple cs)
  | ptr (n t o b : Nat) (h : g.b n t = some b) : VR g (.ptr n t o) (.pointer (some ⟨b, o, none⟩))
  | rowp (row : List PV) (o b p : Nat) (cs : Nat → Value) (hc : ∀ j v, row[j]? = some v → g.fz b (p + j) = some (cs j)) (hv : ∀ j v, row[j]? = some v → FR g.fz v (cs j)) : VR g (.rowp row o) (.pointer (some ⟨b, p + o, none⟩))
  | elem (n : Nat) (a : AK) (i o ver gen : Nat) (ai : AI) (c : Value) (ha : g.a n a = some ai) (hl : lexle gen ver ai.gen ai.len) (h1 : c.oneCell' = true)
      (h : ai.gen = gen → ai.len = ver → ∃ ad, ai.A = some ad ∧ ad.spot = none ∧ c = .pointer (some ⟨ad.block, ad.off + (i * ai.sz + o), none⟩)) : VR g (.elem n a i o ver gen) c
  | sl (n : Nat) (a : AK) (off len ver gen : Nat) (full : Bool) (ai : AI) (c : Value) (ha : g.a n a = some ai) (hl : lexle gen ver ai.gen ai.len) (h1 : c.oneCell' = true)
      (h : ai.gen = gen → ai.len = ver → ∃ A cap, c = .slice A len cap ∧ SlAt ai off len full A cap) : VR g (.sl n a off len ver gen full) c
  | func (f : Nat) (caps : List PV) (cs : Array Value) (hl : caps.length = cs.size) (h : ∀ i v, caps[i]? = some v → VR g v (cs.getD i undef)) : VR g (.func f caps) (.func (.func f) #[] cs)
  | iface (t : Nat) (v : PV) (c : Value) (h : VR g v c) : VR g (.iface t v) (.iface t c)
  | undef : VR g .undef Go.undef
  | junk (c : Value) : VR g .junk c
/-- A row's cells, in the world. -/
structure ArrRel (g : Gh) (w : World) (A : Arr) (ai : AI) : Prop where
  sz : ai.sz = A.sz
  len : ai.len = A.rows.length
  gen : ai.gen = A.gen
  each : ∀ r ∈ A.rows, r.length = A.sz
  cap : ai.len ≤ ai.cap
  addr : A.rows ≠ [] → ∃ ad, ai.A = some ad ∧ ad.spot = none
  cells : ∃ cs : Nat → Nat → Value, (∀ i j row v, A.rows[i]? = some row → row[j]? = some v → FR g.fz v (cs i j)) ∧
    (∀ ad i j row v, ai.A = some ad → A.rows[i]? = some row → row[j]? = some v → w.cell? ⟨ad.block, ad.off + (i * A.sz + j), none⟩ = some (cs i j) ∧ (A.frz = true → g.fz ad.block (ad.off + (i * A.sz + j)) = some (cs i j)))
  own : ∀ b, ai.blk = some b → ai.A = some ⟨b, 0, none⟩ ∧ (∃ cells elem, w.heap[b]? = some (.cells cells elem (0, 0)) ∧ cells.size = ai.cap * A.sz) ∧ (∀ o, ai.len * A.sz ≤ o → g.fz b o = none) ∧ (A.frz = false → ∀ o, g.fz b o = none)
  free : ai.blk = none → ai.cap = ai.len ∧ (A.frz = true ∨ A.rows = [])
structure WR (g : Gh) (S : Sto) (w : World) : Prop where
  fz : ∀ b o v, g.fz b o = some v → w.cell? ⟨b, o, none⟩ = some v
  box : ∀ n t b, g.b n t = some b → ∃ vs cs elem, getBox S n t = some vs ∧ w.heap[b]? = some (.cells cs elem (0, 0)) ∧ vs.length = cs.size ∧ (∀ i v, vs[i]? = some v → VR g (PV.upN n v) (cs.getD i undef)) ∧ ∀ o, g.fz b o = none
  arr : ∀ n k ai, g.a n k = some ai → ∃ A, getArr S n k = some A ∧ ArrRel g w A ai
  inj : ∀ x y b, g.own x = some b → g.own y = some b → x = y

/-! ### More is known: what was known stays. -/
def AIle (ai ai' : AI) : Prop := ai.gen < ai'.gen ∨ ai.gen = ai'.gen ∧ ai.len < ai'.len ∨ ai.gen = ai'.gen ∧ ai.len = ai'.len ∧ ai'.A = ai.A ∧ ai'.cap = ai.cap ∧ ai'.sz = ai.sz
theorem AIle.refl (ai : AI) : AIle ai ai := .inr (.inr ⟨rfl, rfl, rfl, rfl, rfl⟩)
theorem AIle.trans {a b c : AI} (h : AIle a b) (h' : AIle b c) : AIle a c := by
  unfold AIle at *
  rcases h with h | ⟨h1, h2⟩ | ⟨h1, h2, h3, h4, h5⟩ <;> rcases h' with h' | ⟨h1', h2'⟩ | ⟨h1', h2', h3', h4', h5'⟩
  · left; omega
  · left; omega
  · left; omega
  · left; omega
  · right; left; exact ⟨by omega, by omega⟩
  · right; left; exact ⟨by omega, by omega⟩
  · left; omega
  · right; left; exact ⟨by omega, by omega⟩
  · right; right; exact ⟨by omega, by omega, h3'.trans h3, h4'.trans h4, h5'.trans h5⟩
structure Exw (g g' : Gh) : Prop where
  b : ∀ n t b, g.b n t = some b → g'.b n t = some b
  a : ∀ n k ai, g.a n k = some ai → ∃ ai', g'.a n k = some ai' ∧ AIle ai ai'
  fz : ∀ b o v, g.fz b o = some v → g'.fz b o = some v
theorem Exw.refl (g : Gh) : Exw g g := ⟨fun _ _ _ h => h, fun _ _ ai h => ⟨ai, h, AIle.refl ai⟩, fun _ _ _ h => h⟩
theorem Exw.trans {g g' g'' : Gh} (h : Exw g g') (h' : Exw g' g'') : Exw g g'' :=
  ⟨fun _ _ _ h1 => h'.b _ _ _ (h.b _ _ _ h1), fun n k ai h1 => by
    obtain ⟨ai1, h2, h3⟩ := h.a n k ai h1
    obtain ⟨ai2, h4, h5⟩ := h'.a n k ai1 h2
    exact ⟨ai2, h4, h3.trans h5⟩, fun _ _ _ h1 => h'.fz _ _ _ (h.fz _ _ _ h1)⟩
/-- Slot t names no box. -/
def Bare (g : Gh) (n t : Nat) : Prop := g.b n t = none ∧ ∀ i, g.a n (.cell t i) = none
/-- More is known, and no new box. -/
structure Ext (g g' : Gh) : Prop extends Exw g g' where
  nam : ∀ n t, Bare g n t → Bare g' n t
theorem Ext.refl (g : Gh) : Ext g g := ⟨Exw.refl g, fun _ _ h => h⟩
theorem Ext.trans {g g' g'' : Gh} (h : Ext g g') (h' : Ext g' g'') : Ext g g'' := ⟨h.toExw.trans h'.toExw, fun n t hb => h'.nam n t (h.nam n t hb)⟩
theorem nm_some {g : Gh} {n : Nat} {k : AK} {ai : AI} (h : g.a n k = some ai) : ∀ t i, k = .cell t i → ¬ Bare g n t := fun t i e hb => by
  subst e
  rw [hb.2 i] at h
  cases h
theorem nm_slot {g : Gh} {n d : Nat} : ∀ t i, AK.slot d = .cell t i → ¬ Bare g n t := fun t i e => by cases e
theorem FR.mono {fz fz' : Fz} (hfz : ∀ b o v, fz b o = some v → fz' b o = some v) {v : PV} {c : Value} (h : FR fz v c) : FR fz' v c := by
  induction h with
  | bool b => exact .bool b
  | int k n => exact .int k n
  | str s => exact .str s
  | nils z A => exact .nils z A
  | list z rows full A cap cs hl hf hs hA hc hv ih => exact .list z rows full A cap cs hl hf hs hA (fun ad i j row v h1 h2 h3 => hfz _ _ _ (hc ad i j row v h1 h2 h3)) ih
  | func f => exact .func f
  | iface t v c _ ih => exact .iface t v c ih
  | nili => exact .nili
theorem VR.monow {g g' : Gh} (hx : Exw g g') {v : PV} {c : Value} (h : VR g v c) : VR g' v c := by
  induction h with
  | data v c h => exact .data v c (h.mono hx.fz)
  | agg vs cs hl _ ih => exact .agg vs cs hl ih
  | tup vs cs hl _ ih => exact .tup vs cs hl ih
  | ptr n t o b h => exact .ptr n t o b (hx.b _ _ _ h)
  | rowp row o b p cs hc hv => exact .rowp row o b p cs (fun j v hj => hx.fz _ _ _ (hc j v hj)) (fun j v hj => (hv j v hj).mono hx.fz)
  | elem n a i o ver gen ai c ha hl h1 h =>
    obtain ⟨ai', ha', hle⟩ := hx.a n a ai ha
    refine .elem n a i o ver gen ai' c ha' ?_ h1 ?_
    · unfold AIle lexle at *; omega
    · intro q1 q2
      unfold AIle lexle at *
      rcases hle with hle | ⟨hle1, hle2⟩ | ⟨e1, e2, e3, e4, e5⟩
      · omega
      · omega
      · obtain ⟨ad, q1, q2, q3⟩ := h (by omega) (by omega)
        exact ⟨ad, e3.trans q1, q2, by rw [e5]; exact q3⟩
  | sl n a off len ver gen full ai c ha hl h1 h =>
    obtain ⟨ai', ha', hle⟩ := hx.a n a ai ha
    refine .sl n a off len ver gen full ai' c ha' ?_ h1 ?_
    · unfold AIle lexle at *; omega
    · intro q1 q2
      unfold AIle lexle at *
      rcases hle with hle | ⟨hle1, hle2⟩ | ⟨e1, e2, e3, e4, e5⟩
      · omega
      · omega
      · obtain ⟨A, cap, q1, q2⟩ := h (by omega) (by omega)
        exact ⟨A, cap, q1, ⟨by rw [← e2]; exact q2.fits, q2.le, fun h => by rw [e3]; exact q2.zero h, fun h => by rw [e3, e5]; exact q2.pos h, q2.whole, fun h1 h2 h3 => by rw [e4]; exact q2.open_ h1 (by omega) h3⟩⟩
  | func f caps cs hl _ ih => exact .func f caps cs hl ih
  | iface t v c _ ih => exact .iface t v c ih
  | undef => exact .undef
  | junk c => exact .junk c

theorem VR.mono {g g' : Gh} (hx : Ext g g') {v : PV} {c : Value} (h : VR g v c) : VR g' v c := h.monow hx.toExw
/-! ### A frame forgets what slot d named. -/
def Gh.kill (d : Nat) (g : Gh) : Gh :=
  ⟨fun n t => if n = 0 ∧ t = d then none else g.b n t, fun n k => if n = 0 ∧ k.tmp = d then none else g.a n k, g.fz⟩
theorem killL_get (d : Nat) : ∀ (vs : List PV) (i : Nat), (PV.killL d vs)[i]? = (vs[i]?).map (PV.kill d)
  | [], i => by simp [PV.killL]
  | v :: vs, 0 => by simp [PV.killL]
  | v :: vs, i + 1 => by simp [PV.killL, killL_get d vs i]
theorem killL_length (d : Nat) : ∀ vs : List PV, (PV.killL d vs).length = vs.length
  | [] => rfl
  | v :: vs => by simp [PV.killL, killL_length d vs]
theorem FR.kill {fz : Fz} {v : PV} {c : Value} (d : Nat) (h : FR fz v c) : FR fz (v.kill d) c := by
  induction h with
  | bool b => exact .bool b
  | int k n => exact .int k n
  | str s => exact .str s
  | nils z A => exact .nils z A
  | list z rows full A cap cs hl hf hs hA hc hv ih => exact .list z rows full A cap cs hl hf hs hA hc hv
  | func f => exact .func f
  | iface t v c _ ih => exact .iface t _ c ih
  | nili => exact .nili
theorem VR.kill {g : Gh} {v : PV} {c : Value} (d : Nat) (h : VR g v c) : VR (g.kill d) (v.kill d) c := by
  induction h with
  | data v c h => exact .data _ c (h.kill d)
  | agg vs cs hl _ ih =>
    refine .agg _ cs (by rw [killL_length]; exact hl) fun i v hv => ?_
    rw [killL_get, Option.map_eq_some_iff] at hv
    obtain ⟨u, hu, rfl⟩ := hv
    exact ih i u hu
  | tup vs cs hl _ ih =>
    refine .tup _ cs (by rw [killL_length]; exact hl) fun i v hv => ?_
    rw [killL_get, Option.map_eq_some_iff] at hv
    obtain ⟨u, hu, rfl⟩ := hv
    exact ih i u hu
  | ptr n t o b h =>
    simp only [PV.kill]
    split
    · exact .junk _
    · rename_i hn
      exact .ptr n t o b (by simp only [Gh.kill, if_neg hn]; exact h)
  | rowp row o b p cs hc hv => exact .rowp row o b p cs hc hv
  | elem n a i o ver gen ai c ha hl h1 h =>
    simp only [PV.kill]
    split
    · exact .junk _
    · rename_i hn
      exact .elem n a i o ver gen ai c (by simp only [Gh.kill, if_neg hn]; exact ha) hl h1 h
  | sl n a off len ver gen full ai c ha hl h1 h =>
    simp only [PV.kill]
    split
    · exact .junk _
    · rename_i hn
      exact .sl n a off len ver gen full ai c (by simp only [Gh.kill, if_neg hn]; exact ha) hl h1 h
  | func f caps cs hl _ ih =>
    refine .func f _ cs (by rw [killL_length]; exact hl) fun i v hv => ?_
    rw [killL_get, Option.map_eq_some_iff] at hv
    obtain ⟨u, hu, rfl⟩ := hv
    exact ih i u hu
  | iface t v c _ ih => exact .iface t _ c ih
  | undef => exact .undef
  | junk c => exact .junk c

/-! ### One frame further in, and out. -/
def Gh.push (g : Gh) : Gh :=
  ⟨fun n t => match n with | 0 => none | n + 1 => g.b n t, fun n k => match n with | 0 => none | n + 1 => g.a n k, g.fz⟩
def Gh.pop (g : Gh) : Gh := ⟨fun n t => g.b (n + 1) t, fun n k => g.a (n + 1) k, g.fz⟩
theorem Gh.pop_push (g : Gh) : g.push.pop = g := rfl
theorem upL_get : ∀ (vs : List PV) (i : Nat), (PV.upL vs)[i]? = (vs[i]?).map PV.up
  | [], i => by simp [PV.upL]
  | v :: vs, 0 => by simp [PV.upL]
  | v :: vs, i + 1 => by simp [PV.upL, upL_get vs i]
theorem upL_length : ∀ vs : List PV, (PV.upL vs).length = vs.length
  | [] => rfl
  | v :: vs => by simp [PV.upL, upL_length vs]
theorem FR.up {fz : Fz} {v : PV} {c : Value} (h : FR fz v c) : FR fz v.up c := by
  induction h with
  | bool b => exact .bool b
  | int k n => exact .int k n
  | str s => exact .str s
  | nils z A => exact .nils z A
  | list z rows full A cap cs hl hf hs hA hc hv ih => exact .list z rows full A cap cs hl hf hs hA hc hv
  | func f => exact .func f
  | iface t v c _ ih => exact .iface t _ c ih
  | nili => exact .nili
/-- Out of a ghost whose outer part is g. -/
theorem VR.up {g g' : Gh} (hg : g'.pop = g) {v : PV} {c : Value} (h : VR g v c) : VR g' v.up c := by
  subst hg
  induction h with
  | data v c h => exact .data _ c h.up
  | agg vs cs hl _ ih =>
    refine .agg _ cs (by rw [upL_length]; exact hl) fun i v hv => ?_
    rw [upL_get, Option.map_eq_some_iff] at hv
    obtain ⟨u, hu, rfl⟩ := hv
    exact ih i u hu
  | tup vs cs hl _ ih =>
    refine .tup _ cs (by rw [upL_length]; exact hl) fun i v hv => ?_
    rw [upL_get, Option.map_eq_some_iff] at hv
    obtain ⟨u, hu, rfl⟩ := hv
    exact ih i u hu
  | ptr n t o b h => exact .ptr (n + 1) t o b h
  | rowp row o b p cs hc hv => exact .rowp row o b p cs hc hv
  | elem n a i o ver gen ai c ha hl h1 h => exact .elem (n + 1) a i o ver gen ai c ha hl h1 h
  | sl n a off len ver gen full ai c ha hl h1 h => exact .sl (n + 1) a off len ver gen full ai c ha hl h1 h
  | func f caps cs hl _ ih =>
    refine .func f _ cs (by rw [upL_length]; exact hl) fun i v hv => ?_
    rw [upL_get, Option.map_eq_some_iff] at hv
    obtain ⟨u, hu, rfl⟩ := hv
    exact ih i u hu
  | iface t v c _ ih => exact .iface t _ c ih
  | undef => exact .undef
  | junk c => exact .junk c
theorem dnL_get : ∀ (vs us : List PV), PV.dnL vs = some us → vs.length = us.length ∧ ∀ (i : Nat) (u : PV), us[i]? = some u → ∃ v, vs[i]? = some v ∧ v.dn = some u
  | [], us, h => by
    simp only [PV.dnL, Option.some.injEq] at h
    subst h
    exact ⟨rfl, fun i u h => by simp at h⟩
  | v :: vs, us, h => by
    simp only [PV.dnL] at h
    cases hv : v.dn with
    | none => simp [hv] at h
    | some v' =>
      cases hvs : PV.dnL vs with
      | none => simp [hv, hvs] at h
      | some vs' =>
        simp only [hv, hvs, Option.some.injEq] at h
        subst h
        obtain ⟨h1, h2⟩ := dnL_get vs vs' hvs
        refine ⟨by simp [h1], fun i u hi => ?_⟩
        cases i with
        | zero => simp at hi; subst hi; exact ⟨v, rfl, hv⟩
        | succ i => simp at hi; simpa using h2 i u hi
theorem FR.dn {fz : Fz} {v : PV} {c : Value} (h : FR fz v c) : ∀ u, v.dn = some u → FR fz u c := by
  induction h with
  | bool b => intro u hu; simp only [PV.dn, Option.some.injEq] at hu; subst hu; exact .bool b
  | int k n => intro u hu; simp only [PV.dn, Option.some.injEq] at hu; subst hu; exact .int k n
  | str s => intro u hu; simp only [PV.dn, Option.some.injEq] at hu; subst hu; exact .str s
  | nils z A => intro u hu; simp only [PV.dn, Option.some.injEq] at hu; subst hu; exact .nils z A
  | list z rows full A cap cs hl hf hs hA hc hv ih => intro u hu; simp only [PV.dn, Option.some.injEq] at hu; subst hu; exact .list z rows full A cap cs hl hf hs hA hc hv
  | func f => intro u hu; simp only [PV.dn, PV.dnL, Option.map_some, Option.some.injEq] at hu; subst hu; exact .func f
  | iface t v c _ ih =>
    intro u hu
    simp only [PV.dn, Option.map_eq_some_iff] at hu
    obtain ⟨u', hu', rfl⟩ := hu
    exact .iface t _ c (ih u' hu')
  | nili => intro u hu; simp only [PV.dn, Option.some.injEq] at hu; subst hu; exact .nili
theorem VR.dn {g : Gh} {v : PV} {c : Value} (h : VR g v c) : ∀ u, v.dn = some u → VR g.pop u c := by
  induction h with
  | data v c h => exact fun u hu => .data _ c (h.dn u hu)
  | agg vs cs hl _ ih =>
    intro u hu
    simp only [PV.dn, Option.map_eq_some_iff] at hu
    obtain ⟨us, hus, rfl⟩ := hu
    obtain ⟨h1, h2⟩ := dnL_get vs us hus
    refine .agg _ cs (by omega) fun i u hi => ?_
    obtain ⟨v, hv, hd⟩ := h2 i u hi
    exact ih i v hv u hd
  | tup vs cs hl _ ih =>
    intro u hu
    simp only [PV.dn, Option.map_eq_some_iff] at hu
    obtain ⟨us, hus, rfl⟩ := hu
    obtain ⟨h1, h2⟩ := dnL_get vs us hus
    refine .tup _ cs (by omega) fun i u hi => ?_
    obtain ⟨v, hv, hd⟩ := h2 i u hi
    exact ih i v hv u hd
  | ptr n t o b h =>
    intro u hu
    cases n with
    | zero => simp [PV.dn] at hu
    | succ n => simp only [PV.dn, Option.some.injEq] at hu; subst hu; exact .ptr n t o b h
  | rowp row o b p cs hc hv => intro u hu; simp only [PV.dn, Option.some.injEq] at hu; subst hu; exact .rowp row o b p cs hc hv
  | elem n a i o ver gen ai c ha hl h1 h =>
    intro u hu
    cases n with
    | zero => simp [PV.dn] at hu
    | succ n => simp only [PV.dn, Option.some.injEq] at hu; subst hu; exact .elem n a i o ver gen ai c ha hl h1 h
  | sl n a off len ver gen full ai c ha hl h1 h =>
    intro u hu
    cases n with
    | zero => simp [PV.dn] at hu
    | succ n => simp only [PV.dn, Option.some.injEq] at hu; subst hu; exact .sl n a off len ver gen full ai c ha hl h1 h
  | func f caps cs hl _ ih =>
    intro u hu
    simp only [PV.dn, Option.map_eq_some_iff] at hu
    obtain ⟨us, hus, rfl⟩ := hu
    obtain ⟨h1, h2⟩ := dnL_get caps us hus
    refine .func f _ cs (by omega) fun i u hi => ?_
    obtain ⟨v, hv, hd⟩ := h2 i u hi
    exact ih i v hv u hd
  | iface t v c _ ih =>
    intro u hu
    simp only [PV.dn, Option.map_eq_some_iff] at hu
    obtain ⟨u', hu', rfl⟩ := hu
    exact .iface t _ c (ih u' hu')
  | undef => intro u hu; simp only [PV.dn, Option.some.injEq] at hu; subst hu; exact .undef
  | junk c => intro u hu; simp only [PV.dn, Option.some.injEq] at hu; subst hu; exact .junk c
end Go.Proofs.Ytebflncfgjnkkaa.M
