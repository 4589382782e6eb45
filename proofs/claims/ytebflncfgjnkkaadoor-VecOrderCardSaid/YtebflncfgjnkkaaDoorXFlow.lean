/- FLOW: a region's operations, each shown once, over a frozen part of the heap. Fz: what is frozen (all that came in, and all that a call has made): a fact of a frozen thing holds in every world that has it so. Variables in memory (boxes) are outside of it. -/
import Derived.Test.YtebflncfgjnkkaaDoorWInvWords
import Derived.Test.YtebflncfgjnkkaaDoorWMore
import Derived.Test.YtebflncfgjnkkaaDoorWGuard
import Derived.Test.YtebflncfgjnkkaaDoorWLast
namespace Go.Proofs.YtebflncfgjnkkaaDoorW.Flow
open Go.RowKit Go.Proofs.YtebflncfgjnkkaaDoorW.PrintWords Go.Proofs.YtebflncfgjnkkaaDoorW.PrintLast
abbrev Fz := Nat → Option Obj
def Fz.le (f g : Fz) : Prop := ∀ k o, f k = some o → g k = some o
def Holds (f : Fz) (w : World) : Prop := ∀ k o, f k = some o → w.heap[k]? = some o
/-- It holds in every world that has what is frozen. -/
def Fr (φ : World → Prop) (f : Fz) : Prop := ∀ w, Holds f w → φ w
/-- What is frozen when all that lies behind w in w' is, too. -/
def ext (f : Fz) (w w' : World) : Fz := fun k => if k < w.heap.size then f k else w'.heap[k]?
theorem Fz.le_refl (f : Fz) : f.le f := fun _ _ h => h
theorem Fz.le_trans {f g h : Fz} (h1 : f.le g) (h2 : g.le h) : f.le h := fun k o hk => h2 k o (h1 k o hk)
theorem Fr.mono {φ : World → Prop} {f g : Fz} (h : f.le g) (hf : Fr φ f) : Fr φ g := fun w hw => hf w (fun k o hk => hw k o (h k o hk))
theorem Fr.imp {φ ψ : World → Prop} {f : Fz} (hf : Fr φ f) (h : ∀ w, φ w → ψ w) : Fr ψ f := fun w hw => h w (hf w hw)
theorem lt_of_some {w : World} {k : Nat} {o : Obj} (h : w.heap[k]? = some o) : k < w.heap.size := (Array.getElem?_eq_some_iff.1 h).1
theorem Holds.lt {f : Fz} {w : World} (h : Holds f w) {k : Nat} {o : Obj} (hk : f k = some o) : k < w.heap.size := lt_of_some (h k o hk)
theorem Holds.none {f : Fz} {w : World} (h : Holds f w) {k : Nat} (hk : w.heap.size ≤ k) : f k = .none := by
  cases hf : f k with
  | none => rfl
  | some o => exact absurd (h.lt hf) (by omega)
theorem le_ext {f : Fz} {w : World} (h : Holds f w) (w' : World) : f.le (ext f w w') := fun k o hk => by
  unfold ext
  rw [if_pos (h.lt hk)]
  exact hk
theorem Holds.ext {f : Fz} {w w' : World} (h : Holds f w) (hb : Below w.heap.size w w') : Holds (ext f w w') w' := fun k o hk => by
  unfold Flow.ext at hk
  split at hk
  · rename_i hl
    rw [hb.block k hl]
    exact h k o hk
  · exact hk
theorem ext_old {f : Fz} {w w' : World} {k : Nat} (hk : k < w.heap.size) : ext f w w' k = f k := by unfold ext; rw [if_pos hk]
theorem ext_self {f : Fz} {w w' : World} (h : Holds f w) (hs : w'.heap = w.heap) : ext f w w' = f := by
  funext k
  unfold ext
  split
  · rfl
  · rename_i hl
    rw [h.none (by omega), hs, Array.getElem?_eq_none (by omega)]
theorem Holds.below {f : Fz} {w w' : World} (h : Holds f w) (hb : Below w.heap.size w w') : Holds f w' := fun k o hk => by
  rw [hb.block k (h.lt hk)]
  exact h k o hk
/-- Only box g is written. -/
structure Wrote (w w' : World) (g : Nat) (o : Obj) : Prop where
  os : w'.os = w.os
  tape : w'.tape = w.tape
  output : w'.output = w.output
  size : w'.heap.size = w.heap.size
  other : ∀ k, k ≠ g → w'.heap[k]? = w.heap[k]?
  at_ : w'.heap[g]? = some o
section
variable (a0 : Act) (w0 : World) (f0 : Fz) (es : List (Nat × Tmp)) (AL : List Nat) (ct : Nat → (Nat → Bool) → Obj → Fz → Prop) (bx : List (Nat × ((Nat → Bool) → Obj → Fz → Prop))) (R : Nat → Value → Fz → Prop)
/-- es: the operations that fill a slot; AL: those of them that make a variable; ct: what it holds; bx: older variables; R: what is so of the others' values. -/
structure RelAt (V : Nat → Value) (G : Nat → Nat) (f : Fz) (b : Nat → Bool) (a : Act) (w : World) : Prop where
  act : a = putSel a0 b (es.map fun e => (e.1, e.2, V e.1))
  le : f0.le f
  holds : Holds f w
  below : Below w0.heap.size w0 w
  old : ∀ p ∈ bx, f p.1 = none ∧ (∃ o, w.heap[p.1]? = some o ∧ p.2 b o f) ∧ w0.heap.size ≤ p.1
  new : ∀ i ∈ AL, b i = true → V i = .pointer (some ⟨G i, 0, none⟩) ∧ f (G i) = none ∧ (∃ o, w.heap[G i]? = some o ∧ ct i b o f) ∧ w0.heap.size ≤ G i
  apart : ∀ i ∈ AL, b i = true → (∀ j ∈ AL, b j = true → i ≠ j → G i ≠ G j) ∧ ∀ p ∈ bx, G i ≠ p.1
  val : ∀ e ∈ es, AL.contains e.1 = false → b e.1 = true → R e.1 (V e.1) f
def Rel (b : Nat → Bool) (a : Act) (w : World) : Prop := ∃ V G f, RelAt a0 w0 f0 es AL ct bx R V G f b a w
/-- The operations' numbers, and their slots, are each there once. -/
def esOk (es : List (Nat × Tmp)) : Bool := decide (es.map (·.1)).Nodup && decide (es.map (·.2)).Nodup
end
section
variable {a0 : Act} {w0 : World} {f0 : Fz} {es : List (Nat × Tmp)} {AL : List Nat} {ct : Nat → (Nat → Bool) → Obj → Fz → Prop} {bx : List (Nat × ((Nat → Bool) → Obj → Fz → Prop))} {R : Nat → Value → Fz → Prop}
variable {V : Nat → Value} {G : Nat → Nat} {f : Fz} {b : Nat → Bool} {a : Act} {w : World}
theorem RelAt.size (h : RelAt a0 w0 f0 es AL ct bx R V G f b a w) : a.tmps.size = a0.tmps.size ∧ a.defers = a0.defers := by
  rw [h.act]
  exact putSel_size b _ a0
/-- A slot that the region doesn't fill. -/
theorem RelAt.keep (h : RelAt a0 w0 f0 es AL ct bx R V G f b a w) {t : Tmp} (ht : (es.all fun e => !(e.2 == t)) = true) : a.tmps[t]? = a0.tmps[t]? := by
  rw [h.act]
  refine putSel_off ?_
  rw [List.all_map]
  exact ht
theorem nodup_at {α β : Type} {f : α → β} : ∀ {l : List α}, (l.map f).Nodup → ∀ {i j : Nat} {x y : α}, l[i]? = some x → l[j]? = some y → f x = f y → i = j
  | [], _, i, j, x, y, h, _, _ => by simp at h
  | z :: l, hn, i, j, x, y, hi, hj, he => by
    rw [List.map_cons, List.nodup_cons] at hn
    cases i with
    | zero =>
      cases j with
      | zero => rfl
      | succ j =>
        simp at hi hj
        subst hi
        exact absurd (List.mem_map.2 ⟨y, List.mem_of_getElem? hj, he.symm⟩) hn.1
    | succ i =>
      cases j with
      | zero =>
        simp at hi hj
        subst hj
        exact absurd (List.mem_map.2 ⟨x, List.mem_of_getElem? hi, he⟩) hn.1
      | succ j =>
        simp at hi hj
        rw [nodup_at hn.2 hi hj he]
theorem esOk_at (hk : esOk es = true) {i t : Nat} (he : (i, t) ∈ es) : ∃ k : Nat, es[k]? = some (i, t) ∧ ∀ (j : Nat) (e : Nat × Tmp), es[j]? = some e → j ≠ k → e.1 ≠ i ∧ e.2 ≠ t := by
  simp only [esOk, Bool.and_eq_true, decide_eq_true_eq] at hk
  obtain ⟨k, hk'⟩ := List.getElem?_of_mem he
  exact ⟨k, hk', fun j e hj hne => ⟨fun h => hne (nodup_at hk.1 hj hk' h), fun h => hne (nodup_at hk.2 hj hk' h)⟩⟩
/-- A slot that an operation has filled. -/
theorem RelAt.get (h : RelAt a0 w0 f0 es AL ct bx R V G f b a w) (hk : esOk es = true) {i t : Nat} (he : es.contains (i, t) = true) (hb : b i = true) (ht : t < a0.tmps.size) : a.tmps[t]? = some (V i) := by
  obtain ⟨k, h1, h2⟩ := esOk_at hk (List.contains_iff_mem.1 he)
  rw [h.act]
  refine putSel_on (e := (i, t, V i)) k (by rw [List.getElem?_map, h1]; rfl) ?_ hb (Nat.ble_eq_true_of_le ht)
  rw [List.all_eq_true]
  intro x hx
  obtain ⟨j, hj⟩ := List.getElem?_of_mem hx
  rw [List.getElem?_drop, List.getElem?_map, Option.map_eq_some_iff] at hj
  obtain ⟨e, he', rfl⟩ := hj
  have := (h2 _ e he' (by omega)).2
  simpa using this
theorem act_up (hk : esOk es = true) {i t : Nat} (he : (i, t) ∈ es) (hb : b i = false) (v : Value) : (putSel a0 b (es.map fun e => (e.1, e.2, V e.1))).put (some t) v = putSel a0 (up b i) (es.map fun e => (e.1, e.2, if e.1 = i then v else V e.1)) := by
  obtain ⟨k, h1, h2⟩ := esOk_at hk he
  have hl := (List.getElem?_eq_some_iff.1 h1).1
  refine putSel_upk (v0 := V i) k hb (by rw [List.getElem?_map, h1]; rfl) ?_ ?_
  · apply List.ext_getElem?
    intro j
    by_cases hj : j = k
    · subst hj
      rw [List.getElem?_set_self (by simpa using hl), List.getElem?_map, h1]
      simp
    · rw [List.getElem?_set_ne (Ne.symm hj), List.getElem?_map, List.getElem?_map]
      cases hx : es[j]? with
      | none => rfl
      | some e => simp [(h2 j e hx hj).1]
  · rw [List.all_eq_true]
    intro x hx
    have : ∃ j, j ≠ k ∧ (es.map fun e => (e.1, e.2, V e.1))[j]? = some x := by
      rcases List.mem_append.1 hx with hx | hx
      · obtain ⟨j, hj⟩ := List.getElem?_of_mem hx
        have hjl := (List.getElem?_eq_some_iff.1 hj).1
        rw [List.length_take] at hjl
        rw [List.getElem?_take] at hj
        split at hj
        · exact ⟨j, by omega, hj⟩
        · cases hj
      · obtain ⟨j, hj⟩ := List.getElem?_of_mem hx
        rw [List.getElem?_drop] at hj
        exact ⟨k + 1 + j, by omega, hj⟩
    obtain ⟨j, hj, hx⟩ := this
    rw [List.getElem?_map, Option.map_eq_some_iff] at hx
    obtain ⟨e, he', rfl⟩ := hx
    have := h2 j e he' hj
    simp [this.1, this.2]
/-- Operation i has yielded v in the world w'. -/
theorem RelAt.put (h : RelAt a0 w0 f0 es AL ct bx R V G f b a w) (hk : esOk es = true) {i t : Nat} (he : (i, t) ∈ es) (hi : AL.contains i = false) (hb : b i = false) {v : Value} {w' : World} (hbel : Below w.heap.size w w')
    (hct : ∀ j ∈ AL, ct j (up b i) = ct j b) (hbx : ∀ p ∈ bx, p.2 (up b i) = p.2 b) (hm : ∀ e v (f g : Fz), f.le g → R e v f → R e v g) (hmc : ∀ j b o (f g : Fz), f.le g → ct j b o f → ct j b o g) (hmb : ∀ p ∈ bx, ∀ b o (f g : Fz), f.le g → p.2 b o f → p.2 b o g) (hR : R i v (ext f w w')) : Rel a0 w0 f0 es AL ct bx R (up b i) (a.put (some t) v) w' := by
  have hle := le_ext h.holds w'
  have hiA : ∀ j ∈ AL, j ≠ i := fun j hj e => by
    subst e
    rw [List.contains_iff_mem.2 hj] at hi
    cases hi
  refine ⟨fun j => if j = i then v else V j, G, ext f w w', ?_, Fz.le_trans h.le hle, h.holds.ext hbel, ?_, ?_, ?_, ?_, ?_⟩
  · rw [h.act, act_up hk he hb v]
  · exact h.below.trans (hbel.mono h.below.size)
  · intro p hp
    obtain ⟨h1, ⟨o, h2, h2c⟩, h3⟩ := h.old p hp
    have hl := lt_of_some h2
    exact ⟨(ext_old hl).trans h1, ⟨o, by rw [hbel.block _ hl, h2], by rw [hbx p hp]; exact hmb p hp _ _ _ _ hle h2c⟩, h3⟩
  · intro j hj hbj
    rw [up_ne (hiA j hj)] at hbj
    obtain ⟨h1, h2, ⟨o, h3, h3c⟩, h4⟩ := h.new j hj hbj
    have hl := lt_of_some h3
    exact ⟨by rw [if_neg (hiA j hj)]; exact h1, (ext_old hl).trans h2, ⟨o, by rw [hbel.block _ hl, h3], by rw [hct j hj]; exact hmc _ _ _ _ _ hle h3c⟩, h4⟩
  · intro j hj hbj
    rw [up_ne (hiA j hj)] at hbj
    refine ⟨fun q hq hbq hne => ?_, (h.apart j hj hbj).2⟩
    rw [up_ne (hiA q hq)] at hbq
    exact (h.apart j hj hbj).1 q hq hbq hne
  · intro e hee hA hbe
    by_cases hei : e.1 = i
    · simp only [hei, if_true]
      exact hR
    · rw [up_ne hei] at hbe
      simp only [if_neg hei]
      exact hm _ _ _ _ hle (h.val e hee hA hbe)
/-- Operation i has made a variable: its block is the next one. -/
theorem RelAt.alloc (h : RelAt a0 w0 f0 es AL ct bx R V G f b a w) (hk : esOk es = true) {i t : Nat} (he : (i, t) ∈ es) (hi : AL.contains i = true) (hb : b i = false) {o : Obj}
    (hct : ∀ j ∈ AL, j ≠ i → ct j (up b i) = ct j b) (ho : ct i (up b i) o f) (hbx : ∀ p ∈ bx, p.2 (up b i) = p.2 b) : Rel a0 w0 f0 es AL ct bx R (up b i) (a.put (some t) (.pointer (some ⟨w.heap.size, 0, none⟩))) (w.alloc o) := by
  have hbel : Below w.heap.size w (w.alloc o) := below_alloc (Below.refl _ _) o
  have hnew : (w.alloc o).heap[w.heap.size]? = some o := heap_alloc_new w o
  refine ⟨fun j => if j = i then .pointer (some ⟨w.heap.size, 0, none⟩) else V j, fun j => if j = i then w.heap.size else G j, f, ?_, h.le, h.holds.below hbel, ?_, ?_, ?_, ?_, ?_⟩
  · rw [h.act, act_up hk he hb _]
  · exact h.below.trans (hbel.mono h.below.size)
  · intro p hp
    obtain ⟨h1, ⟨o', h2, h2c⟩, h3⟩ := h.old p hp
    exact ⟨h1, ⟨o', by rw [hbel.block _ (lt_of_some h2), h2], by rw [hbx p hp]; exact h2c⟩, h3⟩
  · intro j hj hbj
    by_cases hji : j = i
    · subst hji
      simp only [if_true]
      exact ⟨trivial, h.holds.none (Nat.le_refl _), ⟨o, hnew, ho⟩, h.below.size⟩
    · rw [up_ne hji] at hbj
      obtain ⟨h1, h2, ⟨o', h3, h3c⟩, h4⟩ := h.new j hj hbj
      simp only [if_neg hji]
      exact ⟨h1, h2, ⟨o', by rw [hbel.block _ (lt_of_some h3), h3], by rw [hct j hj hji]; exact h3c⟩, h4⟩
  · intro j hj hbj
    by_cases hji : j = i
    · subst hji
      simp only [if_true]
      refine ⟨fun q hq hbq hne => ?_, fun p hp e => ?_⟩
      · rw [up_ne (Ne.symm hne)] at hbq
        rw [if_neg (Ne.symm hne)]
        obtain ⟨_, hq1, _⟩ := (h.new q hq hbq).2.2.1
        have := lt_of_some hq1
        omega
      · obtain ⟨_, hp1, _⟩ := (h.old p hp).2.1
        have := lt_of_some hp1
        omega
    · rw [up_ne hji] at hbj
      simp only [if_neg hji]
      refine ⟨fun q hq hbq hne => ?_, (h.apart j hj hbj).2⟩
      by_cases hqi : q = i
      · subst hqi
        simp only [if_true]
        obtain ⟨_, hj1, _⟩ := (h.new j hj hbj).2.2.1
        have := lt_of_some hj1
        omega
      · rw [up_ne hqi] at hbq
        rw [if_neg hqi]
        exact (h.apart j hj hbj).1 q hq hbq hne
  · intro e hee hA hbe
    have hei : e.1 ≠ i := fun e' => by rw [e', hi] at hA; cases hA
    rw [up_ne hei] at hbe
    simp only [if_neg hei]
    exact h.val e hee hA hbe
/-- Operation i has written the variable that operation q made. -/
theorem RelAt.store (h : RelAt a0 w0 f0 es AL ct bx R V G f b a w) {i q : Nat} (he : (es.all fun e => !(e.1 == i)) = true) (hi : AL.contains i = false) (hq : q ∈ AL) (hbq : b q = true) {w' : World} {o : Obj} (hw : Wrote w w' (G q) o)
    (hct : ∀ j ∈ AL, j ≠ q → ct j (up b i) = ct j b) (ho : ct q (up b i) o f) (hbx : ∀ p ∈ bx, p.2 (up b i) = p.2 b) : Rel a0 w0 f0 es AL ct bx R (up b i) (a.put none undef) w' := by
  have hiA : ∀ j ∈ AL, j ≠ i := fun j hj e => by
    subst e
    rw [List.contains_iff_mem.2 hj] at hi
    cases hi
  have hG := h.new q hq hbq
  refine ⟨V, G, f, ?_, h.le, ?_, ?_, ?_, ?_, ?_, ?_⟩
  · rw [h.act]
    refine putSel_none ?_
    rw [List.all_map]
    exact he
  · intro k o' hk
    have : k ≠ G q := fun e => by rw [e, hG.2.1] at hk; cases hk
    rw [hw.other k this]
    exact h.holds k o' hk
  · exact ⟨hw.os.trans h.below.os, hw.tape.trans h.below.tape, hw.output.trans h.below.output, by rw [hw.size]; exact h.below.size, fun k hk => (hw.other k (by have := hG.2.2.2; omega)).trans (h.below.block k hk)⟩
  · intro p hp
    obtain ⟨h1, ⟨o', h2, h2c⟩, h3⟩ := h.old p hp
    exact ⟨h1, ⟨o', by rw [hw.other _ (fun e => (h.apart q hq hbq).2 p hp e.symm), h2], by rw [hbx p hp]; exact h2c⟩, h3⟩
  · intro j hj hbj
    rw [up_ne (hiA j hj)] at hbj
    obtain ⟨h1, h2, ⟨o', h3, h3c⟩, h4⟩ := h.new j hj hbj
    by_cases hjq : j = q
    · subst hjq
      exact ⟨h1, h2, ⟨o, hw.at_, ho⟩, h4⟩
    · exact ⟨h1, h2, ⟨o', by rw [hw.other _ ((h.apart j hj hbj).1 q hq hbq hjq), h3], by rw [hct j hj hjq]; exact h3c⟩, h4⟩
  · intro j hj hbj
    rw [up_ne (hiA j hj)] at hbj
    refine ⟨fun r hr hbr hne => ?_, (h.apart j hj hbj).2⟩
    rw [up_ne (hiA r hr)] at hbr
    exact (h.apart j hj hbj).1 r hr hbr hne
  · intro e hee hA hbe
    have hei : e.1 ≠ i := by
      have := List.all_eq_true.1 he e hee
      simpa using this
    rw [up_ne hei] at hbe
    exact h.val e hee hA hbe
end
end Go.Proofs.YtebflncfgjnkkaaDoorW.Flow
