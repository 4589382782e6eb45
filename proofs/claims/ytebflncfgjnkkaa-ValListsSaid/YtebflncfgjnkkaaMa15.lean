/- THE ABSTRACT MACHINE, fifteenth part: what is handed on; new variables; literals of rows. -/
import Derived.Test.YtebflncfgjnkkaaMa14
import Derived.Great.BuildSlice
namespace Go.Proofs.Ytebflncfgjnkkaa.M
set_option linter.unusedSimpArgs false
set_option linter.unusedVariables false
open Go
section
variable {g g' : Gh} {S S' : Sto} {w w' : World} {P : Program}
theorem handL_ok : ∀ (vs vs' : List PV) (S S' : Sto) (g : Gh) (f : Nat → Value), WR g S w → (∀ i v, vs[i]? = some v → VR g v (f i)) → handL S vs = some (vs', S') → ∃ g', WR g' S' w ∧ Ext g g' ∧ Tr g w g' w ∧ vs'.length = vs.length ∧ ∀ i v, vs'[i]? = some v → VR g' v (f i)
  | [], vs', S, S', g, f, hw, h, hh => by
    simp only [handL, Option.some.injEq, Prod.mk.injEq] at hh
    obtain ⟨rfl, rfl⟩ := hh
    exact ⟨g, hw, Ext.refl _, Tr.refl _ _, rfl, fun i v h => by simp at h⟩
  | v :: vs, vs', S, S', g, f, hw, h, hh => by
    simp only [handL] at hh
    split at hh
    · rename_i v1 S1 h1
      split at hh
      · rename_i vs2 S2 h2
        simp only [Option.some.injEq, Prod.mk.injEq] at hh
        obtain ⟨rfl, rfl⟩ := hh
        obtain ⟨g1, w1, x1, t1, r1⟩ := hand1_ok hw (h 0 v rfl) h1
        obtain ⟨g2, w2, x2, t2, e2, r2⟩ := handL_ok vs vs2 S1 S2 g1 (fun i => f (i + 1)) w1 (fun i v hi => (h (i + 1) v (by simpa using hi)).mono x1) h2
        refine ⟨g2, w2, x1.trans x2, t1.trans t2, by simp [e2], fun i v hi => ?_⟩
        cases i with
        | zero => simp at hi; subst hi; exact r1.mono x2
        | succ i => simp at hi; exact r2 i v hi
      · cases hh
    · cases hh
theorem hand_ok (hw : WR g S w) {v v' : PV} {c : Value} (h : VR g v c) (hh : hand S v = some (v', S')) : ∃ g', WR g' S' w ∧ Ext g g' ∧ Tr g w g' w ∧ VR g' v' c := by
  unfold hand at hh
  split at hh
  · rename_i vs
    split at hh
    · rename_i vs1 S1 h1
      simp only [Option.some.injEq, Prod.mk.injEq] at hh
      obtain ⟨rfl, rfl⟩ := hh
      obtain ⟨cs, rfl, h2, h3⟩ := h.agg_inv
      obtain ⟨g1, w1, x1, t1, e1, r1⟩ := handL_ok vs vs1 S S1 g (fun i => cs.getD i undef) hw h3 h1
      exact ⟨g1, w1, x1, t1, .agg _ _ (e1.trans h2) r1⟩
    · cases hh
  · exact hand1_ok hw h hh
theorem handA_ok : ∀ (vs vs' : List PV) (S S' : Sto) (g : Gh) (f : Nat → Value), WR g S w → (∀ i v, vs[i]? = some v → VR g v (f i)) → handA S vs = some (vs', S') → ∃ g', WR g' S' w ∧ Ext g g' ∧ Tr g w g' w ∧ vs'.length = vs.length ∧ ∀ i v, vs'[i]? = some v → VR g' v (f i)
  | [], vs', S, S', g, f, hw, h, hh => by
    simp only [handA, Option.some.injEq, Prod.mk.injEq] at hh
    obtain ⟨rfl, rfl⟩ := hh
    exact ⟨g, hw, Ext.refl _, Tr.refl _ _, rfl, fun i v h => by simp at h⟩
  | v :: vs, vs', S, S', g, f, hw, h, hh => by
    simp only [handA] at hh
    split at hh
    · rename_i v1 S1 h1
      split at hh
      · rename_i vs2 S2 h2
        simp only [Option.some.injEq, Prod.mk.injEq] at hh
        obtain ⟨rfl, rfl⟩ := hh
        obtain ⟨g1, w1, x1, t1, r1⟩ := hand_ok hw (h 0 v rfl) h1
        obtain ⟨g2, w2, x2, t2, e2, r2⟩ := handA_ok vs vs2 S1 S2 g1 (fun i => f (i + 1)) w1 (fun i v hi => (h (i + 1) v (by simpa using hi)).mono x1) h2
        refine ⟨g2, w2, x1.trans x2, t1.trans t2, by simp [e2], fun i v hi => ?_⟩
        cases i with
        | zero => simp at hi; subst hi; exact r1.mono x2
        | succ i => simp at hi; exact r2 i v hi
      · cases hh
    · cases hh
theorem hand1_length {v v' : PV} (hh : hand1 S v = some (v', S')) : S'.length = S.length := by
  unfold hand1 at hh
  split at hh
  · cases hh; rfl
  · cases hh; rfl
  · split at hh
    · split at hh
      · cases hh; exact setArr_length _ _ _ _
      · cases hh
    · cases hh
  · cases hh; rfl
theorem handL_length : ∀ (vs vs' : List PV) (S S' : Sto), handL S vs = some (vs', S') → S'.length = S.length
  | [], vs', S, S', hh => by simp only [handL, Option.some.injEq, Prod.mk.injEq] at hh; rw [hh.2]
  | v :: vs, vs', S, S', hh => by
    simp only [handL] at hh
    split at hh
    · rename_i v1 S1 h1
      split at hh
      · rename_i vs2 S2 h2
        simp only [Option.some.injEq, Prod.mk.injEq] at hh
        rw [← hh.2, handL_length vs vs2 S1 S2 h2, hand1_length h1]
      · cases hh
    · cases hh
theorem hand_length {v v' : PV} (hh : hand S v = some (v', S')) : S'.length = S.length := by
  unfold hand at hh
  split at hh
  · split at hh
    · rename_i vs1 S1 h1
      cases hh
      exact handL_length _ _ _ _ h1
    · cases hh
  · exact hand1_length hh
theorem handA_length : ∀ (vs vs' : List PV) (S S' : Sto), handA S vs = some (vs', S') → S'.length = S.length
  | [], vs', S, S', hh => by simp only [handA, Option.some.injEq, Prod.mk.injEq] at hh; rw [hh.2]
  | v :: vs, vs', S, S', hh => by
    simp only [handA] at hh
    split at hh
    · rename_i v1 S1 h1
      split at hh
      · rename_i vs2 S2 h2
        simp only [Option.some.injEq, Prod.mk.injEq] at hh
        rw [← hh.2, handA_length vs vs2 S1 S2 h2, hand_length h1]
      · cases hh
    · cases hh
/-! ### New variables -/
theorem initC_get (d : Nat) : ∀ (vs : List PV) (i j : Nat), (initC d i vs)[j]? = (vs[j]?).map fun v => match v with | .nils _ => .sl 0 (.cell d (i + j)) 0 0 0 0 false | v => v
  | [], i, j => by simp [initC]
  | v :: vs, i, 0 => by cases v <;> simp [initC]
  | v :: vs, i, j + 1 => by
    have ih := initC_get d vs (i + 1) j
    rw [show i + 1 + j = i + (j + 1) by omega] at ih
    cases v <;> simpa [initC] using ih
theorem initC_length (d : Nat) : ∀ (vs : List PV) (i : Nat), (initC d i vs).length = vs.length
  | [], i => rfl
  | v :: vs, i => by cases v <;> simp [initC, initC_length d vs]
theorem okA_get (d : Nat) : ∀ (vs : List PV) (i : Nat) (a : AK → Option Arr), okA d i vs a → ∀ j z, vs[j]? = some (.nils z) → a (.cell d (i + j)) = some ⟨z, [], false, 0⟩
  | [], i, a, _, j, z, h => by simp at h
  | v :: vs, i, a, ho, j, z, h => by
    have h2 : okA d (i + 1) vs a := by cases v <;> first | exact ho | exact ho.2
    cases j with
    | zero => simp at h; subst h; exact ho.1
    | succ j =>
      have := okA_get d vs (i + 1) a h2 j z (by simpa using h)
      rwa [show i + 1 + j = i + (j + 1) by omega] at this
theorem initA_other (d : Nat) : ∀ (vs : List PV) (i : Nat) (a : AK → Option Arr) (k : AK), (∀ j, i ≤ j → k ≠ .cell d j) → initA d i vs a k = a k
  | [], i, a, k, _ => rfl
  | v :: vs, i, a, k, h => by
    have h' : ∀ j, i + 1 ≤ j → k ≠ .cell d j := fun j hj => h j (by omega)
    cases v <;> simp only [initA] <;> rw [initA_other d vs _ _ k h']
    unfold updK
    rw [if_neg (h i (Nat.le_refl _))]
theorem initA_get (d : Nat) : ∀ (vs : List PV) (i : Nat) (a : AK → Option Arr) (j z : Nat), vs[j]? = some (.nils z) → initA d i vs a (.cell d (i + j)) = some ⟨z, [], false, 0⟩
  | [], i, a, j, z, h => by simp at h
  | v :: vs, i, a, j, z, h => by
    cases j with
    | zero =>
      simp at h
      subst h
      simp only [initA]
      rw [initA_other d vs _ _ _ (fun j hj e => by cases e; omega)]
      simp [updK]
    | succ j =>
      have ih := fun a => initA_get d vs (i + 1) a j z (by simpa using h)
      rw [show i + (j + 1) = i + 1 + j by omega]
      cases v <;> simp only [initA] <;> exact ih _
/-- Where the rows of a new variable lie that are nil: nowhere. -/
def nilAI (vs : List PV) (cs : Array Value) (i : Nat) : Option AI :=
  match vs[i]? with
  | some (.nils z) => (match cs.getD i undef with | .slice A _ _ => some ⟨A, 0, z, 0, 0, none⟩ | _ => none)
  | _ => none
def Gh.box (g : Gh) (d n : Nat) (vs : List PV) (cs : Array Value) : Gh :=
  ⟨fun m t => if m = 0 ∧ t = d then some n else g.b m t, fun m k => match m, k with | 0, .cell t i => if t = d then nilAI vs cs i else g.a 0 (.cell t i) | m, k => g.a m k, g.fz⟩
/-- A variable of slot d is made: vs is what it holds. -/
theorem mkBox (hw : WR g S w) {d : Nat} (hb : g.b 0 d = none) (ha : ∀ i, g.a 0 (.cell d i) = none) {vs : List PV} {cs : Array Value} (hc : Cells g vs cs) (elem : TypeId) (h1 : getBox S' 0 d = some (initC d 0 vs)) (h2 : ∀ j z, vs[j]? = some (.nils z) → getArr S' 0 (.cell d j) = some ⟨z, [], false, 0⟩)
    (hSb : ∀ m t b, g.b m t = some b → getBox S' m t = getBox S m t) (hSa : ∀ m k ai, g.a m k = some ai → getArr S' m k = getArr S m k) :
    ∃ g', WR g' S' (w.alloc (.cells cs elem)) ∧ Exw g g' ∧ Tr g w g' (w.alloc (.cells cs elem)) ∧ g'.b 0 d = some w.heap.size ∧ ∀ t, t ≠ d → Bare g 0 t → Bare g' 0 t := by
  let g' := g.box d w.heap.size vs cs
  have hx : Exw g g' := by
    refine ⟨fun n t b h => ?_, fun n k ai h => ?_, fun _ _ _ h => h⟩
    · show (if n = 0 ∧ t = d then some w.heap.size else g.b n t) = some b
      rw [if_neg]
      · exact h
      · rintro ⟨rfl, rfl⟩
        rw [hb] at h
        cases h
    · refine ⟨ai, ?_, AIle.refl _⟩
      cases n with
      | succ n => exact h
      | zero =>
        cases k with
        | slot t => exact h
        | cell t i =>
          show (if t = d then nilAI vs cs i else g.a 0 (.cell t i)) = some ai
          rw [if_neg]
          · exact h
          · rintro rfl
            rw [ha] at h
            cases h
  have hown : ∀ x b, g'.own x = some b → (x = .box 0 d ∧ b = w.heap.size) ∨ g.own x = some b := by
    intro x b h
    cases x with
    | box n t =>
      simp only [Gh.own, g', Gh.box] at h
      split at h
      · rename_i e
        obtain ⟨rfl, rfl⟩ := e
        exact .inl ⟨rfl, (Option.some.inj h).symm⟩
      · exact .inr h
    | arr n k =>
      cases n with
      | succ n => exact .inr h
      | zero =>
        cases k with
        | slot t => exact .inr h
        | cell t i =>
          simp only [Gh.own, g', Gh.box] at h
          split at h
          · unfold nilAI at h
            split at h
            · split at h <;> simp at h
            · simp at h
          · exact .inr h
  have hw1 := hw.alloc (.cells cs elem)
  have hfznew : ∀ o, g.fz w.heap.size o = none := by
    intro o
    cases h : g.fz w.heap.size o with
    | none => rfl
    | some v => exact absurd (cell_lt (hw.fz _ _ _ h)) (Nat.lt_irrefl _)
  refine ⟨g', ⟨hw1.fz, ?_, ?_, ?_⟩, hx, ⟨rfl, rfl, rfl, by rw [alloc_size]; omega, fun _ _ _ h => h, fun k hk _ => alloc_heap w _ hk, fun x k h => ?_, ?_⟩, ?_, ?_⟩
  · intro n t b h
    by_cases e : n = 0 ∧ t = d
    · obtain ⟨rfl, rfl⟩ := e
      have hbn : b = w.heap.size := by
        have : g'.b 0 t = some w.heap.size := by simp [g', Gh.box]
        rw [this] at h
        exact (Option.some.inj h).symm
      subst hbn
      refine ⟨_, cs, elem, h1, alloc_new w _, by rw [initC_length]; exact hc.1, fun i v hi => ?_, hfznew⟩
      rw [initC_get, Option.map_eq_some_iff] at hi
      obtain ⟨v0, hv0, hv⟩ := hi
      have hr0 := hc.2 i v0 hv0
      simp only [PV.upN]
      cases v0 with
      | nils z =>
        simp only [Nat.zero_add] at hv
        subst hv
        cases hr0 with | data _ _ hr0 =>
        generalize hcd : cs.getD i Go.undef = c at hr0
        cases hr0 with | nils _ A =>
        refine .sl 0 (.cell t i) 0 0 0 0 false ⟨A, 0, z, 0, 0, none⟩ _ ?_ (.inr ⟨rfl, Nat.le_refl _⟩) rfl (fun _ _ => ⟨A, 0, rfl, ⟨Nat.le_refl _, Nat.le_refl _, (fun _ => rfl), (fun h => absurd h (Nat.lt_irrefl _)), (fun h => by cases h), (fun _ _ _ => rfl)⟩⟩)
        simp only [g', Gh.box, nilAI, hv0, hcd, if_true]
      | _ => simp only at hv; subst hv; exact hr0.monow hx
    · have h' : g.b n t = some b := by
        simp only [g', Gh.box, if_neg e] at h
        exact h
      obtain ⟨us, cs', elem', q1, q2, q3, q4, q5⟩ := hw1.box n t b h'
      exact ⟨us, cs', elem', (hSb n t b h').trans q1, q2, q3, fun i v hi => (q4 i v hi).monow hx, q5⟩
  · intro n k ai h
    have old : g.a n k = some ai → ∃ A, getArr S' n k = some A ∧ ArrRel g' (w.alloc (.cells cs elem)) A ai := by
      intro h'
      obtain ⟨A, q1, q2⟩ := hw1.arr n k ai h'
      exact ⟨A, (hSa n k ai h').trans q1, q2.ghost rfl⟩
    cases n with
    | succ n => exact old h
    | zero =>
      cases k with
      | slot t => exact old h
      | cell t i =>
        simp only [g', Gh.box] at h
        split at h
        · rename_i e
          subst e
          unfold nilAI at h
          split at h
          · rename_i z hz
            split at h
            · cases h
              refine ⟨_, h2 i z hz, ⟨rfl, rfl, rfl, (fun r hr => by cases hr), Nat.le_refl _, fun h => absurd rfl h, ⟨fun _ _ => undef, (fun i j row v hi => by simp at hi), (fun ad i j row v _ hi => by simp at hi)⟩, (fun b hb => by cases hb), fun _ => ⟨rfl, .inr rfl⟩⟩⟩
            · cases h
          · cases h
        · exact old h
  · intro x y b hx1 hy1
    rcases hown x b hx1 with ⟨rfl, e1⟩ | e1 <;> rcases hown y b hy1 with ⟨rfl, e2⟩ | e2
    · rfl
    · have := hw.own_lt e2; omega
    · have := hw.own_lt e1; omega
    · exact hw.inj x y b e1 e2
  · rcases hown x k h with ⟨_, rfl⟩ | h
    · exact .inr (Nat.le_refl _)
    · exact .inl h
  · exact ⟨⟨fun n t b hb => hx.b (n + 1) t b hb, fun n k ai ha => hx.a (n + 1) k ai ha, hx.fz⟩, fun n t hb => hb⟩
  · simp [g', Gh.box]
  · intro t ht hb
    refine ⟨?_, fun i => ?_⟩
    · show (if 0 = 0 ∧ t = d then some w.heap.size else g.b 0 t) = none
      rw [if_neg (fun e => ht e.2)]
      exact hb.1
    · show (if t = d then nilAI vs cs i else g.a 0 (.cell t i)) = none
      rw [if_neg ht]
      exact hb.2 i
end
end Go.Proofs.Ytebflncfgjnkkaa.M
