/- THE ABSTRACT MACHINE, thirty-first part: what comes into a call, read as plain data: the bridge from a claim's own reading. -/
import Derived.Test.YtebflncfgjnkkaaMa30
import Derived.ChangeArms
import Derived.ChangeShapes
import Derived.WideShapes
import Derived.Below
namespace Go.Proofs.Ytebflncfgjnkkaa.M
set_option linter.unusedSimpArgs false
set_option linter.unusedVariables false
open Go Go.RowKit Go.WideShapes Go.ChangeShapes Classical
section
variable {P : Program} {W : World}
def HasFs (H : TypeId → List PV → Prop) : List Field → List PV → Prop
  | [], vs => vs = []
  | f :: fs, vs => ∃ a b, vs = a ++ b ∧ H f.type a ∧ HasFs H fs b
/-- Cells' values of type t. -/
def Has (P : Program) : Nat → TypeId → List PV → Prop
  | 0, _, _ => False
  | n + 1, t, vs =>
    match P.underlying t with
    | some .bool => ∃ b, vs = [.bool b]
    | some (.int k) => ∃ x, vs = [.int k x] ∧ (Lit.int k x).wf = true
    | some .string => ∃ s, vs = [.str s] ∧ s.length ≤ maxLen
    | some (.slice e) => ∃ rows, vs = [.list (P.cellsOf e) rows false] ∧ rows.length ≤ maxLen ∧ ∀ r ∈ rows, Has P n e r
    | some (.struct fs) => HasFs (Has P n) fs.toList vs
    | _ => False
def contig (P : Program) (ts : List TypeId) : List Field → Nat → Nat → Bool
  | [], o, n => o == n
  | f :: fs, o, n => f.offset == o && (ts.contains f.type && contig P ts fs (o + P.cellsOf f.type) n)
def closedTy (P : Program) (ts : List TypeId) (t : TypeId) : Bool :=
  match P.underlying t with
  | some .bool | some (.int _) | some .string => true
  | some (.slice e) => ts.contains e
  | some (.struct fs) => contig P ts fs.toList 0 (P.cellsOf t)
  | _ => false
theorem contig_le {ts : List TypeId} : ∀ {fs : List Field} {o n : Nat}, contig P ts fs o n = true → o ≤ n
  | [], o, n, h => by simp [contig] at h; omega
  | f :: fs, o, n, h => by
    simp only [contig, Bool.and_eq_true] at h
    have := contig_le h.2.2
    omega
def fzOf (W : World) : Fz := fun b o => W.cell? ⟨b, o, none⟩
theorem list_choose {α : Type} {p : Nat → α → Prop} : ∀ n, (∀ i, i < n → ∃ a, p i a) → ∃ l : List α, l.length = n ∧ ∀ (i : Nat) (a : α), l[i]? = some a → p i a
  | 0, _ => ⟨[], rfl, fun i a h => by simp at h⟩
  | n + 1, h => by
    obtain ⟨l, h1, h2⟩ := list_choose n fun i hi => h i (by omega)
    obtain ⟨a, ha⟩ := h n (Nat.lt_succ_self n)
    refine ⟨l ++ [a], by simp [h1], fun i b hb => ?_⟩
    rcases Nat.lt_or_ge i n with hlt | hge
    · rw [List.getElem?_append_left (by omega)] at hb
      exact h2 i b hb
    · rw [List.getElem?_append_right (by omega)] at hb
      have : i = n := by
        have := (List.getElem?_eq_some_iff.1 hb).1
        simp at this
        omega
      subst this
      simp [h1] at hb
      subst hb
      exact ha
theorem add_add_ (a : Addr) (i j : Nat) : (a.add i).add j = a.add (i + j) := by
  unfold Addr.add
  by_cases hi : i = 0
  · subst hi; simp
  · by_cases hj : j = 0
    · subst hj; simp [hi]
    · simp [hi, hj, Nat.add_assoc]
theorem Addr.ext_of {x y : Addr} (h1 : x.block = y.block) (h2 : x.off = y.off) (h3 : x.spot = y.spot) : x = y := by
  cases x
  cases y
  simp only at h1 h2 h3
  rw [h1, h2, h3]
theorem cell_spot {a : Addr} {v : Value} (h : W.cell? a = some v) : a.spot = none := by
  unfold World.cell? at h
  split at h
  · split at h
    · cases h
    · rename_i hs
      simpa using hs
  · cases h
theorem opn {H : Type} {enc : TypeId × Value → H} {base : Nat} {sp : Nat → Bool} {held : Bool} {ts : List TypeId} (hts : ∀ t ∈ ts, closedTy P ts t = true) (hnz : ∀ t ∈ ts, P.cellsOf t ≠ 0) : ∀ (fuel : Nat) (t : TypeId) (cs : List Value) (x : DataW H × List MemPlace), t ∈ ts → DataW.trod enc P W base sp held fuel t cs = some x →
    ∃ vs, Has P fuel t vs ∧ vs.length = cs.length ∧ ∀ (j : Nat) (v : PV), vs[j]? = some v → ∃ c : Value, cs[j]? = some c ∧ FR (fzOf W) v c := by
  intro fuel
  induction fuel with
  | zero => intro t cs x _ h; simp [DataW.trod] at h
  | succ fuel ih =>
    intro t cs x ht h
    have hcl := hts t ht
    unfold closedTy at hcl
    have one : ∀ (v : PV) (c : Value), Has P (fuel + 1) t [v] → cs = [c] → FR (fzOf W) v c → ∃ vs, Has P (fuel + 1) t vs ∧ vs.length = cs.length ∧ ∀ (j : Nat) (v : PV), vs[j]? = some v → ∃ c : Value, cs[j]? = some c ∧ FR (fzOf W) v c := by
      intro v c h1 h2 h3
      subst h2
      refine ⟨[v], h1, rfl, fun j u hu => ?_⟩
      cases j with
      | zero => simp at hu; subst hu; exact ⟨c, rfl, h3⟩
      | succ j => simp at hu
    split at hcl
    · rename_i hu
      obtain ⟨b, rfl, _⟩ := DataW.trod_bool hu h
      exact one _ _ (by simp only [Has, hu]; exact ⟨b, rfl⟩) rfl (.bool b)
    · rename_i k hu
      obtain ⟨n, rfl, _, hw⟩ := DataW.trod_int hu h
      exact one _ _ (by simp only [Has, hu]; exact ⟨n, rfl, hw⟩) rfl (.int k n)
    · rename_i hu
      obtain ⟨s, rfl, _, hs⟩ := DataW.trod_string hu h
      have e : s = ⟨s.data.toList.toArray⟩ := by simp
      refine one (.str s.data.toList) _ (by simp only [Has, hu]; exact ⟨_, rfl, by rw [Array.length_toList]; exact hs⟩) rfl ?_
      have := FR.str (fz := fzOf W) s.data.toList
      rwa [str_of] at this
    · rename_i e hu
      have he : e ∈ ts := by simpa using hcl
      rcases DataW.trod_slice hu h with ⟨rfl, _⟩ | ⟨a, len, cap, elems, rest, n, hn, rfl, rfl, hb, hl, hm, hlen, hel, _, _⟩
      · refine one (.list (P.cellsOf e) [] false) _ (by simp only [Has, hu]; exact ⟨[], rfl, Nat.zero_le _, fun r hr => by cases hr⟩) rfl ?_
        exact .list (P.cellsOf e) [] false none 0 (fun _ _ => undef) (Nat.le_refl _) (fun h => by cases h) (fun r hr => by cases hr) (fun h => absurd rfl h) (fun ad i j row v h => by cases h) (fun i j row v hi => by simp at hi)
      · obtain rfl : fuel = n := by omega
        have each : ∀ i, i < len → ∃ r : List PV, Has P fuel e r ∧ r.length = P.cellsOf e ∧ ∀ (j : Nat) (v : PV), r[j]? = some v → ∃ c : Value, W.cell? (a.add (i * P.cellsOf e + j)) = some c ∧ FR (fzOf W) v c := by
          intro i hi
          have h1 := hel i hi
          rw [List.getElem?_eq_getElem (by omega), Option.bind_eq_some_iff] at h1
          obtain ⟨c, hc, hy⟩ := h1
          obtain ⟨r, q1, q2, q3⟩ := ih e c _ he hy
          have hcs := World.cells?_some hc
          refine ⟨r, q1, by rw [q2]; exact hcs.2.1, fun j v hj => ?_⟩
          obtain ⟨u, hu', hf⟩ := q3 j v hj
          have h2 := hcs.2.2 j (by
            have := (List.getElem?_eq_some_iff.1 hu').1
            rw [hcs.2.1] at this
            exact this)
          rw [add_add_] at h2
          exact ⟨u, h2.trans hu', hf⟩
        obtain ⟨rows, r1, r2⟩ := list_choose len each
        refine one (.list (P.cellsOf e) rows false) _ (by
          simp only [Has, hu]
          refine ⟨rows, rfl, by rw [r1]; exact Nat.le_trans hl hm, fun r hr => ?_⟩
          obtain ⟨i, hi⟩ := List.getElem?_of_mem hr
          exact (r2 i r hi).1) rfl ?_
        have hspot : rows ≠ [] → P.cellsOf e ≠ 0 → a.spot = none := by
          intro hne hz
          cases hr : rows with
          | nil => exact absurd hr hne
          | cons r rs =>
            have h0 := r2 0 r (by rw [hr]; rfl)
            cases hrr : r with
            | nil => rw [hrr] at h0; exact absurd h0.2.1.symm hz
            | cons v vs =>
              obtain ⟨c, hc, _⟩ := h0.2.2 0 v (by rw [hrr]; rfl)
              have := cell_spot hc
              simpa [Addr.add] using this
        have hcells : ∀ (i j : Nat) (row : List PV) (v : PV), rows[i]? = some row → row[j]? = some v → W.cell? ⟨a.block, a.off + (i * P.cellsOf e + j), none⟩ = some ((W.cell? ⟨a.block, a.off + (i * P.cellsOf e + j), none⟩).getD undef) ∧ FR (fzOf W) v ((W.cell? ⟨a.block, a.off + (i * P.cellsOf e + j), none⟩).getD undef) := by
          intro i j row v hi hj
          obtain ⟨_, q2, q3⟩ := r2 i row hi
          obtain ⟨c, hc, hf⟩ := q3 j v hj
          have hs := cell_spot hc
          have ha : a.add (i * P.cellsOf e + j) = ⟨a.block, a.off + (i * P.cellsOf e + j), none⟩ := by
            unfold Addr.add at hc hs ⊢
            split
            · rename_i h0
              rw [if_pos h0] at hs
              cases a
              simp only at hs
              subst hs
              simp [h0]
            · rename_i h0
              rfl
          rw [ha] at hc
          rw [hc]
          exact ⟨rfl, hf⟩
        subst r1
        by_cases hsp : a.spot = none
        · exact .list (P.cellsOf e) rows false (some a) cap (fun i j => (W.cell? ⟨a.block, a.off + (i * P.cellsOf e + j), none⟩).getD undef) hl (fun h => by cases h) (fun r hr => by
            obtain ⟨i, hi⟩ := List.getElem?_of_mem hr
            exact (r2 i r hi).2.1) (fun _ => ⟨a, rfl, hsp⟩) (fun ad i j row v had hi hj => by
              obtain rfl := Option.some.inj had
              exact (hcells i j row v hi hj).1) (fun i j row v hi hj => (hcells i j row v hi hj).2)
        · by_cases hrow : rows = []
          · subst hrow
            exact .list (P.cellsOf e) [] false (some a) cap (fun _ _ => undef) hl (fun h => by cases h) (fun r hr => by cases hr) (fun h => absurd rfl h) (fun ad i j row v _ hi => by simp at hi) (fun i j row v hi => by simp at hi)
          · exact absurd (hspot hrow (fun hz => hnz e he hz)) hsp
    · rename_i fs hu
      obtain ⟨xs, n, hn, _, hl, hx, hy⟩ := DataW.trod_struct hu h
      obtain rfl : fuel = n := by omega
      have key : ∀ (l : List Field) (o : Nat) (ys : List (DataW H × List MemPlace)), contig P ts l o (P.cellsOf t) = true → ys.length = l.length → (∀ (i : Nat) (f : Field), l[i]? = some f → DataW.trod enc P W base sp held fuel f.type ((cs.drop f.offset).take (P.cellsOf f.type)) = ys[i]?) →
          ∃ vs, HasFs (Has P fuel) l vs ∧ vs.length = (cs.drop o).length ∧ ∀ (j : Nat) (v : PV), vs[j]? = some v → ∃ c : Value, (cs.drop o)[j]? = some c ∧ FR (fzOf W) v c := by
        intro l
        induction l with
        | nil =>
          intro o ys hc _ _
          simp only [contig, beq_iff_eq] at hc
          exact ⟨[], rfl, by simp; omega, fun j v h => by simp at h⟩
        | cons f l ihl =>
          intro o ys hc hyl hall
          simp only [contig, Bool.and_eq_true, beq_iff_eq] at hc
          obtain ⟨ho, hft, hc'⟩ := hc
          have hle := contig_le hc'
          cases ys with
          | nil => simp at hyl
          | cons y ys =>
            have h0 := hall 0 f rfl
            simp only [List.getElem?_cons_zero] at h0
            rw [ho] at h0
            obtain ⟨va, a1, a2, a3⟩ := ih f.type _ y (by simpa using hft) h0
            obtain ⟨vb, b1, b2, b3⟩ := ihl (o + P.cellsOf f.type) ys hc' (by simpa using hyl) (fun i f' hi => by simpa using hall (i + 1) f' (by simpa using hi))
            have hal : va.length = P.cellsOf f.type := by
              rw [a2, List.length_take, List.length_drop]
              omega
            refine ⟨va ++ vb, ⟨va, vb, rfl, a1, b1⟩, by simp only [List.length_append, List.length_drop, hal, b2]; omega, fun j v hj => ?_⟩
            rcases Nat.lt_or_ge j va.length with hlt | hge
            · rw [List.getElem?_append_left hlt] at hj
              obtain ⟨c, hc1, hc2⟩ := a3 j v hj
              rw [List.getElem?_take] at hc1
              split at hc1
              · exact ⟨c, hc1, hc2⟩
              · cases hc1
            · rw [List.getElem?_append_right hge] at hj
              obtain ⟨c, hc1, hc2⟩ := b3 _ v hj
              refine ⟨c, ?_, hc2⟩
              rw [List.getElem?_drop] at hc1 ⊢
              rw [← hc1, hal]
              congr 1
              rw [hal] at hge
              omega
      obtain ⟨vs, v1, v2, v3⟩ := key fs.toList 0 xs hcl (by simpa using hx) (fun i f hi => hy i f (by simpa using hi))
      rw [List.drop_zero] at v2 v3
      exact ⟨vs, by simp only [Has, hu]; exact v1, v2, v3⟩
    · cases hcl
end
end Go.Proofs.Ytebflncfgjnkkaa.M
