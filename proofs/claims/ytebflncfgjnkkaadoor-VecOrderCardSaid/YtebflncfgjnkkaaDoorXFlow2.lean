/- FLOW, second part: regions whose order is drawn, and others, by their operations' steps; the steps of an operation that yields, of a variable that is made, of one that is written. -/
import Derived.Test.YtebflncfgjnkkaaDoorXFlow
namespace Go.Proofs.YtebflncfgjnkkaaDoorW.Flow
open Go.RowKit Go.Proofs.YtebflncfgjnkkaaDoorW.PrintWords Go.Proofs.YtebflncfgjnkkaaDoorW.PrintLast
section
variable {P : Program} {ops : Array Oper} {Q : Exit → Act → World → Prop} {T : Bool × List (List Nat × List Nat)} {B : List Nat} {n : Nat} {I : (Nat → Bool) → Act → World → Prop} {a : Act} {w : World}
theorem lof_none (n : Nat) : lof n (List.range n) (fun _ => false) = List.replicate n false := by
  apply List.ext_getElem?
  intro j
  by_cases hj : j < n
  · simp [lof, hj]
  · rw [List.getElem?_eq_none (by simp [lof]; omega), List.getElem?_eq_none (by simp; omega)]
/-- A region whose order is drawn. -/
theorem region_any {id : Nat} (n : Nat) (I : (Nat → Bool) → Act → World → Prop) (hm : P.follows .mixedOrders = true) (hn : ops.size = n) (hT : rtab .any ops = T) (hw : waitsOk T.2 B = true) (hl : T.2.length = n) (hk : baseOk T.2 (List.range n) = true)
    (h0 : I (fun _ => false) a w.drew) (hs : ∀ i ∈ List.range n, StepAt P ops Q B (List.range n) I i) (hend : ∀ b a' w', (∀ j, j < n → b j = true) → I b a' w' → Q .normal a' w') : (Code.region id ops true).wp P Q a w := by
  refine start_ (ds := []) (S := fun _ => True) (Array.replicate n false) hm hn rfl trivial (fun _ => ?_)
  refine inv_ (List.range n) I hT hw hk ?_ h0 hs (fun b a' w' hb hI => hend b a' w' (fun j hj => hb j (by simp [hj])) hI)
  rw [hl, lof_none]
  simp
/-- A region in the text's order: what comes later has not been. -/
theorem region_list {id : Nat} (n : Nat) (I : (Nat → Bool) → Act → World → Prop) (hn : ops.size = n) (hB : (List.range n).all (fun i => decide (B.getD i 0 < 2 ^ i)) = true)
    (h0 : I (fun _ => false) a w) (hs : ∀ i ∈ List.range n, StepAt P ops Q B (List.range n) I i) (hend : ∀ b a' w', (∀ j, j < n → b j = true) → I b a' w' → Q .normal a' w') : (Code.region id ops false).wp P Q a w := by
  refine wp_region_list ?_
  have low : ∀ i j, i < n → (B.getD i 0).testBit j = true → j < i := by
    intro i j hi hj
    have h1 : B.getD i 0 < 2 ^ i := of_decide_eq_true (List.all_eq_true.1 hB i (List.mem_range.2 hi))
    rcases Nat.lt_or_ge j i with h | h
    · exact h
    · rw [Nat.testBit_lt_two_pow (Nat.lt_of_lt_of_le h1 (Nat.pow_le_pow_right (by decide) h))] at hj
      cases hj
  have go : ∀ (l : List Oper) (k : Nat) (b : Nat → Bool) (a : Act) (w : World), k + l.length = n → (∀ j, l[j]? = ops[k + j]?) → (∀ j, b j = true ↔ j < k) → I b a w → wpList P ops Q l a w := by
    intro l
    induction l with
    | nil =>
      intro k b a w hk _ hb hI
      exact hend b a w (fun j hj => (hb j).2 (by simp at hk; omega)) hI
    | cons o l ih =>
      intro k b a w hk hops hb hI
      simp only [List.length_cons] at hk
      obtain ⟨oi, hoi, hK⟩ := hs k (List.mem_range.2 (by omega)) b a w hI (by
        cases h : b k with
        | false => rfl
        | true => exact absurd ((hb k).1 h) (by omega)) (fun j hj => by
          rw [Bool.and_eq_true] at hj
          exact (hb j).2 (low k j (by omega) hj.2)) (fun d hd => by
          rw [Bool.and_eq_true, List.contains_iff_mem, List.mem_range] at hd
          cases h : b d with
          | false => rfl
          | true =>
            have h1 := low d k hd.1 hd.2
            have h2 := (hb d).1 h
            omega)
      have h0 := hops 0
      simp only [List.getElem?_cons_zero, Nat.add_zero] at h0
      obtain rfl : oi = o := Option.some.inj (hoi.symm.trans h0.symm)
      have hstep := hK (wpList P ops Q l) (fun a' w' hI' => ih (k + 1) (up b k) a' w' (by omega) (fun j => by
        have := hops (j + 1)
        simp only [List.getElem?_cons_succ] at this
        rw [this]
        congr 1
        omega) (fun j => by
          by_cases hj : j = k
          · subst hj; simp [up_self]
          · rw [up_ne hj, hb j]; omega) hI')
      unfold wpList
      split at hstep
      · rename_i hwt
        rw [if_pos hwt]
        exact .inl hstep
      · rename_i hwt
        rw [if_neg hwt]
        exact hstep
  refine go ops.toList 0 (fun _ => false) a w (by simp [hn]) (fun j => by simp) (fun j => by simp) h0
end
section
variable {P : Program} {ops : Array Oper} {Q : Exit → Act → World → Prop} {B O : List Nat}
variable {a0 : Act} {w0 : World} {f0 : Fz} {es : List (Nat × Tmp)} {AL : List Nat} {ct : Nat → (Nat → Bool) → Obj → Fz → Prop} {bx : List (Nat × ((Nat → Bool) → Obj → Fz → Prop))} {R : Nat → Value → Fz → Prop}
/-- An operation that yields. -/
theorem step_val {i t : Nat} {oi : Oper} (hk : esOk es = true) (hi : ops[i]? = some oi) (he : es.contains (i, t) = true) (hA : AL.contains i = false)
    (hct : ∀ j ∈ AL, ∀ b, ct j (up b i) = ct j b) (hbx : ∀ p ∈ bx, ∀ b, p.2 (up b i) = p.2 b) (hm : ∀ e v (f g : Fz), f.le g → R e v f → R e v g) (hmc : ∀ j b o (f g : Fz), f.le g → ct j b o f → ct j b o g) (hmb : ∀ p ∈ bx, ∀ b o (f g : Fz), f.le g → p.2 b o f → p.2 b o g)
    (h : ∀ V G f b a w, RelAt a0 w0 f0 es AL ct bx R V G f b a w → (∀ j, (O.contains j && (B.getD i 0).testBit j) = true → b j = true) → (∀ d, (O.contains d && (B.getD d 0).testBit i) = true → b d = false) →
      ∀ K : Act → World → Prop, (∀ v w', Below w.heap.size w w' → R i v (ext f w w') → K (a.put (some t) v) w') → if Region.wanted oi (yielded ops a.tmps) = true then Oper.wp P oi a w K Q else K (a.put oi.dst undef) w) :
    StepAt P ops Q B O (Rel a0 w0 f0 es AL ct bx R) i := by
  rintro b a w ⟨V, G, f, hr⟩ hb hon hoff
  refine ⟨oi, hi, fun K hK => h V G f b a w hr hon hoff K (fun v w' hbel hR => hK.out _ _ ?_)⟩
  exact hr.put hk (List.contains_iff_mem.1 he) hA hb hbel (fun j hj => hct j hj b) (fun p hp => hbx p hp b) hm hmc hmb hR
end
end Go.Proofs.YtebflncfgjnkkaaDoorW.Flow
