/- What comes in, opened: a reading of the claim's own (DataW.trod) is a reading by the kinds of the printed text. -/
import Derived.Test.YtebflncfgjnkkaaDoorWWords
import Derived.Test.YtebflncfgjnkkaaDoorWLast
import Derived.ChangeArms
import Derived.WideShapes
namespace Go.Proofs.YtebflncfgjnkkaaDoorW.Open
open Go.RowKit Go.WideShapes Go.Proofs.YtebflncfgjnkkaaDoorW.PrintWords
/-- Of type t, by kind d, so that ok: read with less fuel than m. -/
def OpN (P : Program) (t : TypeId) {α : Type} (d : Kd α) (ok : α → Prop) (m : Nat) : Prop :=
  ∀ {H : Type} {enc : TypeId × Value → H} {W : World} {base : Nat} {sp : Nat → Bool} {held : Bool} {fuel : Nat} {cs : List Value} {x : DataW H × List MemPlace}, fuel < m → DataW.trod enc P W base sp held fuel t cs = some x → ∃ a : α, d.K W a cs ∧ ok a
section
variable {P : Program} {t e : TypeId} {α β : Type} {m : Nat}
theorem opn_int {k : IntKind} (ht : P.underlying t = some (.int k)) (m : Nat) : OpN P t (Kd.int k) (fun a => (Lit.int k a).wf = true) m := fun _ h => by
  obtain ⟨n, rfl, _, hw⟩ := DataW.trod_int ht h
  exact ⟨n, rfl, hw⟩
theorem opn_bool (ht : P.underlying t = some .bool) (m : Nat) : OpN P t Kd.bool (fun _ => True) m := fun _ h => by
  obtain ⟨b, rfl, _⟩ := DataW.trod_bool ht h
  exact ⟨b, rfl, trivial⟩
theorem opn_string (ht : P.underlying t = some .string) (m : Nat) : OpN P t Kd.string (fun s => s.size ≤ maxLen) m := fun _ h => by
  obtain ⟨s, rfl, _, hs⟩ := DataW.trod_string ht h
  exact ⟨s, rfl, hs⟩
theorem opn_iso {d : Kd α} {ok : α → Prop} (f : β → α) (g : α → β) (hg : ∀ a, f (g a) = a) (h : OpN P t d ok m) : OpN P t (Kd.iso d f) (fun b => ok (f b)) m := fun hf hh => by
  obtain ⟨a, hk, ho⟩ := h hf hh
  exact ⟨g a, (show d.K _ (f (g a)) _ from by rw [hg]; exact hk), (show ok (f (g a)) from by rw [hg]; exact ho)⟩
theorem opn_ok {d : Kd α} {ok ok' : α → Prop} (h : OpN P t d ok m) (hi : ∀ a, ok a → ok' a) : OpN P t d ok' m := fun hf hh => by
  obtain ⟨a, hk, ho⟩ := h hf hh
  exact ⟨a, hk, hi a ho⟩
theorem add_add_ (a : Addr) (i j : Nat) : (a.add i).add j = a.add (i + j) := by
  unfold Addr.add
  by_cases hi : i = 0
  · subst hi; simp
  · by_cases hj : j = 0
    · subst hj; simp [hi]
    · simp [hi, hj, Nat.add_assoc]
/-- A row of elements. -/
theorem opn_row {d : Kd α} {ok : α → Prop} (ht : P.underlying t = some (.slice e)) (hs : P.cellsOf e = d.sz) (h : OpN P e d ok m) {H : Type} {enc : TypeId × Value → H} {W : World} {base : Nat} {sp : Nat → Bool} {held : Bool} {fuel : Nat} {cs : List Value} {x : DataW H × List MemPlace} (hf : fuel < m + 1)
    (hh : DataW.trod enc P W base sp held fuel t cs = some x) : ∃ (xs : List α) (A : Option Addr) (c : Nat), cs = [.slice A xs.length c] ∧ xs.length ≤ c ∧ d.C W A xs.length xs ∧ xs.length ≤ maxLen ∧ ∀ a ∈ xs, ok a := by
  rcases DataW.trod_slice ht hh with ⟨rfl, _⟩ | ⟨a, len, cap, elems, rest, n, rfl, rfl, _, hb, hl, hm, hlen, hel, _, _⟩
  · exact ⟨[], none, 0, rfl, Nat.le_refl _, ⟨rfl, by simp, fun h => absurd h (Nat.lt_irrefl 0)⟩, by simp, fun a h => absurd h (by simp)⟩
  · have each : ∀ i, i < len → ∃ (y : α) (c : List Value), d.K W y c ∧ ok y ∧ ∀ j u, c[j]? = some u → W.cell? (a.add (i * d.sz + j)) = some u := by
      intro i hi
      have h1 := hel i hi
      rw [List.getElem?_eq_getElem (by omega), Option.bind_eq_some_iff] at h1
      obtain ⟨c, hc, hy⟩ := h1
      obtain ⟨y, hk, ho⟩ := h (by omega) hy
      refine ⟨y, c, hk, ho, fun j u hu => ?_⟩
      have h2 := (World.cells?_some hc).2.2 j (by
        have := (List.getElem?_eq_some_iff.1 hu).1
        rw [d.K_len hk] at this
        omega)
      rw [add_add_, hs] at h2
      rw [h2]
      exact hu
    have mk : ∀ k, k ≤ len → ∃ xs : List α, xs.length = k ∧ (∀ y ∈ xs, ok y) ∧ ∀ j p, xs[j]? = some p → ∃ c, c.length = d.sz ∧ d.K W p c ∧ ∀ i u, c[i]? = some u → W.cell? (a.add (j * d.sz + i)) = some u := by
      intro k
      induction k with
      | zero => exact fun _ => ⟨[], rfl, fun y h => absurd h (by simp), fun j p h => by simp at h⟩
      | succ k ih =>
        intro hk
        obtain ⟨xs, h1, h2, h3⟩ := ih (by omega)
        obtain ⟨y, c, hy, ho, hc⟩ := each k (by omega)
        refine ⟨xs ++ [y], by simp [h1], fun z hz => ?_, fun j p hp => ?_⟩
        · rcases List.mem_append.1 hz with hz | hz
          · exact h2 z hz
          · rw [List.mem_singleton.1 hz]; exact ho
        · rcases Nat.lt_or_ge j k with hj | hj
          · rw [List.getElem?_append_left (by omega)] at hp
            exact h3 j p hp
          · rw [List.getElem?_append_right (by omega)] at hp
            have hj0 : j = k := by
              have := (List.getElem?_eq_some_iff.1 hp).1
              simp at this
              omega
            subst hj0
            simp [h1] at hp
            subst hp
            exact ⟨c, d.K_len hy, hy, hc⟩
    obtain ⟨xs, h1, h2, h3⟩ := mk len (Nat.le_refl _)
    subst h1
    refine ⟨xs, some a, cap, rfl, hl, ⟨rfl, ?_, fun _ => ⟨a, rfl, h3⟩⟩, by omega, h2⟩
    simp only [maxLen] at hm
    omega
theorem opn_slice {d : Kd α} {ok : α → Prop} (ht : P.underlying t = some (.slice e)) (hs : P.cellsOf e = d.sz) (h : OpN P e d ok m) : OpN P t (Kd.slice e d) (fun xs => xs.length ≤ maxLen ∧ ∀ a ∈ xs, ok a) (m + 1) := fun hf hh => by
  obtain ⟨xs, A, c, rfl, hl, hc, hm, ho⟩ := opn_row ht hs h hf hh
  exact ⟨xs, ⟨A, c, rfl, hl, hc⟩, hm, ho⟩
/-- A struct's fields, from one on. -/
def OpF (P : Program) (o : Nat) (fs : List Field) {α : Type} (d : Kd α) (ok : α → Prop) (m : Nat) : Prop :=
  ∀ {H : Type} {enc : TypeId × Value → H} {W : World} {base : Nat} {sp : Nat → Bool} {held : Bool} {fuel : Nat} {cs : List Value} {xs : List (DataW H × List MemPlace)}, fuel < m → xs.length = fs.length →
    (∀ (i : Nat) (f : Field), fs[i]? = some f → DataW.trod enc P W base sp held fuel f.type ((cs.drop f.offset).take (P.cellsOf f.type)) = xs[i]?) → ∃ a : α, d.K W a ((cs.drop o).take d.sz) ∧ ok a
theorem opf_one {f : Field} {o : Nat} {d : Kd α} {ok : α → Prop} (ho : f.offset = o) (hs : P.cellsOf f.type = d.sz) (h : OpN P f.type d ok m) : OpF P o [f] d ok m := fun hf hl hx => by
  have h1 := hx 0 f rfl
  rw [List.getElem?_eq_getElem (by simp at hl; omega), ho, hs] at h1
  exact h hf h1
theorem opf_cons {f : Field} {fs : List Field} {o : Nat} {d : Kd α} {d2 : Kd β} {ok : α → Prop} {ok2 : β → Prop} (ho : f.offset = o) (hs : P.cellsOf f.type = d.sz) (h : OpN P f.type d ok m) (h2 : OpF P (o + d.sz) fs d2 ok2 m) :
    OpF P o (f :: fs) (Kd.pair d d2) (fun x => ok x.1 ∧ ok2 x.2) m := fun {H enc W base sp held fuel cs xs} hf hl hx => by
  have h1 := hx 0 f rfl
  rw [List.getElem?_eq_getElem (by simp at hl; omega), ho, hs] at h1
  obtain ⟨a, hk, hoa⟩ := h hf h1
  cases xs with
  | nil => simp at hl
  | cons x0 xs =>
    obtain ⟨b, hk2, hob⟩ := h2 (cs := cs) (xs := xs) hf (by simpa using hl) (fun i f' hi => by simpa using hx (i + 1) f' (by simpa using hi))
    refine ⟨(a, b), ⟨_, _, ?_, hk, hk2⟩, hoa, hob⟩
    show (cs.drop o).take (d.sz + d2.sz) = _
    rw [List.take_add, List.drop_drop]
theorem opn_struct {fs : Array Field} {l : List Field} {d : Kd α} {ok : α → Prop} (ht : P.underlying t = some (.struct fs)) (hfl : fs.toList = l) (hs : P.cellsOf t = d.sz) (h : OpF P 0 l d ok m) : OpN P t d ok (m + 1) := fun {H enc W base sp held fuel cs x} hf hh => by
  obtain ⟨xs, n, rfl, _, hl, hx, hy⟩ := DataW.trod_struct ht hh
  obtain ⟨a, hk, ho⟩ := h (cs := cs) (xs := xs) (by omega) (by rw [hx, ← hfl]; simp) (fun i f hi => hy i f (by rw [← hfl] at hi; simpa using hi))
  refine ⟨a, ?_, ho⟩
  rw [List.drop_zero, List.take_of_length_le (by omega)] at hk
  exact hk
end
theorem opn_slice' {P : Program} {t e : TypeId} {α : Type} {d : Kd α} {ok : α → Prop} (ht : P.underlying t = some (.slice e)) (hs : P.cellsOf e = d.sz) (h : ∀ m, OpN P e d ok m) : ∀ m, OpN P t (Kd.slice e d) (fun xs => xs.length ≤ maxLen ∧ ∀ a ∈ xs, ok a) m
  | 0 => fun hf _ => absurd hf (Nat.not_lt_zero _)
  | m + 1 => opn_slice ht hs (h m)
theorem opn_struct' {P : Program} {t : TypeId} {α : Type} {fs : Array Field} {l : List Field} {d : Kd α} {ok : α → Prop} (ht : P.underlying t = some (.struct fs)) (hfl : fs.toList = l) (hs : P.cellsOf t = d.sz) (h : ∀ m, OpF P 0 l d ok m) : ∀ m, OpN P t d ok m
  | 0 => fun hf _ => absurd hf (Nat.not_lt_zero _)
  | m + 1 => opn_struct ht hfl hs (h m)
theorem opn_less {P : Program} {t : TypeId} {α : Type} {d : Kd α} {ok : α → Prop} {m m' : Nat} (hm : m' ≤ m) (h : OpN P t d ok m) : OpN P t d ok m' := fun hf hh => h (Nat.lt_of_lt_of_le hf hm) hh
section
variable {H : Type} {enc : TypeId × Value → H} {P : Program} {W : World} {base : Nat} {sp : Nat → Bool} {held : Bool} {t e : TypeId} {α : Type} {v : Value} {dd : DataW H} {ps : List MemPlace} {r : Reach} {b0 : Nat}
/-- A struct that comes in. -/
theorem in_struct {fs : Array Field} {d : Kd α} {ok : α → Prop} (ht : P.underlying t = some (.struct fs)) (hval : Value.okWide P W r b0 t v) (h : ∀ m, OpN P t d ok m) (hd : DataW.Trod enc P W base sp held t v dd ps) : ∃ (a : α) (cs : List Value), v = .agg cs.toArray ∧ d.K W a cs ∧ ok a := by
  obtain ⟨cs, rfl, _⟩ := okWide_struct ht hval
  obtain ⟨fuel, hd⟩ := hd
  obtain ⟨a, hk, ho⟩ := h (fuel + 1) (Nat.lt_succ_self _) hd
  exact ⟨a, _, by simp [Value.cells], hk, ho⟩
/-- A row that comes in. -/
theorem in_slice {d : Kd α} {ok : α → Prop} (ht : P.underlying t = some (.slice e)) (hs : P.cellsOf e = d.sz) (hval : Value.okWide P W r b0 t v) (h : ∀ m, OpN P e d ok m) (hd : DataW.Trod enc P W base sp held t v dd ps) :
    ∃ (xs : List α) (A : Option Addr) (c : Nat), v = .slice A xs.length c ∧ xs.length ≤ c ∧ d.C W A xs.length xs ∧ xs.length ≤ maxLen ∧ ∀ a ∈ xs, ok a := by
  obtain ⟨A, n, c, rfl⟩ := okWide_slice ht hval
  obtain ⟨fuel, hd⟩ := hd
  obtain ⟨xs, A', c', he, h1⟩ := opn_row ht hs (h fuel) (Nat.lt_succ_self _) hd
  simp [Value.cells] at he
  obtain ⟨rfl, rfl, rfl⟩ := he
  exact ⟨xs, _, _, rfl, h1⟩
end
end Go.Proofs.YtebflncfgjnkkaaDoorW.Open
