/- THE ABSTRACT MACHINE, thirty-second part: a law that is reckoned to yield true returns true, and leaves what was there. -/
import Derived.Test.YtebflncfgjnkkaaMa31
import Derived.RowKit
import Derived.ChangeMaps5
namespace Go.Proofs.Ytebflncfgjnkkaa.M
set_option linter.unusedSimpArgs false
set_option linter.unusedVariables false
open Go Go.RowKit Go.WideShapes Go.ChangeShapes Go.ChangeMaps Classical
section
variable {P : Program} {W : World}
/-- A value of type t. -/
def HasV (P : Program) (t : TypeId) (v : PV) : Prop :=
  match P.underlying t with
  | some (.struct _) => ∃ vs n, v = .agg vs ∧ Has P n t vs
  | _ => ∃ n, Has P n t [v]
def HasAll (P : Program) : List TypeId → List PV → Prop
  | [], [] => True
  | t :: ts, v :: vs => HasV P t v ∧ HasAll P ts vs
  | _, _ => False
/-- Before anything has run. -/
def gh0 (W : World) : Gh := ⟨fun _ _ => none, fun _ _ => none, fzOf W⟩
theorem wr0 (W : World) : WR (gh0 W) [] W := ⟨fun b o v h => h, (fun n t b h => by cases h), (fun n k ai h => by cases h), fun x y b h => by cases x <;> simp [Gh.own, gh0] at h⟩
theorem in_one {H : Type} {enc : TypeId × Value → H} {base : Nat} {sp : Nat → Bool} {held : Bool} {ts : List TypeId} (hts : ∀ t ∈ ts, closedTy P ts t = true) (hnz : ∀ t ∈ ts, P.cellsOf t ≠ 0) {t : TypeId} (ht : t ∈ ts) {v : Value} {d : DataW H} {ps : List MemPlace} {r : Reach} {b0 : Nat}
    (hval : Value.okWide P W r b0 t v) (hd : DataW.Trod enc P W base sp held t v d ps) : ∃ pv, HasV P t pv ∧ VR (gh0 W) pv v := by
  obtain ⟨fuel, hd⟩ := hd
  obtain ⟨vs, h1, h2, h3⟩ := opn hts hnz fuel t _ _ ht hd
  have hcl := hts t ht
  unfold closedTy at hcl
  have one : v.cells = #[v] → (∀ fs, P.underlying t ≠ some (.struct fs)) → ∃ pv, HasV P t pv ∧ VR (gh0 W) pv v := by
    intro hv hns
    rw [hv] at h2 h3
    match vs, h2 with
    | [pv], _ =>
      refine ⟨pv, ?_, ?_⟩
      · unfold HasV
        split
        · rename_i fs hu
          exact absurd hu (hns fs)
        · exact ⟨fuel, h1⟩
      · obtain ⟨c, hc, hf⟩ := h3 0 pv rfl
        simp at hc
        subst hc
        exact .data _ _ hf
  split at hcl
  · rename_i hu
    obtain ⟨b, rfl⟩ := okWide_bool hu hval
    exact one rfl (fun fs h => by rw [hu] at h; cases h)
  · rename_i k hu
    obtain ⟨b, rfl⟩ := okWide_int hu hval
    exact one rfl (fun fs h => by rw [hu] at h; cases h)
  · rename_i hu
    obtain ⟨b, rfl⟩ := okWide_string hu hval
    exact one rfl (fun fs h => by rw [hu] at h; cases h)
  · rename_i e hu
    obtain ⟨A, n, c, rfl⟩ := okWide_slice hu hval
    exact one rfl (fun fs h => by rw [hu] at h; cases h)
  · rename_i fs hu
    obtain ⟨cs, rfl, _⟩ := okWide_struct hu hval
    refine ⟨.agg vs, ?_, ?_⟩
    · unfold HasV
      rw [hu]
      exact ⟨vs, fuel, rfl, h1⟩
    · have e : (Value.agg cs).cells = cs := by simp [Value.cells]
      rw [e] at h2 h3
      refine .agg vs _ (by simpa using h2) fun i u hi => ?_
      obtain ⟨c, hc, hf⟩ := h3 i u hi
      have : cs.getD i undef = c := by
        rw [Array.getD_eq_getD_getElem?]
        have : cs[i]? = some c := by simpa using hc
        simp [this]
      rw [this]
      exact .data _ _ hf
  · cases hcl
theorem in_all {H : Type} {enc : TypeId × Value → H} {base : Nat} {sp : Nat → Bool} {held : Bool} {ts : List TypeId} (hts : ∀ t ∈ ts, closedTy P ts t = true) (hnz : ∀ t ∈ ts, P.cellsOf t ≠ 0) {r : Reach} {b0 : Nat} : ∀ (tys : List TypeId) (args : List Value) (ds : List (DataW H)) (ps : List MemPlace),
    (∀ t ∈ tys, t ∈ ts) → (∀ (j : Nat) (t : TypeId) (v : Value), tys[j]? = some t → args[j]? = some v → Value.okWide P W r b0 t v) → DataW.TrodAll enc P W base sp held tys args ds ps →
    ∃ pvs, HasAll P tys pvs ∧ pvs.length = args.length ∧ ∀ (i : Nat) (v : PV), pvs[i]? = some v → ∃ c, args[i]? = some c ∧ VR (gh0 W) v c
  | [], args, ds, ps, _, _, h => by
    obtain ⟨rfl, _, _⟩ := trodAll_nil h
    exact ⟨[], trivial, rfl, fun i v h => by simp at h⟩
  | t :: tys, args, ds, ps, hsub, hval, h => by
    obtain ⟨v, vs', d, ds', p, q, rfl, rfl, rfl, h1, h2⟩ := trodAll_cons h
    obtain ⟨pv, a1, a2⟩ := in_one hts hnz (hsub t (by simp)) (hval 0 t v rfl rfl) h1
    obtain ⟨pvs, b1, b2, b3⟩ := in_all hts hnz tys vs' ds' q (fun t ht => hsub t (by simp [ht])) (fun j t v h3 h4 => hval (j + 1) t v (by simpa using h3) (by simpa using h4)) h2
    refine ⟨pv :: pvs, ⟨a1, b1⟩, by simp [b2], fun i u hi => ?_⟩
    cases i with
    | zero => simp at hi; subst hi; exact ⟨v, rfl, a2⟩
    | succ i => simpa using b3 i u (by simpa using hi)
theorem enter_of {f : Nat} {fn : Func} {sf : SFunc} (hf : P.funcs[f]? = some fn) (hc : comp P fn = some sf) (cs : Array Value) (w : World) : (callFunc f cs).run P w = .ok (.enter f cs) w := by
  unfold comp at hc
  split at hc
  · rename_i c hbody
    split at hc
    · split at hc
      · rename_i hcnd
        unfold callFunc
        simp [hf, hcnd.2, hbody]
      · cases hc
    · cases hc
  · cases hc
theorem closed_all {ts : List TypeId} (h : ts.all (fun t => closedTy P ts t && decide (P.cellsOf t ≠ 0)) = true) : (∀ t ∈ ts, closedTy P ts t = true) ∧ ∀ t ∈ ts, P.cellsOf t ≠ 0 := by
  rw [List.all_eq_true] at h
  refine ⟨fun t ht => ?_, fun t ht => ?_⟩
  · have := h t ht; simp only [Bool.and_eq_true] at this; exact this.1
  · have := h t ht; simp only [Bool.and_eq_true, decide_eq_true_eq] at this; exact this.2
/-- A LAW: if it is reckoned to yield true of all that its parameters' types allow, then each call of it returns true, and what was there stays. -/
theorem law_true (hm : P.follows .mixedOrders = true) {x : Nat → Option (List PV → Option PV)} (hx : ∀ f y, x f = some y → ExtOk P f y) {f : Nat} {fn : Func} {sf : SFunc} (hf : P.funcs[f]? = some fn) (hc : comp P fn = some sf)
    {H : Type} {enc : TypeId × Value → H} {base : Nat} {sp : Nat → Bool} {held : Bool} {ts : List TypeId} (hts : ts.all (fun t => closedTy P ts t && decide (P.cellsOf t ≠ 0)) = true) {r : Reach} {b0 : Nat} {tys : List TypeId} {args : Array Value} {ds : List (DataW H)} {ps : List MemPlace}
    (hsub : tys.all (fun t => ts.contains t) = true) (hval : ∀ (j : Nat) (t : TypeId) (v : Value), tys[j]? = some t → args[j]? = some v → Value.okWide P W r b0 t v) (hA : DataW.TrodAll enc P W base sp held tys args.toList ds ps)
    (spec : ∀ pvs, HasAll P tys pvs → call (SPof P x) f pvs [] = .ok (.v (.bool true)) []) : Calls P f args W fun e W' => e = .returned (.bool true) ∧ Below W.heap.size W W' := by
  obtain ⟨h1, h2⟩ := closed_all hts
  obtain ⟨pvs, a1, a2, a3⟩ := in_all h1 h2 tys args.toList ds ps (fun t ht => by have := List.all_eq_true.1 hsub t ht; simpa using this) (fun j t v h3 h4 => hval j t v h3 (by simpa using h4)) hA
  have hs := spec pvs a1
  have ha := call_sound hm hx f pvs [] (by rw [hs]; exact fun h => by cases h) (gh0 W) W args (wr0 W) ⟨by simpa using a2, fun i v hi => by
    obtain ⟨c, hc1, hc2⟩ := a3 i v hi
    have : args.getD i undef = c := by
      rw [Array.getD_eq_getD_getElem?]
      have : args[i]? = some c := by simpa using hc1
      simp [this]
    rw [this]
    exact hc2⟩
  rw [hs] at ha
  rcases ha with ⟨_, ha⟩ | ⟨c, w', h3, _⟩
  · refine ha.mono fun e W' hR => ?_
    cases e with
    | panicked ch => exact hR.elim
    | outgrown => exact hR.elim
    | returned c =>
      obtain ⟨g', _, _, t, ret, _⟩ := hR
      refine ⟨?_, t.os, t.tape, t.output, t.size, fun k hk => t.keep k hk fun x h => by cases x <;> simp [Gh.own, gh0] at h⟩
      have := VR.bool_inv ret
      rw [this]
  · rw [enter_of hf hc] at h3
    cases h3
end
end Go.Proofs.Ytebflncfgjnkkaa.M
