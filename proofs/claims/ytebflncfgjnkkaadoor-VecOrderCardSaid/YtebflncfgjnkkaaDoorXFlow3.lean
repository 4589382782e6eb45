/- FLOW, third part: what is so of each operation's value, in a list; the steps over that list. -/
import Derived.Test.YtebflncfgjnkkaaDoorXFlow2
namespace Go.Proofs.YtebflncfgjnkkaaDoorW.Flow
open Go.RowKit Go.Proofs.YtebflncfgjnkkaaDoorW.PrintWords Go.Proofs.YtebflncfgjnkkaaDoorW.PrintLast
/-- What is so of a value: C: was the operation wanted. -/
inductive Sp where
  | pure (C : Bool) (v : Value)
  | fr (C : Bool) (S : Value → World → Prop)
def Sp.C : Sp → Bool
  | .pure C _ => C
  | .fr C _ => C
def Sp.S : Sp → Value → Fz → Prop
  | .pure _ v, x, _ => x = v
  | .fr _ S, x, f => Fr (S x) f
def Sp.R (s : Sp) (x : Value) (f : Fz) : Prop := (s.C = true → s.S x f) ∧ (s.C = false → x = undef)
theorem Sp.mono (s : Sp) {x : Value} {f g : Fz} (h : f.le g) (hr : s.R x f) : s.R x g := by
  refine ⟨fun hc => ?_, hr.2⟩
  cases s with
  | pure C v => exact hr.1 hc
  | fr C S => exact Fr.mono h (hr.1 hc)
def spR (sps : List Sp) (i : Nat) : Value → Fz → Prop := (sps.getD i (.pure true undef)).R
/-- What a variable holds. -/
inductive Ct where
  | pure (o : Obj)
  | fr (ty : TypeId) (S : List Value → World → Prop)
def Ct.R : Ct → Obj → Fz → Prop
  | .pure o, x, _ => x = o
  | .fr ty S, x, f => ∃ cs : List Value, x = .cells cs.toArray ty (0, 0) ∧ Fr (S cs) f
theorem Ct.mono (c : Ct) {x : Obj} {f g : Fz} (h : f.le g) (hr : c.R x f) : c.R x g := by
  cases c with
  | pure o => exact hr
  | fr ty S =>
    obtain ⟨cs, h1, h2⟩ := hr
    exact ⟨cs, h1, Fr.mono h h2⟩
/-- A variable: what it holds at first; the operation that writes it, and what it holds then. -/
structure Bx where
  o : Ct
  st : Option (Nat × Ct)
def Bx.at_ (x : Bx) (b : Nat → Bool) : Ct := match x.st with
  | none => x.o
  | some s => if b s.1 = true then s.2 else x.o
def lk (al : List (Nat × Bx)) (j : Nat) : Bx := (al.lookup j).getD ⟨.pure (.cells #[] 0 (0, 0)), none⟩
def Bx.not (x : Bx) (i : Nat) : Bool := match x.st with
  | none => true
  | some s => !(s.1 == i)
theorem Bx.up_ {x : Bx} {i : Nat} (h : x.not i = true) (b : Nat → Bool) : x.at_ (up b i) = x.at_ b := by
  unfold Bx.at_
  unfold Bx.not at h
  cases hx : x.st with
  | none => rfl
  | some s =>
    rw [hx] at h
    have : s.1 ≠ i := by simpa using h
    simp only [up_ne this]
theorem lk_mem {al : List (Nat × Bx)} {j : Nat} (h : j ∈ al.map (·.1)) : ∃ p ∈ al, p.1 = j ∧ lk al j = p.2 := by
  unfold lk
  induction al with
  | nil => simp at h
  | cons p l ih =>
    by_cases hp : j = p.1
    · subst hp
      exact ⟨p, List.mem_cons_self, rfl, by simp [List.lookup]⟩
    · have : j ∈ l.map (·.1) := by simpa [hp] using h
      obtain ⟨q, hq, h1, h2⟩ := ih this
      refine ⟨q, List.mem_cons_of_mem _ hq, h1, ?_⟩
      rw [← h2]
      simp [List.lookup, show (j == p.1) = false by simpa using hp]
section
variable (a0 : Act) (w0 : World) (f0 : Fz) (es : List (Nat × Tmp)) (al bx : List (Nat × Bx)) (sps : List Sp)
abbrev StAt (V : Nat → Value) (G : Nat → Nat) (f : Fz) (b : Nat → Bool) (a : Act) (w : World) : Prop := RelAt a0 w0 f0 es (al.map (·.1)) (fun j b => ((lk al j).at_ b).R) (bx.map fun p => (p.1, fun b => (p.2.at_ b).R)) (spR sps) V G f b a w
abbrev St (b : Nat → Bool) (a : Act) (w : World) : Prop := Rel a0 w0 f0 es (al.map (·.1)) (fun j b => ((lk al j).at_ b).R) (bx.map fun p => (p.1, fun b => (p.2.at_ b).R)) (spR sps) b a w
end
section
variable {P : Program} {ops : Array Oper} {Q : Exit → Act → World → Prop} {B O : List Nat}
variable {a0 : Act} {w0 : World} {f0 : Fz} {es : List (Nat × Tmp)} {al bx : List (Nat × Bx)} {sps : List Sp}
variable {V : Nat → Value} {G : Nat → Nat} {f : Fz} {b : Nat → Bool} {a : Act} {w : World}
theorem spR_eq {j : Nat} {s : Sp} (hs : sps[j]? = some s) : spR sps j = s.R := by
  unfold spR
  rw [List.getD_eq_getElem?_getD, hs]
  rfl
theorem StAt.val_ (h : StAt a0 w0 f0 es al bx sps V G f b a w) (hk : esOk es = true) {j t : Nat} (he : es.contains (j, t) = true) (hA : (al.map (·.1)).contains j = false) (hb : b j = true) (ht : t < a0.tmps.size) {s : Sp} (hs : sps[j]? = some s) :
    a.tmps[t]? = some (V j) ∧ s.R (V j) f := by
  refine ⟨h.get hk he hb ht, ?_⟩
  have := h.val (j, t) (List.contains_iff_mem.1 he) hA hb
  rw [spR_eq hs] at this
  exact this
/-- A value that is known. -/
theorem StAt.pure_ (h : StAt a0 w0 f0 es al bx sps V G f b a w) (hk : esOk es = true) {j t : Nat} (he : es.contains (j, t) = true) (hA : (al.map (·.1)).contains j = false) (hb : b j = true) (ht : t < a0.tmps.size) {C : Bool} {v : Value} (hs : sps[j]? = some (.pure C v)) (hC : C = true) :
    a.tmps[t]? = some v := by
  obtain ⟨h1, h2⟩ := StAt.val_ h hk he hA hb ht hs
  rw [h1, show V j = v from h2.1 hC]
/-- A thing of the frozen part. -/
theorem StAt.fr_ (h : StAt a0 w0 f0 es al bx sps V G f b a w) (hk : esOk es = true) {j t : Nat} (he : es.contains (j, t) = true) (hA : (al.map (·.1)).contains j = false) (hb : b j = true) (ht : t < a0.tmps.size) {C : Bool} {S : Value → World → Prop} (hs : sps[j]? = some (.fr C S)) (hC : C = true) :
    ∃ v, a.tmps[t]? = some v ∧ Fr (S v) f := by
  obtain ⟨h1, h2⟩ := StAt.val_ h hk he hA hb ht hs
  exact ⟨_, h1, h2.1 hC⟩
/-- A variable that was made in this region. -/
theorem StAt.box_ (h : StAt a0 w0 f0 es al bx sps V G f b a w) (hk : esOk es = true) {j t : Nat} (he : es.contains (j, t) = true) (hA : (al.map (·.1)).contains j = true) (hb : b j = true) (ht : t < a0.tmps.size) :
    a.tmps[t]? = some (.pointer (some ⟨G j, 0, none⟩)) ∧ ∃ o, w.heap[G j]? = some o ∧ ((lk al j).at_ b).R o f := by
  have h1 := h.get hk he hb ht
  have h2 := h.new j (List.contains_iff_mem.1 hA) hb
  exact ⟨by rw [h1, h2.1], h2.2.2.1⟩
/-- An older variable. -/
theorem StAt.old_ (h : StAt a0 w0 f0 es al bx sps V G f b a w) (k : Nat) {g : Nat} {x : Bx} (hx : bx[k]? = some (g, x)) : ∃ o, w.heap[g]? = some o ∧ (x.at_ b).R o f :=
  (h.old (g, fun b => (x.at_ b).R) (List.mem_map.2 ⟨(g, x), List.mem_of_getElem? hx, rfl⟩)).2.1
/-- No variable is written by operation i. -/
def noSt (al bx : List (Nat × Bx)) (i : Nat) : Bool := (al.all fun p => p.2.not i) && bx.all fun p => p.2.not i
/-- Is operation i wanted? -/
def Gd (ops : Array Oper) (B O : List Nat) (a0 : Act) (w0 : World) (f0 : Fz) (es : List (Nat × Tmp)) (al bx : List (Nat × Bx)) (sps : List Sp) (i : Nat) (oi : Oper) (C : Bool) : Prop :=
  ∀ V G f b a w, StAt a0 w0 f0 es al bx sps V G f b a w → (∀ j, (O.contains j && (B.getD i 0).testBit j) = true → b j = true) → Region.wanted oi (yielded ops a.tmps) = C
theorem gd_none {i : Nat} {oi : Oper} (h : oi.guard = none) : Gd ops B O a0 w0 f0 es al bx sps i oi true := fun _ _ _ _ _ _ _ _ => by
  simp [Region.wanted, h]
theorem gd_some {i g tg : Nat} {u : Bool} {oi og : Oper} {Cg c : Bool} (hk : esOk es = true) (hsz : tg < a0.tmps.size) (hg : oi.guard = some (g, u)) (ho : ops[g]? = some og) (hd : og.dst = some tg) (he : es.contains (g, tg) = true) (hA : (al.map (·.1)).contains g = false)
    (hbit : (O.contains g && (B.getD i 0).testBit g) = true) (hs : sps[g]? = some (.pure Cg (.bool c))) : Gd ops B O a0 w0 f0 es al bx sps i oi (Cg && (c == u)) := fun V G f b a w h hon => by
  obtain ⟨h1, h2⟩ := StAt.val_ h hk he hA (hon g hbit) hsz hs
  cases hC : Cg with
  | true =>
    have h3 : V g = .bool c := h2.1 hC
    rw [h3] at h1
    cases c <;> cases u <;> simp [Region.wanted, hg, yielded, ho, hd, h1]
  | false =>
    have h3 : V g = undef := h2.2 hC
    rw [h3] at h1
    simp [Region.wanted, hg, yielded, ho, hd, h1, undef]
/-- An operation that yields. -/
theorem step_sp {i t : Nat} {oi : Oper} {s : Sp} (hk : esOk es = true) (hi : ops[i]? = some oi) (hd : oi.dst = some t) (he : es.contains (i, t) = true) (hA : (al.map (·.1)).contains i = false) (hn : noSt al bx i = true) (hs : sps[i]? = some s)
    (hg : Gd ops B O a0 w0 f0 es al bx sps i oi s.C)
    (h : s.C = true → ∀ V G f b a w, StAt a0 w0 f0 es al bx sps V G f b a w → (∀ j, (O.contains j && (B.getD i 0).testBit j) = true → b j = true) → (∀ d, (O.contains d && (B.getD d 0).testBit i) = true → b d = false) →
      ∀ K : Act → World → Prop, (∀ v w', Below w.heap.size w w' → s.S v (ext f w w') → K (a.put (some t) v) w') → Oper.wp P oi a w K Q) :
    StepAt P ops Q B O (St a0 w0 f0 es al bx sps) i := by
  simp only [noSt, Bool.and_eq_true, List.all_eq_true] at hn
  refine step_val hk hi he hA (fun j hj b => ?_) (fun p hp b => ?_) (fun e v f g hle hr => Sp.mono _ hle hr) (fun j b o f g hle hr => Ct.mono _ hle hr) (fun p hp b o f g hle hr => by obtain ⟨q, hq, rfl⟩ := List.mem_map.1 hp; exact Ct.mono _ hle hr) ?_
  · obtain ⟨q, hq, _, h2⟩ := lk_mem hj
    rw [h2, Bx.up_ (hn.1 q hq) b]
  · obtain ⟨q, hq, rfl⟩ := List.mem_map.1 hp
    simp only [Bx.up_ (hn.2 q hq) b]
  · intro V G f b a w hr hon hoff K hK
    rw [hg V G f b a w hr hon]
    cases hC : s.C with
    | true =>
      rw [if_pos rfl]
      exact h hC V G f b a w hr hon hoff K (fun v w' hb hS => hK v w' hb (by rw [spR_eq hs]; exact ⟨fun _ => hS, fun hc => by rw [hC] at hc; cases hc⟩))
    | false =>
      rw [if_neg (by simp), hd]
      exact hK undef w (Below.refl _ _) (by rw [spR_eq hs]; exact ⟨fun hc => (by rw [hC] at hc; cases hc), fun _ => rfl⟩)
/-- .. whose value is known, and which changes nothing. -/
theorem step_pure {i t : Nat} {oi : Oper} {C : Bool} {v : Value} (hk : esOk es = true) (hi : ops[i]? = some oi) (hd : oi.dst = some t) (he : es.contains (i, t) = true) (hA : (al.map (·.1)).contains i = false) (hn : noSt al bx i = true) (hs : sps[i]? = some (.pure C v))
    (hg : Gd ops B O a0 w0 f0 es al bx sps i oi C)
    (h : C = true → ∀ V G f b a w, StAt a0 w0 f0 es al bx sps V G f b a w → (∀ j, (O.contains j && (B.getD i 0).testBit j) = true → b j = true) → (∀ d, (O.contains d && (B.getD d 0).testBit i) = true → b d = false) →
      (execOp a.eval oi).run P w = .ok (.value v) w) :
    StepAt P ops Q B O (St a0 w0 f0 es al bx sps) i :=
  step_sp (s := .pure C v) hk hi hd he hA hn hs hg (fun hC V G f b a w hr hon hoff K hK => by
    unfold Oper.wp
    rw [h hC V G f b a w hr hon hoff]
    show K (a.put oi.dst v) w
    rw [hd]
    exact hK v w (Below.refl _ _) rfl)
/-- A call. -/
theorem step_call {i t : Nat} {oi : Oper} {s : Sp} {C : Bool} {fi : FuncId} {fn : Func} {as : Array Operand} {ts : Array TypeId} (hk : esOk es = true) (hi : ops[i]? = some oi) (hd : oi.dst = some t) (he : es.contains (i, t) = true) (hA : (al.map (·.1)).contains i = false) (hn : noSt al bx i = true) (hs : sps[i]? = some s)
    (hg : Gd ops B O a0 w0 f0 es al bx sps i oi C) (hsC : s.C = C) (hf : P.funcs[fi]? = some fn) (hname : (fn.name == "runtime.NumGoroutine") = false) (hb : fn.body.isSome = true) (hop : oi.op = .call { callee := .value (.func fi), args := as, argTypes := ts })
    (h : C = true → ∀ V G f b a w, StAt a0 w0 f0 es al bx sps V G f b a w → (∀ j, (O.contains j && (B.getD i 0).testBit j) = true → b j = true) → ∃ args, as.map a.eval = args ∧ Calls P fi args w fun e w' => ∃ v, e = .returned v ∧ Below w.heap.size w w' ∧ s.S v (ext f w w')) :
    StepAt P ops Q B O (St a0 w0 f0 es al bx sps) i :=
  step_sp hk hi hd he hA hn hs (hsC ▸ hg) (fun hC V G f b a w hr hon hoff K hK => by
    obtain ⟨args, hargs, hc⟩ := h (hsC ▸ hC) V G f b a w hr hon
    have he := enters_ hf hname hb args w
    have hrun : (execOp a.eval oi).run P w = .ok (.enter fi args) w := by
      unfold execOp
      simp [hop, resolve, Deferred.ofValue, invoke, Act.eval, hargs, he]
    unfold Oper.wp
    rw [hrun, Oper.upon_enter]
    refine hc.mono fun e w' hh => ?_
    obtain ⟨v, rfl, hb, hS⟩ := hh
    show K (a.put oi.dst v) w'
    rw [hd]
    exact hK v w' hb hS)
end
end Go.Proofs.YtebflncfgjnkkaaDoorW.Flow
