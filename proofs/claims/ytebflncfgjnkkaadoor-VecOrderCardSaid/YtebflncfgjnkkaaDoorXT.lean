/- Small lemmas for walks over function values: a call through a slot that holds a known function. -/
import Derived.Test.YtebflncfgjnkkaaDoorWWords
import Derived.Test.YtebflncfgjnkkaaDoorWLast
namespace Go.Proofs.YtebflncfgjnkkaaDoorW.PrintLast
open Go.RowKit Go.Proofs.YtebflncfgjnkkaaDoorW.PrintWords
section
variable {P : Program} {ops : Array Oper} {Q : Exit → Act → World → Prop}
theorem entersT_ {f : FuncId} (hf : ∃ fn : Func, P.funcs[f]? = some fn ∧ (fn.name == "runtime.NumGoroutine") = false ∧ fn.body.isSome = true) (args : Array Value) (w : World) :
    (callFunc f args).run P w = .ok (.enter f args) w := by
  obtain ⟨fn, hf, hname, hb⟩ := hf
  exact enters_ hf hname hb args w
/-- A call of a function value in a plain region, as an arm of go_wp2_with. -/
theorem goesT_ {rest : List Oper} {oi : Oper} {a : Act} {w : World} (N : Option Tmp) (hd : oi.dst = N) (hg : oi.guard = none) {f : FuncId} {lb : Array Value} {x : Operand} {as : Array Operand} {ts : Array TypeId}
    (hx : a.eval x = .func (.func f) #[] lb) (hf : ∃ fn : Func, P.funcs[f]? = some fn ∧ (fn.name == "runtime.NumGoroutine") = false ∧ fn.body.isSome = true) (args : Array Value)
    (hop : oi.op = .call { callee := .value x, args := as, argTypes := ts }) (hargs : as.map a.eval = args)
    (h : Calls P f (args ++ lb) w fun e w' => ∃ v, e = .returned v ∧ wpList P ops Q rest (a.put N v) w') : wpList P ops Q (oi :: rest) a w := by
  refine wpList_plain hg fun K hK => ?_
  have he := entersT_ (P := P) hf (args ++ lb) w
  have hrun : (execOp a.eval oi).run P w = .ok (.enter f (args ++ lb)) w := by
    unfold execOp
    simp [hop, resolve, Deferred.ofValue, invoke, hx, hargs, he]
  unfold Oper.wp
  rw [hrun, Oper.upon_enter]
  refine h.mono fun e w'' hh => ?_
  obtain ⟨v, rfl, hk⟩ := hh
  subst hd
  exact hK _ _ hk
/-- The same in a region that draws its order. -/
theorem goesT1_ {oi : Oper} {N : Option Tmp} {a : Act} {w : World} {K : Act → World → Prop} {f : FuncId} {lb : Array Value} {x : Operand} {as : Array Operand} {ts : Array TypeId}
    (hx : a.eval x = .func (.func f) #[] lb) (hf : ∃ fn : Func, P.funcs[f]? = some fn ∧ (fn.name == "runtime.NumGoroutine") = false ∧ fn.body.isSome = true) (args : Array Value)
    (hw : Region.wanted oi (yielded ops a.tmps) = true) (hN : oi.dst = N) (hop : oi.op = .call { callee := .value x, args := as, argTypes := ts }) (hargs : as.map a.eval = args)
    (h : Calls P f (args ++ lb) w fun e w' => ∃ v, e = .returned v ∧ K (a.put N v) w') : if Region.wanted oi (yielded ops a.tmps) = true then Oper.wp P oi a w K Q else K (a.put N undef) w := by
  have he := entersT_ (P := P) hf (args ++ lb) w
  refine call_ f (args ++ lb) hw hN ?_ h
  unfold execOp
  simp [hop, resolve, Deferred.ofValue, invoke, hx, hargs, he]
end
/-! What printed texts say again and again, once: each is shown by the tactic behind ':='. -/
theorem xHB {B : Nat} {w w' : World} (h : Below B w w' := by repeat (first | (with_reducible first | exact HB.out | apply below_alloc | apply pw_below_drewN | apply below_drew1 | refine below_set ?_ (Aside0.out (by with_reducible assumption))) | exact HB.out)) : Below B w w' := h
theorem xE {cs cs' : Array Value} {i : Nat} {u : Value} (h : cs.setIfInBounds i u = cs') : cs.setIfInBounds i u = cs' := h
theorem xB {w' : World} {g : Nat} {o : Obj} (h : w'.heap[g]? = some o := by repeat (first | (with_reducible first | exact Aside0.out (by with_reducible assumption) | apply blk_drewN | apply blk_drew | apply blk_alloc | apply blk_put | apply blk_far) | ((with_reducible apply xE); rfl))) : w'.heap[g]? = some o := h
theorem xR {p : Prop} (h : p := by first | rfl | (simp [errW_none, errW_some] <;> rfl) | (simp [*, errW_none, errW_some] <;> rfl)) : p := h
theorem xQ {p : Prop} (h : p := by first | rfl | (simp; done) | (simp [*]; done)) : p := h
end Go.Proofs.YtebflncfgjnkkaaDoorW.PrintLast
