/- THE ABSTRACT MACHINE, twenty-fourth part: a call, if what is said of the function called holds. -/
import Derived.Test.YtebflncfgjnkkaaMa23
namespace Go.Proofs.Ytebflncfgjnkkaa.M
set_option linter.unusedSimpArgs false
set_option linter.unusedVariables false
open Go
section
variable {g g' : Gh} {S S' : Sto} {w w' : World} {P : Program}
/-- A function is entered, or answers at once. -/
def Answers (P : Program) (f : FuncId) (args : Array Value) (w : World) (R : Ending → World → Prop) : Prop :=
  ((callFunc f args).run P w = .ok (.enter f args) w ∧ Calls P f args w R) ∨ ∃ c w', (callFunc f args).run P w = .ok (.value c) w' ∧ R (.returned c) w'
/-- What comes back. n0: the heap's size at the call. -/
def RetOk (g' : Gh) (w' : World) (n0 : Nat) : Ret → Value → Prop
  | .v x, c => VR g' x c
  | .arr sz rows frz, c => ∃ ai, ArrRel g' w' ⟨sz, rows, frz, 0⟩ ai ∧ c = .slice ai.A ai.len ai.cap ∧ ∀ b, ai.blk = some b → n0 ≤ b ∧ ∀ x, g'.own x ≠ some b
def CallPost (g : Gh) (S : Sto) (w : World) : CO → Ending → World → Prop
  | .ok r S', .returned c, w' => ∃ g', WR g' S' w' ∧ Ext g g' ∧ Tr g w g' w' ∧ RetOk g' w' w.heap.size r c ∧ S'.length = S.length
  | .pan v S', .panicked ch, w' => ∃ g' c, ch = [{ v := c, recovered := false }] ∧ WR g' S' w' ∧ VR g' v c ∧ Ext g g' ∧ Tr g w g' w' ∧ S'.length = S.length
  | _, _, _ => False
def ArgsR (g : Gh) (args : List PV) (cs : Array Value) : Prop := args.length = cs.size ∧ ∀ i v, args[i]? = some v → VR g v (cs.getD i Go.undef)
/-- All that is said of functions holds. -/
def OracleOk (P : Program) (cl : Oracle) : Prop := ∀ f args S, cl f args S ≠ .bad → ∀ g w cs, WR g S w → ArgsR g args cs → Answers P f cs w (CallPost g S w (cl f args S))
theorem Answers.wp {f : FuncId} {cs : Array Value} {R : Ending → World → Prop} (h : Answers P f cs w R) {o : Oper} {a : Act} {K : Act → World → Prop} {Q : Exit → Act → World → Prop} (he : (execOp a.eval o).run P w = (callFunc f cs).run P w)
    (h1 : ∀ c w', R (.returned c) w' → K (a.put o.dst c) w') (h2 : ∀ ch w', R (.panicked ch) w' → Q (.panic ch) a w') (h3 : ∀ w', ¬ R .outgrown w') : o.wp P a w K Q := by
  unfold Oper.wp
  rw [he]
  rcases h with ⟨h, hc⟩ | ⟨c, w', h, hR⟩
  · rw [h]
    refine hc.mono fun e w' hR => ?_
    cases e with
    | returned v => exact h1 v w' hR
    | panicked ch => exact h2 ch w' hR
    | outgrown => exact absurd hR (h3 w')
  · rw [h]
    exact h1 c w' hR
theorem cells_pure {v : PV} {c : Value} {φ : Fz} (h : VR g v c) (hp : v.cells.all PV.pure = true) (hf : g.fz = φ) : VR ⟨fun _ _ => none, fun _ _ => none, φ⟩ v c := by
  subst hf
  by_cases hv : ∃ vs, v = .agg vs
  · obtain ⟨vs, rfl⟩ := hv
    obtain ⟨cs, rfl, h1, h2⟩ := h.agg_inv
    exact .agg vs cs h1 fun i u hi => .data _ _ ((h2 i u hi).pure_FR (List.all_eq_true.1 hp u (List.mem_of_getElem? hi)))
  · have : v.cells = [v] := by cases v <;> first | rfl | exact absurd ⟨_, rfl⟩ hv
    rw [this] at hp
    exact .data _ _ (h.pure_FR (by simpa using hp))
theorem FR.plain {fz fz' : Fz} {v : PV} {c : Value} (h : FR fz v c) : v.plain = true → FR fz' v c := by
  induction h with
  | bool b => exact fun _ => .bool b
  | int k n => exact fun _ => .int k n
  | str s => exact fun _ => .str s
  | nils z A => intro h; simp [PV.plain] at h
  | list z rows full A cap cs hl hf hs hA hc hv ih => intro h; simp [PV.plain] at h
  | func f => intro h; simp [PV.plain] at h
  | iface t v c _ ih => intro h; exact .iface t v c (ih (by simpa [PV.plain] using h))
  | nili => exact fun _ => .nili
theorem plainL_get : ∀ (vs : List PV), PV.plainL vs = true → ∀ (i : Nat) (v : PV), vs[i]? = some v → v.plain = true
  | [], _, i, v, h => by simp at h
  | u :: vs, h, i, v, hi => by
    simp only [PV.plainL, Bool.and_eq_true] at h
    cases i with
    | zero => simp at hi; subst hi; exact h.1
    | succ i => exact plainL_get vs h.2 i v (by simpa using hi)
theorem VR.plain {v : PV} {c : Value} (h : VR g v c) : v.plain = true → VR g' v c := by
  induction h with
  | data v c h => exact fun hp => .data _ _ (h.plain hp)
  | agg vs cs hl _ ih => exact fun hp => .agg vs cs hl fun i v hi => ih i v hi (plainL_get vs (by simpa [PV.plain] using hp) i v hi)
  | tup vs cs hl _ ih => exact fun hp => .tup vs cs hl fun i v hi => ih i v hi (plainL_get vs (by simpa [PV.plain] using hp) i v hi)
  | iface t v c _ ih => exact fun hp => .iface t v c (ih (by simpa [PV.plain] using hp))
  | undef => exact fun _ => .undef
  | _ => intro hp; simp [PV.plain] at hp
theorem put_pop (g : Gh) (k : AK) (ai : AI) : (g.put 0 k ai g.fz).pop = g.pop := by
  unfold Gh.pop Gh.put
  simp
/-- A row that a call gives back, under the name of the slot that the call fills. -/
theorem ret_row {gb g1 : Gh} {wb w1 : World} {acb ac1 ac' : Ac} (hw : WR g1 ac1.S w1) (hne : 0 < ac1.S.length) {kd : Bool} {d : Nat} {A : Arr} {ai : AI} (hA : ArrRel g1 w1 A ai) (hb : ∀ b, ai.blk = some b → wb.heap.size ≤ b ∧ ∀ x, g1.own x ≠ some b) (he : ac1.e = acb.e) (hl : ac1.S.length = acb.S.length) (hx : Ext gb g1) (ht : Tr gb wb g1 w1)
    (h : newArr kd d A ac1 = .ok ac') : ∃ g', Step kd (some d) gb acb wb ac' (.slice ai.A ai.len ai.cap) w1 g' := by
  obtain ⟨g', t1, hs⟩ := newArr_core (w' := w1) (c := .slice ai.A ai.len ai.cap) (T := fun g' => Tr gb wb g' w1) hw hne (fun g0 S0 hor w0 hn hl0 => by
    have ht0 : Tr gb wb g0 w1 := by
      rcases hor with e | e
      · rw [e]; exact ht
      · rw [e]; exact ht.trans (Tr.kill g1 w1 d)
    have hfz : g0.fz = g1.fz := by rcases hor with e | e <;> rw [e] <;> rfl
    have hown : ∀ x b, g0.own x = some b → g1.own x = some b := by
      intro x b h
      rcases hor with e | e
      · rw [e] at h; exact h
      · rw [e] at h; exact kill_own h
    obtain ⟨p1, p2⟩ := w0.put (w' := w1) (S' := setArr S0 0 (.slot d) A) (n := 0) (k := .slot d) (A := A) (ai := ai) (φ := g0.fz) w0.fz (fun _ _ _ h => h) (fun _ _ _ _ => ⟨rfl, fun _ => rfl⟩) (hA.ghost hfz.symm) (fun b hbk x _ hx => (hb b hbk).2 x (hown x b hx)) (fun ai0 h0 => by rw [hn] at h0; cases h0) nm_slot (by rw [getArr_set, if_pos ⟨rfl, rfl, hl0⟩]) (fun m t b _ => getBox_setArr _ _ _ _ _ _) (fun m j _ hne _ => by rw [getArr_set, if_neg (fun e => hne ⟨e.1, e.2.1⟩)])
    refine ⟨_, p1, p2, ⟨ht0.os, ht0.tape, ht0.output, ht0.size, fun b o v h => ht0.fz b o v h, ht0.keep, fun x k hk => ?_, ?_⟩, ai, by simp [Gh.put], hA.len, hA.gen, rfl, hA.addr, hA.cap⟩
    · rcases put_own hk with ⟨_, h1⟩ | ⟨_, h1⟩
      · exact .inr (hb k h1).1
      · exact ht0.new x k h1
    · rw [put_pop]; exact ht0.out) h
  exact ⟨g', hs gb acb wb he.symm hl.symm hx t1⟩
theorem call_ok {cl : Oracle} (hcl : OracleOk P cl) {o : Oper} {fx : X} {xs : List X} (hc : cOp P o = some (.call fx xs)) {kd : Bool} {ac : Ac} {a : Act} (hr : Rel g ac a w) (hne : 0 < ac.S.length) :
    OpRes P o kd g ac w a (callP cl kd o.dst (ac.ev fx) (xs.map ac.ev) ac) := by
  obtain ⟨c, y, ho, hcal, hy, hxs⟩ := inv_call hc
  unfold callP
  split
  · rename_i f caps hf
    have hfv := hr.ev hy
    rw [hf] at hfv
    obtain ⟨cc, hcc, hcl1, hcr⟩ := hfv.func_inv
    obtain ⟨hxl, hxr⟩ := hr.evs c.args.toList c.argTypes.toList xs hxs
    have hxl' : xs.length = c.args.size := by simpa using hxl
    let cargs : Array Value := c.args.map a.eval ++ cc
    have hexec : (execOp a.eval o).run P w = (callFunc f cargs).run P w := by
      unfold execOp
      rw [ho]
      simp [resolve, hcal, hcc, Deferred.ofValue, invoke, cargs]
    have hargs : ∀ i v, (xs.map ac.ev ++ caps)[i]? = some v → VR g v (cargs.getD i Go.undef) := by
      intro i v hi
      rcases Nat.lt_or_ge i xs.length with hlt | hge
      · rw [List.getElem?_append_left (by simpa using hlt), List.getElem?_map, Option.map_eq_some_iff] at hi
        obtain ⟨x', hx', rfl⟩ := hi
        obtain ⟨x, hx, hvr⟩ := hxr i x' hx'
        have : cargs.getD i Go.undef = a.eval x := by
          have hx2 : c.args[i]? = some x := by simpa using hx
          rw [Array.getD_eq_getD_getElem?, Array.getElem?_append_left (by simp; omega)]
          simp [hx2]
        rw [this]
        exact hvr
      · rw [List.getElem?_append_right (by simpa using hge)] at hi
        have hi' : caps[i - c.args.size]? = some v := by rw [← hxl']; simpa using hi
        have := hcr _ v hi'
        have e : cargs.getD i Go.undef = cc.getD (i - c.args.size) Go.undef := by
          rw [Array.getD_eq_getD_getElem?, Array.getElem?_append_right (by simp; omega), Array.getD_eq_getD_getElem?]
          simp
        rw [e]
        exact this
    have hsize : (xs.map ac.ev ++ caps).length = cargs.size := by simp [cargs, hxl', hcl1]
    split
    · rename_i as_ S1 hh
      obtain ⟨g1, w1, x1, t1, l1, r1⟩ := handA_ok _ as_ ac.S S1 g (fun i => cargs.getD i Go.undef) hr.wr hargs hh
      have hS1 : S1.length = ac.S.length := handA_length _ _ _ _ hh
      have hcall := hcl f as_ S1
      split
      · rename_i r S2 hres
        dsimp only
        by_cases hrest : ((xs.map ac.ev ++ caps).any PV.hasSl && as_.all (fun v => v.cells.all PV.pure) && r.plain) = true
        · rw [if_pos hrest]
          simp only [Bool.and_eq_true] at hrest
          obtain ⟨⟨_, hpure⟩, hplain⟩ := hrest
          cases r with
          | arr sz rows frz => cases hplain
          | v x =>
            intro K Q hK
            have wE : WR ⟨fun _ _ => none, fun _ _ => none, g1.fz⟩ S1 w := ⟨w1.fz, (fun _ _ _ h => by cases h), (fun _ _ _ h => by cases h), fun x y b h => by cases x <;> simp [Gh.own] at h⟩
            have ha := hcall (by rw [hres]; exact fun h => by cases h) ⟨fun _ _ => none, fun _ _ => none, g1.fz⟩ w cargs wE ⟨l1.trans hsize, fun i v hi => cells_pure (r1 i v hi) (List.all_eq_true.1 hpure v (List.mem_of_getElem? hi)) rfl⟩
            rw [hres] at ha
            refine ha.wp hexec (fun c' w' hR => ?_) (fun ch w' hR => hR.elim) (fun w' hR => hR.elim)
            obtain ⟨g2, w2, x2, t2, ret, _⟩ := hR
            have hkeep : ∀ k, k < w.heap.size → w'.heap[k]? = w.heap[k]? := fun k hk => t2.keep k hk (fun x h => by cases x <;> simp [Gh.own] at h)
            have hwr : WR g ac.S w' := hr.wr.keep (fun b o' v h => by
              have := hr.wr.fz b o' v h
              have hlt := cell_lt this
              unfold World.cell? at this ⊢
              rw [hkeep b hlt]
              exact this) (fun x b h => hkeep b (hr.wr.own_lt h))
            refine hK c' w' g (put_step (S' := ac.S) hwr (Ext.refl g) ⟨t2.os, t2.tape, t2.output, t2.size, fun _ _ _ h => h, fun k hk _ => hkeep k hk, fun x k h => .inl h, Ext.refl _⟩ (VR.plain ret hplain) rfl)
        · rw [if_neg hrest]
          have ha := hcall (by rw [hres]; exact fun h => by cases h) g1 w cargs w1 ⟨l1.trans hsize, r1⟩
          rw [hres] at ha
          cases r with
          | v x =>
            intro K Q hK
            refine ha.wp hexec (fun c' w' hR => ?_) (fun ch w' hR => hR.elim) (fun w' hR => hR.elim)
            obtain ⟨g2, w2, x2, t2, ret, l2⟩ := hR
            exact hK c' w' g2 (put_step w2 (x1.trans x2) (t1.trans t2) ret (l2.trans hS1))
          | arr sz rows frz =>
            dsimp only
            cases hd : o.dst with
            | none =>
              intro K Q hK
              refine ha.wp hexec (fun c' w' hR => ?_) (fun ch w' hR => hR.elim) (fun w' hR => hR.elim)
              obtain ⟨g2, w2, x2, t2, ret, l2⟩ := hR
              have := put_step (d := none) (kd := kd) (ac := ac) (v := .junk) (c := c') w2 (x1.trans x2) (t1.trans t2) (.junk _) (l2.trans hS1)
              rw [hd] at hK ⊢
              exact hK c' w' g2 this
            | some d =>
              dsimp only
              cases hn : newArr kd d ⟨sz, rows, frz, 0⟩ { ac with S := S2 } with
              | bad => trivial
              | pan v S => unfold newArr at hn; split at hn <;> first | cases hn | (split at hn <;> cases hn)
              | ok ac' =>
                intro K Q hK
                refine ha.wp hexec (fun c' w' hR => ?_) (fun ch w' hR => hR.elim) (fun w' hR => hR.elim)
                obtain ⟨g2, w2, x2, t2, ⟨ai, hA, rfl, hb⟩, l2⟩ := hR
                obtain ⟨g3, hst⟩ := ret_row (acb := ac) (ac1 := { ac with S := S2 }) w2 (by show 0 < S2.length; omega) hA hb rfl (l2.trans hS1) (x1.trans x2) (t1.trans t2) hn
                rw [hd] at hK ⊢
                exact hK _ w' g3 hst
      · rename_i v S2 hres
        intro K Q hK
        have ha := hcall (by rw [hres]; exact fun h => by cases h) g1 w cargs w1 ⟨l1.trans hsize, r1⟩
        rw [hres] at ha
        refine ha.wp hexec (fun c' w' hR => hR.elim) (fun ch w' hR => ?_) (fun w' hR => hR.elim)
        obtain ⟨g2, c', rfl, w2, v2, x2, t2, l2⟩ := hR
        exact hK c' w' g2 w2 v2 (t1.trans t2) (l2.trans hS1)
      · trivial
    · trivial
  · trivial
end
end Go.Proofs.Ytebflncfgjnkkaa.M
