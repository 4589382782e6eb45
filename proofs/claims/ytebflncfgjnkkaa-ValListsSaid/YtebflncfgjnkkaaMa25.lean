/- THE ABSTRACT MACHINE, twenty-fifth part: a region whose operations run as they stand. -/
import Derived.Test.YtebflncfgjnkkaaMa24
import Derived.Tactics
namespace Go.Proofs.Ytebflncfgjnkkaa.M
set_option linter.unusedSimpArgs false
set_option linter.unusedVariables false
open Go
section
variable {g g' : Gh} {S S' : Sto} {w w' : World} {P : Program}
/-- The frame, as the machine sees it: n slots, nothing deferred. -/
structure RelA (n : Nat) (g : Gh) (ac : Ac) (a : Act) (w : World) : Prop where
  rel : Rel g ac a w
  size : a.tmps.size = n
  defers : a.defers = []
  ne : 0 < ac.S.length
/-- What is left to show behind code that comes out so. -/
def EPost (n : Nat) (g : Gh) (l : Nat) (w : World) (Q : Exit → Act → World → Prop) : EO → Prop
  | .nor ac' => ∀ a' w' g', RelA n g' ac' a' w' → Tr g w g' w' → ac'.S.length = l → Q .normal a' w'
  | .ext id ac' => ∀ a' w' g', RelA n g' ac' a' w' → Tr g w g' w' → ac'.S.length = l → Q (.exit id) a' w'
  | .ret ac' => ∀ a' w' g', RelA n g' ac' a' w' → Tr g w g' w' → ac'.S.length = l → Q .ret a' w'
  | .pan v S => ∀ a' w' g' c, WR g' S w' → VR g' v c → Tr g w g' w' → S.length = l → a'.defers = [] → Q (.panic [{ v := c, recovered := false }]) a' w'
  | .bad => False
theorem EPost.from {n l : Nat} {g1 : Gh} {w1 : World} {Q : Exit → Act → World → Prop} {r : EO} (h : EPost n g l w Q r) (ht : Tr g w g1 w1) : EPost n g1 l w1 Q r := by
  cases r with
  | nor ac => exact fun a' w' g' h1 h2 h3 => h a' w' g' h1 (ht.trans h2) h3
  | ext id ac => exact fun a' w' g' h1 h2 h3 => h a' w' g' h1 (ht.trans h2) h3
  | ret ac => exact fun a' w' g' h1 h2 h3 => h a' w' g' h1 (ht.trans h2) h3
  | pan v S => exact fun a' w' g' c h1 h2 h3 h4 h5 => h a' w' g' c h1 h2 (ht.trans h3) h4 h5
  | bad => exact h
def doOp (P : Program) (ops : Array Oper) (o : Oper) (a : Act) (w : World) (K : Act → World → Prop) (Q : Exit → Act → World → Prop) : Prop :=
  if Region.wanted o (yielded ops a.tmps) = true then o.wp P a w K Q else K (a.put o.dst Go.undef) w
def DoRes (P : Program) (ops : Array Oper) (o : Oper) (kd : Bool) (g : Gh) (ac : Ac) (w : World) (a : Act) : OO → Prop
  | .ok ac' => ∀ (K : Act → World → Prop) (Q : Exit → Act → World → Prop), (∀ c w' g', Step kd o.dst g ac w ac' c w' g' → K (a.put o.dst c) w') → doOp P ops o a w K Q
  | .pan v S => ∀ (K : Act → World → Prop) (Q : Exit → Act → World → Prop), (∀ c w' g', WR g' S w' → VR g' v c → Tr g w g' w' → S.length = ac.S.length → Q (.panic [{ v := c, recovered := false }]) a w') → doOp P ops o a w K Q
  | .bad => True
theorem OpRes.wanted {ops : Array Oper} {o : Oper} {kd : Bool} {ac : Ac} {a : Act} {r : OO} (h : OpRes P o kd g ac w a r) (hw : Region.wanted o (yielded ops a.tmps) = true) : DoRes P ops o kd g ac w a r := by
  cases r with
  | ok ac' => intro K Q hK; unfold doOp; rw [if_pos hw]; exact h K Q hK
  | pan v S => intro K Q hK; unfold doOp; rw [if_pos hw]; exact h K Q hK
  | bad => trivial
theorem cOper_inv {n : Nat} {ops : Array Oper} {o : Oper} {so : SOper} (h : cOper P n ops o = some so) : cOp P o = some so.op ∧ so.dst = o.dst ∧ (∀ d, o.dst = some d → d < n) ∧
    ((o.guard = none ∧ so.guard = none) ∨ ∃ j b d, o.guard = some (j, b) ∧ (ops[j]?).bind (·.dst) = some d ∧ so.guard = some (d, b)) := by
  unfold cOper at h
  split at h
  · cases h
  · rename_i op hop
    split at h
    · rename_i hd
      have hdn : ∀ d, o.dst = some d → d < n := by
        intro d hd'
        rw [hd'] at hd
        simpa using hd
      split at h
      · rename_i hg
        cases h
        exact ⟨hop, rfl, hdn, .inl ⟨hg, rfl⟩⟩
      · rename_i j b hg
        split at h
        · rename_i d hj
          cases h
          exact ⟨hop, rfl, hdn, .inr ⟨j, b, d, hg, hj, rfl⟩⟩
        · cases h
    · cases h
theorem getD_bool {a : Act} {d : Nat} {b : Bool} (h : a.eval (.tmp d) = .bool b) : a.tmps[d]? = some (.bool b) := by
  simp only [Act.eval] at h
  rw [Array.getD_eq_getD_getElem?] at h
  cases hd : a.tmps[d]? with
  | none => rw [hd] at h; simp [Go.undef] at h
  | some v => rw [hd] at h; simp at h; rw [h]
theorem stp_ok {cl : Oracle} (hcl : OracleOk P cl) {n : Nat} {ops : Array Oper} {o : Oper} {so : SOper} (hc : cOper P n ops o = some so) {kd : Bool} {ac : Ac} {a : Act} (hr : RelA n g ac a w) (hfree : kd = false → ∀ d z, so.dst = some d → so.op = .alloc z → Bare g 0 d) :
    DoRes P ops o kd g ac w a (stp cl kd so ac) := by
  obtain ⟨h1, h2, h3, h4⟩ := cOper_inv hc
  have hop : OpRes P o kd g ac w a (ex cl kd so.dst so.op ac) := by
    rw [h2]
    exact ex_ok h1 hr.rel hr.ne (fun hk d z hd hz => hfree hk d z (by rw [h2]; exact hd) hz) (fun f xs he => call_ok hcl (by rw [h1, he]) hr.rel hr.ne)
  have hskip : Region.wanted o (yielded ops a.tmps) = false → DoRes P ops o kd g ac w a (.ok (ac.put so.dst .undef)) := by
    intro hw K Q hK
    unfold doOp
    rw [if_neg (by rw [hw]; simp)]
    rw [h2] at hK
    exact hK _ w g (put_step (S' := ac.S) (v := .undef) hr.rel.wr (Ext.refl g) (Tr.refl g w) .undef rfl)
  unfold stp
  rcases h4 with ⟨hg, hsg⟩ | ⟨j, b, d, hg, hj, hsg⟩
  · rw [hsg]
    exact hop.wanted (by simp [Region.wanted, hg])
  · rw [hsg]
    dsimp only
    have henv := hr.rel.env d
    split
    · rename_i b' hb'
      rw [hb'] at henv
      have ht := getD_bool henv.bool_inv
      have hy : yielded ops a.tmps j = some b' := by simp [yielded, hj, ht]
      split
      · rename_i e
        subst e
        exact hop.wanted (by simp [Region.wanted, hg, hy])
      · rename_i e
        exact hskip (by simp [Region.wanted, hg, hy, e])
    · rename_i hu
      rw [hu] at henv
      have hev := henv.undef_inv
      refine hskip ?_
      have hy : yielded ops a.tmps j = none := by
        simp only [yielded, hj, Option.bind_some]
        simp only [Act.eval] at hev
        rw [Array.getD_eq_getD_getElem?] at hev
        cases hd : a.tmps[d]? with
        | none => rfl
        | some v => rw [hd] at hev; simp at hev; subst hev; rfl
      simp [Region.wanted, hg, hy]
    · trivial
theorem Act.put_size (a : Act) (d : Option Nat) (c : Value) : (a.put d c).tmps.size = a.tmps.size := by cases d <;> simp [Act.put]
theorem Act.put_defers_ (a : Act) (d : Option Nat) (c : Value) : (a.put d c).defers = a.defers := by cases d <;> rfl
theorem eval_put_same {a : Act} {d : Nat} {c : Value} (h : d < a.tmps.size) : (a.put (some d) c).eval (.tmp d) = c := by
  simp only [Act.put, Act.eval]
  rw [Array.getD_eq_getD_getElem?]
  simp [h]
theorem eval_put_ne {a : Act} {d : Option Nat} {t : Nat} {c : Value} (h : d ≠ some t) : (a.put d c).eval (.tmp t) = a.eval (.tmp t) := by
  cases d with
  | none => rfl
  | some d =>
    have : d ≠ t := fun e => h (by rw [e])
    simp only [Act.put, Act.eval]
    rw [Array.getD_eq_getD_getElem?, Array.getD_eq_getD_getElem?]
    simp [this]
theorem Step.relA {kd : Bool} {d : Option Nat} {n : Nat} {ac ac' : Ac} {a : Act} {c : Value} (h : Step kd d g ac w ac' c w' g') (hr : RelA n g ac a w) (hd : ∀ t, d = some t → t < n) : RelA n g' ac' (a.put d c) w' := by
  refine ⟨⟨h.wr, fun t => ?_⟩, by rw [Act.put_size]; exact hr.size, by rw [Act.put_defers_]; exact hr.defers, by rw [h.len]; exact hr.ne⟩
  by_cases e : d = some t
  · subst e
    rw [eval_put_same (by rw [hr.size]; exact hd t rfl)]
    exact h.dst t rfl
  · rw [eval_put_ne e]
    exact h.env t e _ (hr.rel.env t)
theorem evOps_ok {cl : Oracle} (hcl : OracleOk P cl) {n : Nat} {ops : Array Oper} {Q : Exit → Act → World → Prop} : ∀ (ol : List Oper) (l : List SOper), cOpers P n ops ol = some l → ∀ {g : Gh} {ac : Ac} {a : Act} {w : World}, RelA n g ac a w → EPost n g ac.S.length w Q (evOps cl l ac) → wpList P ops Q ol a w
  | [], l, hc, g, ac, a, w, hr, hp => by
    simp only [cOpers, Option.some.injEq] at hc
    subst hc
    exact hp a w g hr (Tr.refl g w) rfl
  | o :: ol, l, hc, g, ac, a, w, hr, hp => by
    simp only [cOpers] at hc
    split at hc
    · rename_i so sl ho hl
      obtain rfl := Option.some.inj hc
      have hs := stp_ok hcl ho (kd := true) hr (fun h => by cases h)
      obtain ⟨_, _, hdn, _⟩ := cOper_inv ho
      refine wpList_step fun K hK => ?_
      simp only [evOps] at hp
      cases hst : stp cl true so ac with
      | ok ac' =>
        rw [hst] at hs hp
        have := hs K Q (fun c w' g' hstep => hK _ _ (evOps_ok hcl ol sl hl (hstep.relA hr hdn) (by rw [hstep.len]; exact hp.from hstep.tr)))
        unfold doOp at this
        exact this
      | pan v S =>
        rw [hst] at hs hp
        have := hs K Q (fun c w' g' h1 h2 h3 h4 => hp a w' g' c h1 h2 h3 h4 hr.defers)
        unfold doOp at this
        exact this
      | bad => rw [hst] at hp; exact hp.elim
    · cases hc
end
end Go.Proofs.Ytebflncfgjnkkaa.M
