/- THE ABSTRACT MACHINE, thirty-fourth part: slices.Clone, which asks whether a row is nil: either answer comes to the same. -/
import Derived.Test.YtebflncfgjnkkaaMa33
namespace Go.Proofs.Ytebflncfgjnkkaa.M
set_option linter.unusedSimpArgs false
set_option linter.unusedVariables false
open Go Classical
section
variable {g g' : Gh} {S S' : Sto} {w w' : World} {P : Program}
theorem seq_post {cl : Oracle} (hcl : OracleOk P cl) (hm : P.follows .mixedOrders = true) {n : Nat} {b : Code} {sb : SC} (hb : cCode P n b = some sb) {N l : Nat} {Q : Exit → Act → World → Prop} {sa : SC} {ac : Ac} (hl : ac.S.length = l) (hp : EPost n g l w Q (evC cl N (.seq sa sb) ac)) :
    EPost n g l w (Exit.then (b.wp P Q) Q) (evC cl N sa ac) := by
  have hbad : evC cl N sa ac ≠ .bad := fun e => by
    simp only [evC, e] at hp
    exact hp
  refine EPost.behind hbad (fun hnn => ?_) (fun ac' he a' w' g' h1 h2 h3 => ?_)
  · simp only [evC] at hp
    cases he : evC cl N sa ac with
    | nor ac' => exact absurd he (hnn ac')
    | _ => rw [he] at hp; exact hp
  · simp only [evC, he] at hp
    exact evC_ok hcl hm b sb hb N h1 (by rw [h3]; exact hp.from h2)
/-- A row of its own that comes back may be taken for data. -/
theorem arr_to_list {sz : Nat} {rows : List (List PV)} {c : Value} (h : CallPost g S w (.ok (.arr sz rows false) S') (.returned c) w') : CallPost g S w (.ok (.v (.list sz rows false)) S') (.returned c) w' := by
  obtain ⟨g1, w1, x1, t1, ⟨ai, hA, rfl, hb⟩, l1⟩ := h
  obtain ⟨cs, c1, c2⟩ := hA.cells
  by_cases hr : rows = []
  · subst hr
    refine ⟨g1, w1, x1, t1, ?_, l1⟩
    have e0 : ai.len = ([] : List (List PV)).length := hA.len
    rw [e0]
    exact .data _ _ (.list sz [] false ai.A ai.cap (fun _ _ => undef) (Nat.zero_le _) (fun h => by cases h) (fun r hr => by cases hr) (fun h => absurd rfl h) (fun ad i j row v _ hi => by simp at hi) (fun i j row v hi => by simp at hi))
  · have hbk : ∃ b, ai.blk = some b := by
      cases hbk : ai.blk with
      | some b => exact ⟨b, rfl⟩
      | none =>
        rcases (hA.free hbk).2 with h | h
        · cases h
        · exact absurd h hr
    obtain ⟨b, hbk⟩ := hbk
    obtain ⟨hb1, hb2⟩ := hb b hbk
    obtain ⟨hA1, ⟨cells, elem, hc1, hc2⟩, _, hfz⟩ := hA.own b hbk
    have hfz' := hfz rfl
    obtain ⟨p1, p2⟩ := w1.fzMore (φ := fun b' o => if b' = b then w'.cell? ⟨b', o, none⟩ else g1.fz b' o) (fun b' o v hh => by
      split at hh
      · exact hh
      · exact w1.fz b' o v hh) (fun b' o v hh => by
      rw [if_neg]
      · exact hh
      · rintro rfl
        rw [hfz'] at hh
        cases hh) (fun x b' hx o => by
      rw [if_neg]
      rintro rfl
      exact hb2 x hx)
    refine ⟨_, p1, x1.trans p2, t1.trans ⟨rfl, rfl, rfl, Nat.le_refl _, p2.fz, fun _ _ _ => rfl, fun x k h => .inl h, p2.pop_⟩, ?_, l1⟩
    have e0 : ai.len = rows.length := hA.len
    rw [e0]
    refine .data _ _ (.list sz rows false ai.A ai.cap cs (by rw [← e0]; exact hA.cap) (fun h => by cases h) hA.each hA.addr (fun ad i j row v had hi hj => ?_) (fun i j row v hi hj => (c1 i j row v hi hj).mono p2.fz))
    have := (c2 ad i j row v had hi hj).1
    rw [hA1] at had
    obtain rfl := Option.some.inj had
    show (if b = b then _ else _) = _
    rw [if_pos rfl]
    exact this
theorem inv_isnil {o : Oper} {x' : X} (h : cOp P o = some (.v (.isnil false x'))) : ∃ t e x y u, o.op = .binOp .eql t x y u ∧ P.underlying t = some (.slice e) ∧ isNilSlice y = true ∧ cX P t x = some x' := by
  obtain ⟨dst, op, ty, pos, after, guard⟩ := o
  cases op <;> simp only [cOp, reduceCtorEq, Option.map_eq_some_iff] at h
  case binOp op t x y u =>
    split at h
    · rename_i x1 y1 hx hy
      split at h
      · rw [Option.map_eq_some_iff] at h; obtain ⟨_, _, h⟩ := h; cases h
      · rw [Option.map_eq_some_iff] at h; obtain ⟨_, _, h⟩ := h; cases h
      · cases h
      · cases h
      · rename_i e ht
        split at h
        · rename_i hn
          cases h
          exact ⟨t, e, x, y, u, rfl, ht, hn, hx⟩
        · cases h
      · split at h <;> cases h
      · cases h
      · cases h
    · cases h
  case call c =>
    unfold cCall at h
    repeat' split at h
    all_goals cases h
  all_goals first
    | (obtain ⟨_, _, h⟩ := h; cases h; done)
    | (repeat' split at h
       all_goals first | (cases h; done) | (rw [Option.map_eq_some_iff] at h; obtain ⟨_, _, h⟩ := h; cases h))
theorem inv_seq {n : Nat} {c : Code} {a b : SC} (h : cCode P n c = some (.seq a b)) : ∃ x y, c = .seq x y ∧ cCode P n x = some a ∧ cCode P n y = some b := by
  cases c <;> (try simp only [cCode, reduceCtorEq, Option.some.injEq, Option.map_eq_some_iff, false_and, and_false, exists_false] at h)
  case region id ops d =>
    cases d <;> simp only [cCode] at h
    · rw [Option.map_eq_some_iff] at h; obtain ⟨_, _, h⟩ := h; cases h
    · split at h
      · split at h <;> cases h
      · cases h
  case seq x y =>
    split at h
    · rename_i a' b' h1 h2
      cases h
      exact ⟨x, y, rfl, h1, h2⟩
    · cases h
  case cond => split at h <;> cases h
theorem inv_reg {n : Nat} {c : Code} {l : List SOper} (h : cCode P n c = some (.reg l)) : ∃ id ops, c = .region id ops false ∧ cOpers P n ops ops.toList = some l := by
  cases c <;> (try simp only [cCode, reduceCtorEq, Option.some.injEq, Option.map_eq_some_iff, false_and, and_false, exists_false] at h)
  case region id ops d =>
    cases d <;> simp only [cCode] at h
    · rw [Option.map_eq_some_iff] at h; obtain ⟨l', h1, h⟩ := h; cases h; exact ⟨id, ops, rfl, h1⟩
    · split at h
      · split at h <;> cases h
      · cases h
  case seq x y => split at h <;> cases h
  case cond => split at h <;> cases h
theorem comp_inv {fn : Func} {sf : SFunc} (h : comp P fn = some sf) : ∃ c, fn.body = some c ∧ cCode P fn.ntmps c = some sf.code ∧ cRes P fn.ntmps fn.results.toList = some sf.res ∧ sf.nargs = fn.params.size + fn.nfree ∧ fn.params.size + fn.nfree ≤ fn.ntmps := by
  unfold comp at h
  split at h
  · rename_i c hb
    split at h
    · rename_i c' r' h1 h2
      split at h
      · rename_i hc
        cases h
        exact ⟨c, hb, h1, h2, rfl, hc.1⟩
      · cases h
    · cases h
  · cases h
theorem start_relA (hw : WR g S w) {args : List PV} {cs : Array Value} (ha : ArgsR g args cs) {n : Nat} (hsz : cs.size ≤ n) : RelA n g.push (ac0 args S) { tmps := cs ++ Array.replicate (n - cs.size) undef, defers := [] } w := by
  refine ⟨⟨push_wr hw, fun t => ?_⟩, by simp; omega, rfl, Nat.succ_pos _⟩
  show VR g.push (argE (args.map PV.up) t) ((cs ++ Array.replicate (n - cs.size) undef).getD t undef)
  unfold argE
  rw [List.getElem?_map, Array.getD_eq_getD_getElem?]
  cases hat : args[t]? with
  | some v =>
    have hlt := (List.getElem?_eq_some_iff.1 hat).1
    rw [Array.getElem?_append_left (by rw [← ha.1]; exact hlt)]
    simp only [Option.map_some, Option.getD_some]
    rw [← Array.getD_eq_getD_getElem?]
    exact (ha.2 t v hat).up (Gh.pop_push g)
  | none =>
    have hge := List.getElem?_eq_none_iff.1 hat
    rw [Array.getElem?_append_right (by rw [← ha.1]; exact hge)]
    simp only [Option.map_none, Option.getD_none]
    rw [Array.getElem?_replicate]
    split <;> exact .undef
end
end Go.Proofs.Ytebflncfgjnkkaa.M
