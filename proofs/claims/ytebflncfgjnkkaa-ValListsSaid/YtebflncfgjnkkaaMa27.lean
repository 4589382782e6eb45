/- THE ABSTRACT MACHINE, twenty-seventh part: a region of open order: whatever order is drawn, what comes out is what is reckoned. -/
import Derived.Test.YtebflncfgjnkkaaMa26
import Derived.Orders
namespace Go.Proofs.Ytebflncfgjnkkaa.M
set_option linter.unusedSimpArgs false
set_option linter.unusedVariables false
open Go
section
variable {g g' : Gh} {S S' : Sto} {w w' : World} {P : Program}
/-! ### Who must be before whom -/
def Good (ops : List Oper) (A : Array Nat) : Prop := ∀ i j, (A.getD i 0).testBit j = true → ∃ o, ops[i]? = some o ∧ ∃ e ∈ o.after.toList, Region.binds .any e = true ∧ (e.on = j ∨ (A.getD e.on 0).testBit j = true)
theorem bits_spec (A : Array Nat) (j : Nat) : ∀ (es : List Edge) (s : Nat), (es.foldl (fun s e => if Region.binds .any e = true then s ||| 2 ^ e.on ||| A.getD e.on 0 else s) s).testBit j = true → s.testBit j = true ∨ ∃ e ∈ es, Region.binds .any e = true ∧ (e.on = j ∨ (A.getD e.on 0).testBit j = true)
  | [], s, h => .inl h
  | e :: es, s, h => by
    simp only [List.foldl_cons] at h
    rcases bits_spec A j es _ h with h1 | ⟨e', he, h1⟩
    · split at h1
      · rename_i hb
        rw [Nat.testBit_or, Nat.testBit_or, Nat.testBit_two_pow] at h1
        simp only [Bool.or_eq_true, decide_eq_true_eq] at h1
        rcases h1 with (h1 | h1) | h1
        · exact .inl h1
        · exact .inr ⟨e, by simp, hb, .inl h1⟩
        · exact .inr ⟨e, by simp, hb, .inr h1⟩
      · exact .inl h1
    · exact .inr ⟨e', by simp [he], h1⟩
theorem getD_push (A : Array Nat) (x : Nat) (i : Nat) : (A.push x).getD i 0 = if i = A.size then x else A.getD i 0 := by
  rw [Array.getD_eq_getD_getElem?, Array.getElem?_push]
  split
  · simp
  · rw [Array.getD_eq_getD_getElem?]
theorem good_fold (ops : List Oper) : ∀ (l pre : List Oper) (A : Array Nat), ops = pre ++ l → A.size = pre.length → Good ops A →
    Good ops (l.foldl (fun acc o => acc.push (o.after.toList.foldl (fun s e => if Region.binds .any e = true then s ||| 2 ^ e.on ||| acc.getD e.on 0 else s) 0)) A)
  | [], pre, A, _, _, h => h
  | o :: l, pre, A, h1, h2, h => by
    simp only [List.foldl_cons]
    refine good_fold ops l (pre ++ [o]) _ (by simp [h1]) (by simp [h2]) ?_
    intro i j hb
    have hlt : ∀ k, (A.getD k 0).testBit j = true → k < A.size := by
      intro k hk
      rcases Nat.lt_or_ge k A.size with h | h
      · exact h
      · rw [Array.getD_eq_getD_getElem?, Array.getElem?_eq_none h] at hk
        simp at hk
    have lift : ∀ k, (A.getD k 0).testBit j = true → ((A.push (o.after.toList.foldl (fun s e => if Region.binds .any e = true then s ||| 2 ^ e.on ||| A.getD e.on 0 else s) 0)).getD k 0).testBit j = true := by
      intro k hk
      rw [getD_push, if_neg (Nat.ne_of_lt (hlt k hk))]
      exact hk
    rw [getD_push] at hb
    split at hb
    · rename_i e
      rcases bits_spec A j _ _ hb with h0 | ⟨e', he, hbd, h3⟩
      · simp at h0
      · refine ⟨o, by rw [h1, e, h2]; simp, e', he, hbd, h3.imp id (lift _)⟩
    · obtain ⟨o', q1, e', q2, q3, q4⟩ := h i j hb
      exact ⟨o', q1, e', q2, q3, q4.imp id (lift _)⟩
theorem before_good (ops : Array Oper) : Good ops.toList (CheckFast.beforeF ops) := by
  rw [CheckFast.beforeF_eq]
  unfold Region.before
  rw [← Array.foldl_toList]
  have := good_fold ops.toList ops.toList [] #[] rfl rfl (fun i j h => by simp at h)
  have e : (fun (acc : Array Nat) (o : Oper) => acc.push (o.after.foldl (fun s e => if Region.binds .any e = true then s ||| 2 ^ e.on ||| acc.getD e.on 0 else s) 0)) = fun acc o => acc.push (o.after.toList.foldl (fun s e => if Region.binds .any e = true then s ||| 2 ^ e.on ||| acc.getD e.on 0 else s) 0) := by
    funext acc o
    rw [Array.foldl_toList]
  rw [e]
  exact this
theorem all_idx {α : Type} {l : List α} {f : α × Nat → Bool} (h : (l.zipIdx).all f = true) {i : Nat} {o : α} (hi : l[i]? = some o) : f (o, i) = true := by
  rw [List.all_eq_true] at h
  exact h (o, i) (List.mk_mem_zipIdx_iff_getElem?.2 hi)
theorem cOpers_get {n : Nat} {ops : Array Oper} : ∀ (ol : List Oper) (l : List SOper), cOpers P n ops ol = some l → l.length = ol.length ∧ ∀ (i : Nat) (o : Oper), ol[i]? = some o → ∃ so, l[i]? = some so ∧ cOper P n ops o = some so
  | [], l, h => by
    simp only [cOpers, Option.some.injEq] at h
    subst h
    exact ⟨rfl, fun i o h => by simp at h⟩
  | o :: ol, l, h => by
    simp only [cOpers] at h
    split at h
    · rename_i so sl ho hl
      obtain rfl := Option.some.inj h
      obtain ⟨h1, h2⟩ := cOpers_get ol sl hl
      refine ⟨by simp [h1], fun i o' hi => ?_⟩
      cases i with
      | zero => simp at hi; subst hi; exact ⟨so, rfl, ho⟩
      | succ i => simpa using h2 i o' (by simpa using hi)
    · cases h
theorem evD_seq {cl : Oracle} : ∀ (l : List SOper) (tot : List Bool) (ac acN : Ac), evD cl l tot ac = .nor acN → ∃ s : Nat → Ac, s 0 = ac ∧ s l.length = acN ∧ ∀ i o, l[i]? = some o → stp cl false o (s i) = .ok (s (i + 1)) ∧ (tot.getD i false = true ∨ (s (i + 1)).S = (s i).S)
  | [], tot, ac, acN, h => by
    simp only [evD, EO.nor.injEq] at h
    exact ⟨fun _ => ac, rfl, h, fun i o h => by simp at h⟩
  | o :: l, tot, ac, acN, h => by
    simp only [evD] at h
    split at h
    · rename_i ac' hs
      split at h
      · rename_i ht
        obtain ⟨s, h1, h2, h3⟩ := evD_seq l tot.tail ac' acN h
        refine ⟨fun i => match i with | 0 => ac | i + 1 => s i, rfl, h2, fun i o' hi => ?_⟩
        cases i with
        | zero =>
          simp at hi
          subst hi
          dsimp only
          simp only [Nat.zero_add, h1]
          refine ⟨hs, ?_⟩
          cases tot with
          | nil => simpa using ht
          | cons t tot => simpa using ht
        | succ i =>
          have := h3 i o' (by simpa using hi)
          refine ⟨this.1, ?_⟩
          cases tot with
          | nil => simpa using this.2
          | cons t tot => simpa using this.2
      · cases h
    · cases h
/-- What is laid ready. -/
theorem prep_ok {n : Nat} {a : Act} : ∀ (l : List SOper) (ac : Ac) (g : Gh), RelA n g ac a w → ∃ g', RelA n g' (prep l ac) a w ∧ Tr g w g' w ∧ (prep l ac).S.length = ac.S.length ∧ (∀ t, Bare g 0 t → Bare g' 0 t) ∧ ∀ o ∈ l, ∀ d z, o.dst = some d → o.op = .alloc z → Bare g' 0 d
  | [], ac, g, hr => ⟨g, hr, Tr.refl g w, rfl, fun _ h => h, fun o ho => by cases ho⟩
  | o :: l, ac, g, hr => by
    have keep : ∀ t d, Bare g 0 t → Bare (g.kill d) 0 t := by
      intro t d hb
      refine ⟨?_, fun i => ?_⟩
      · simp only [Gh.kill]; split
        · rfl
        · exact hb.1
      · simp only [Gh.kill]; split
        · rfl
        · exact hb.2 i
    have kills : ∀ d, RelA n (g.kill d) (ac.kill d) a w := fun d => ⟨hr.rel.kill d, hr.size, hr.defers, by show 0 < (killS d ac.S).length; rw [killS_length]; exact hr.ne⟩
    have bared : ∀ d, Bare (g.kill d) 0 d := fun d => ⟨killed_b g d, fun i => killed_a g rfl⟩
    have done : ∀ ac1 g1, RelA n g1 ac1 a w → Tr g w g1 w → ac1.S.length = ac.S.length → (∀ t, Bare g 0 t → Bare g1 0 t) → (∀ d z, o.dst = some d → o.op = .alloc z → Bare g1 0 d) → prep (o :: l) ac = prep l ac1 →
        ∃ g', RelA n g' (prep (o :: l) ac) a w ∧ Tr g w g' w ∧ (prep (o :: l) ac).S.length = ac.S.length ∧ (∀ t, Bare g 0 t → Bare g' 0 t) ∧ ∀ o' ∈ o :: l, ∀ d z, o'.dst = some d → o'.op = .alloc z → Bare g' 0 d := by
      intro ac1 g1 h1 h2 h3 h4 h5 h6
      obtain ⟨g', q1, q2, q3, q4, q5⟩ := prep_ok l ac1 g1 h1
      rw [h6]
      refine ⟨g', q1, h2.trans q2, q3.trans h3, fun t ht => q4 t (h4 t ht), fun o' ho d z hd hz => ?_⟩
      rcases List.mem_cons.1 ho with rfl | ho
      · exact q4 d (h5 d z hd hz)
      · exact q5 o' ho d z hd hz
    obtain ⟨dst, guard, op⟩ := o
    cases dst with
    | none => exact done ac g hr (Tr.refl g w) rfl (fun _ h => h) (fun d z hd => by cases hd) (by cases op <;> rfl)
    | some d =>
      have plainKill : prep (⟨some d, guard, op⟩ :: l) ac = prep l (ac.kill d) → (∀ z, op ≠ .alloc z) → _ := fun h hz => done (ac.kill d) (g.kill d) (kills d) (Tr.kill g w d) (killS_length d ac.S) (fun t => keep t d) (fun d' z hd hz' => absurd hz' (hz z)) h
      cases op with
      | alloc z =>
        refine done ⟨killE d ac.e, newBox d z (killS d ac.S)⟩ (g.kill d) ⟨⟨(kills d).rel.wr.congr (fun m t b hb => ?_) (fun m k ai ha => ?_), (kills d).rel.env⟩, hr.size, hr.defers, by rw [newBox_length, killS_length]; exact hr.ne⟩ (Tr.kill g w d) (by rw [newBox_length, killS_length]) (fun t => keep t d) (fun d' z' hd _ => by cases hd; exact bared d) rfl
        · rw [getBox_new, if_neg]
          · rfl
          · rintro ⟨rfl, rfl, _⟩
            rw [killed_b] at hb
            cases hb
        · show getArr (newBox d z (killS d ac.S)) m k = getArr (killS d ac.S) m k
          apply getArr_new_other
          rintro rfl j rfl
          have := killed_a g (d := d) (k := .cell d j) rfl
          rw [this] at ha
          cases ha
      | call f xs => exact plainKill rfl (fun z h => by cases h)
      | append s b x y => exact plainKill rfl (fun z h => by cases h)
      | nilv s => exact plainKill rfl (fun z h => by cases h)
      | v o => exact done ac g hr (Tr.refl g w) rfl (fun _ h => h) (fun d z _ hz => by cases hz) rfl
      | box x => exact done ac g hr (Tr.refl g w) rfl (fun _ h => h) (fun d z _ hz => by cases hz) rfl
      | bslice s n z p => exact done ac g hr (Tr.refl g w) rfl (fun _ h => h) (fun d z _ hz => by cases hz) rfl
      | store k x v => exact done ac g hr (Tr.refl g w) rfl (fun _ h => h) (fun d z _ hz => by cases hz) rfl
      | panic x => exact done ac g hr (Tr.refl g w) rfl (fun _ h => h) (fun d z _ hz => by cases hz) rfl
end
end Go.Proofs.Ytebflncfgjnkkaa.M
