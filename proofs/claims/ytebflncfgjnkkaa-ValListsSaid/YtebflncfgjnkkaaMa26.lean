/- THE ABSTRACT MACHINE, twenty-sixth part: an operation looks at its slots alone. -/
import Derived.Test.YtebflncfgjnkkaaMa25
namespace Go.Proofs.Ytebflncfgjnkkaa.M
set_option linter.unusedSimpArgs false
set_option linter.unusedVariables false
open Go
section
variable {ev ev' : X → PV} {S S' : Sto} {e e' : Nat → PV} {cl : Oracle}
def Agree (e e' : Nat → PV) (l : List Nat) : Prop := ∀ t ∈ l, e t = e' t
theorem agree_app {a b : List Nat} (h : Agree e e' (a ++ b)) : Agree e e' a ∧ Agree e e' b := ⟨fun t ht => h t (List.mem_append.2 (.inl ht)), fun t ht => h t (List.mem_append.2 (.inr ht))⟩
theorem ev_agree {x : X} (h : Agree e e' x.tm) : Ac.ev ⟨e, S⟩ x = Ac.ev ⟨e', S'⟩ x := by
  cases x with
  | t n => exact h n (by simp [X.tm])
  | c v => rfl
theorem evO_agree {x : Option X} (h : Agree e e' (tmO x)) : x.map (Ac.ev ⟨e, S⟩) = x.map (Ac.ev ⟨e', S'⟩) := by
  cases x with
  | none => rfl
  | some x => simp only [Option.map_some, Option.some.injEq]; exact ev_agree h
theorem evL_agree : ∀ {xs : List X}, Agree e e' (xs.flatMap X.tm) → xs.map (Ac.ev ⟨e, S⟩) = xs.map (Ac.ev ⟨e', S'⟩)
  | [], _ => rfl
  | x :: xs, h => by
    rw [List.flatMap_cons] at h
    obtain ⟨h1, h2⟩ := agree_app h
    simp only [List.map_cons]
    rw [ev_agree h1, evL_agree h2]
theorem fillP_agree : ∀ (parts : List (Nat × Nat × X)) (cs : List PV), Agree e e' (parts.flatMap fun p => p.2.2.tm) → fillP cs (Ac.ev ⟨e, S⟩) parts = fillP cs (Ac.ev ⟨e', S'⟩) parts
  | [], cs, _ => rfl
  | (off, sz, x) :: r, cs, h => by
    rw [List.flatMap_cons] at h
    obtain ⟨h1, h2⟩ := agree_app h
    simp only [fillP]
    rw [ev_agree (S' := S') h1, fillP_agree r _ h2]
theorem rowsP_agree {sz : Nat} {S0 : Sto} : ∀ (parts : List (Nat × X)) (rows : List (List PV)) (S0 : Sto), Agree e e' (parts.flatMap fun p => p.2.tm) → rowsP S0 (Ac.ev ⟨e, S⟩) sz rows parts = rowsP S0 (Ac.ev ⟨e', S'⟩) sz rows parts
  | [], rows, S0, _ => rfl
  | (i, x) :: r, rows, S0, h => by
    rw [List.flatMap_cons] at h
    obtain ⟨h1, h2⟩ := agree_app h
    simp only [rowsP]
    have e1 : Ac.ev ⟨e, S⟩ x = Ac.ev ⟨e', S'⟩ x := ev_agree h1
    rw [e1]
    split
    · rw [rowsP_agree (sz := sz) (S0 := S0) r _ _ h2]
    · rfl
theorem all_one_agree {caps : List X} (h : Agree e e' (caps.flatMap X.tm)) : (caps.all fun x => (Ac.ev ⟨e, S⟩ x).one) = caps.all fun x => (Ac.ev ⟨e', S'⟩ x).one := by
  induction caps with
  | nil => rfl
  | cons x xs ih =>
    rw [List.flatMap_cons] at h
    obtain ⟨h1, h2⟩ := agree_app h
    simp only [List.all_cons]
    rw [ev_agree (S' := S') h1, ih h2]
theorem vop_agree (o : VO) (h : Agree e e' o.tm) (S0 : Sto) : vop (Ac.ev ⟨e, S⟩) S0 o = vop (Ac.ev ⟨e', S'⟩) S0 o := by
  cases o with
  | mov x => simp only [vop, ev_agree (S := S) (S' := S') (x := x) h]
  | un _ x => simp only [vop, ev_agree (S := S) (S' := S') (x := x) h]
  | conv _ x => simp only [vop, ev_agree (S := S) (S' := S') (x := x) h]
  | mkif _ x => simp only [vop, ev_agree (S := S) (S' := S') (x := x) h]
  | load _ x => simp only [vop, ev_agree (S := S) (S' := S') (x := x) h]
  | nchk x => simp only [vop, ev_agree (S := S) (S' := S') (x := x) h]
  | faddr _ x => simp only [vop, ev_agree (S := S) (S' := S') (x := x) h]
  | field _ _ x => simp only [vop, ev_agree (S := S) (S' := S') (x := x) h]
  | extract _ x => simp only [vop, ev_agree (S := S) (S' := S') (x := x) h]
  | len _ x => simp only [vop, ev_agree (S := S) (S' := S') (x := x) h]
  | isnil _ x => simp only [vop, ev_agree (S := S) (S' := S') (x := x) h]
  | pick c a b =>
    obtain ⟨h1, h2⟩ := agree_app h
    obtain ⟨h2, h3⟩ := agree_app h2
    simp only [vop, ev_agree (S := S) (S' := S') h1, ev_agree (S := S) (S' := S') h2, ev_agree (S := S) (S' := S') h3]
  | bin _ x y => obtain ⟨h1, h2⟩ := agree_app h; simp only [vop, ev_agree (S := S) (S' := S') h1, ev_agree (S := S) (S' := S') h2]
  | binb _ x y => obtain ⟨h1, h2⟩ := agree_app h; simp only [vop, ev_agree (S := S) (S' := S') h1, ev_agree (S := S) (S' := S') h2]
  | eqs _ _ x y => obtain ⟨h1, h2⟩ := agree_app h; simp only [vop, ev_agree (S := S) (S' := S') h1, ev_agree (S := S) (S' := S') h2]
  | iaddr _ x y => obtain ⟨h1, h2⟩ := agree_app h; simp only [vop, ev_agree (S := S) (S' := S') h1, ev_agree (S := S) (S' := S') h2]
  | istr x y => obtain ⟨h1, h2⟩ := agree_app h; simp only [vop, ev_agree (S := S) (S' := S') h1, ev_agree (S := S) (S' := S') h2]
  | mm _ x y => obtain ⟨h1, h2⟩ := agree_app h; simp only [vop, ev_agree (S := S) (S' := S') h1, ev_agree (S := S) (S' := S') h2]
  | func f caps => simp only [vop, all_one_agree (S := S) (S' := S') h, evL_agree (S := S) (S' := S') h]
  | build z parts => simp only [vop, fillP_agree (S := S) (S' := S') parts z h]
  | slc _ x lo hi mx =>
    obtain ⟨h1, h2⟩ := agree_app h
    obtain ⟨h2, h3⟩ := agree_app h2
    obtain ⟨h3, h4⟩ := agree_app h3
    simp only [vop, ev_agree (S := S) (S' := S') h1, evO_agree (S := S) (S' := S') h2, evO_agree (S := S) (S' := S') h3, evO_agree (S := S) (S' := S') h4]
  | sls x lo hi =>
    obtain ⟨h1, h2⟩ := agree_app h
    obtain ⟨h2, h3⟩ := agree_app h2
    simp only [vop, ev_agree (S := S) (S' := S') h1, evO_agree (S := S) (S' := S') h2, evO_agree (S := S) (S' := S') h3]
/-- What comes out is put over whatever else the frame holds. -/
def Uni (d : Option Nat) (F : (Nat → PV) → OO) : Prop := ∀ e ac, F e = .ok ac → ∃ v, ∀ e2, F e2 = .ok (({ e := e2, S := ac.S } : Ac).put d v)
theorem uni_ok (d : Option Nat) (v : PV) (S : Sto) : Uni d fun e => .ok (({ e := e, S := S } : Ac).put d v) := fun e ac h => by
  cases h
  refine ⟨v, fun e2 => ?_⟩
  cases d <;> rfl
theorem uni_bad (d : Option Nat) : Uni d fun _ => .bad := fun e ac h => by cases h
theorem uni_newArr (d : Nat) (A : Arr) (S : Sto) : Uni (some d) fun e => newArr false d A ⟨e, S⟩ := by
  unfold newArr
  simp only [Bool.false_eq_true, if_false]
  cases getArr S 0 (.slot d) with
  | none => exact uni_ok (some d) _ _
  | some _ => exact uni_bad _
open Classical in
theorem uni_append (d sz bytes : Nat) (x y : PV) (S : Sto) : Uni (some d) fun e => appendP false d sz bytes x y ⟨e, S⟩ := by
  unfold appendP
  dsimp only
  cases srcRows S sz y with
  | none => exact uni_bad _
  | some src =>
    dsimp only
    cases x <;> try exact uni_bad _
    case nils z =>
      dsimp only
      split
      · exact uni_newArr _ _ _
      · exact uni_bad _
    case list z rows full =>
      cases full
      · exact uni_bad _
      · show Uni (some d) fun e => if z = sz ∧ bigRow (rows.length + src.length) bytes then newArr false d ⟨sz, rows ++ src, true, 0⟩ ⟨e, S⟩ else .bad
        split
        · exact uni_newArr _ _ _
        · exact uni_bad _
    case sl n a off len ver gen full =>
      dsimp only
      cases getArr S n a with
      | none => exact uni_bad _
      | some A =>
        dsimp only
        split
        · split
          · exact uni_newArr _ _ _
          · split
            · exact uni_ok (some d) _ _
            · exact uni_bad _
        · exact uni_bad _
theorem uni_call (d : Option Nat) (f : PV) (args : List PV) (S : Sto) : Uni d fun e => callP cl false d f args ⟨e, S⟩ := by
  unfold callP
  cases f <;> try exact uni_bad _
  rename_i f caps
  dsimp only
  cases handA S (args ++ caps) with
  | none => exact uni_bad _
  | some p =>
    obtain ⟨as_, S1⟩ := p
    dsimp only
    cases cl f as_ S1 with
    | bad => exact uni_bad _
    | pan v S => exact fun e ac h => by cases h
    | ok r S2 =>
      dsimp only
      cases r with
      | v x => exact uni_ok d _ _
      | arr sz rows frz =>
        cases d with
        | none => exact uni_ok none .junk _
        | some d => exact uni_newArr _ _ _
open Classical in
theorem ex_agree {d : Option Nat} {op : SOp} {ac : Ac} (hx : Agree e e' op.tm) (h : ex cl false d op ⟨e, S⟩ = .ok ac) : ∃ v, ac = (({ e := e, S := ac.S } : Ac).put d v) ∧ ex cl false d op ⟨e', S⟩ = .ok (({ e := e', S := ac.S } : Ac).put d v) := by
  have use : ∀ F : (Nat → PV) → OO, Uni d F → F e = .ok ac → ex cl false d op ⟨e', S⟩ = F e' → ∃ v, ac = (({ e := e, S := ac.S } : Ac).put d v) ∧ ex cl false d op ⟨e', S⟩ = .ok (({ e := e', S := ac.S } : Ac).put d v) := by
    intro F hF h1 h2
    obtain ⟨v, hv⟩ := hF e ac h1
    have := hv e
    rw [h1] at this
    exact ⟨v, OO.ok.inj this, h2.trans (hv e')⟩
  cases op with
  | v o =>
    refine use (fun e2 => match vop (Ac.ev ⟨e, S⟩) S o with | some v => .ok (({ e := e2, S := S } : Ac).put d v) | none => .bad) ?_ h ?_
    · cases vop (Ac.ev ⟨e, S⟩) S o with
      | none => exact uni_bad _
      | some v => exact uni_ok d v S
    · show (match vop (Ac.ev ⟨e', S⟩) S o with | some v => OO.ok (({ e := e', S := S } : Ac).put d v) | none => .bad) = _
      rw [vop_agree (S := S) (S' := S) o hx S]
  | nilv sz =>
    cases d with
    | none => cases h
    | some d => exact use _ (uni_newArr d ⟨sz, [], false, 0⟩ S) h rfl
  | alloc zero =>
    cases d with
    | none => cases h
    | some d =>
      refine use (fun e2 => if getBox S 0 d = some (initC d 0 zero) ∧ okA d 0 zero (getArr S 0) then .ok (({ e := e2, S := S } : Ac).put (some d) (.ptr 0 d 0)) else .bad) ?_ ?_ ?_
      · split
        · exact uni_ok _ _ _
        · exact uni_bad _
      · simpa [ex] using h
      · simp [ex]
  | box x =>
    cases d with
    | none => cases h
    | some d => simp [ex] at h
  | bslice sz n zero parts =>
    refine use (fun e2 => if n = 0 then .ok (({ e := e2, S := S } : Ac).put d (.nils sz)) else match rowsP S (Ac.ev ⟨e, S⟩) sz (List.replicate n zero) parts with | some (rows, S) => .ok (({ e := e2, S := S } : Ac).put d (.list sz rows true)) | none => .bad) ?_ h ?_
    · split
      · exact uni_ok _ _ _
      · split
        · exact uni_ok _ _ _
        · exact uni_bad _
    · show (if n = 0 then _ else match rowsP S (Ac.ev ⟨e', S⟩) sz (List.replicate n zero) parts with | some (rows, S) => OO.ok (({ e := e', S := S } : Ac).put d (.list sz rows true)) | none => .bad) = _
      rw [rowsP_agree (S := S) (S' := S) (S0 := S) parts _ S hx]
  | store k x v =>
    obtain ⟨h1, h2⟩ := agree_app hx
    cases d with
    | some d => simp [ex] at h
    | none =>
      refine use (fun e2 => match storeP S k (Ac.ev ⟨e, S⟩ x) (Ac.ev ⟨e, S⟩ v) with | some S => .ok (({ e := e2, S := S } : Ac).put none .junk) | none => .bad) ?_ ?_ ?_
      · split
        · exact uni_ok none _ _
        · exact uni_bad _
      · simp only [ex] at h
        cases hs : storeP S k (Ac.ev ⟨e, S⟩ x) (Ac.ev ⟨e, S⟩ v) with
        | none => rw [hs] at h; cases h
        | some S2 => rw [hs] at h; exact h
      · simp only [ex]
        rw [ev_agree (S := S) (S' := S) h1, ev_agree (S := S) (S' := S) h2]
        cases storeP S k (Ac.ev ⟨e', S⟩ x) (Ac.ev ⟨e', S⟩ v) <;> rfl
  | append sz bytes x y =>
    obtain ⟨h1, h2⟩ := agree_app hx
    cases d with
    | none => cases h
    | some d =>
      refine use _ (uni_append d sz bytes (Ac.ev ⟨e, S⟩ x) (Ac.ev ⟨e, S⟩ y) S) h ?_
      simp only [ex]
      rw [ev_agree (S := S) (S' := S) h1, ev_agree (S := S) (S' := S) h2]
  | call f args =>
    obtain ⟨h1, h2⟩ := agree_app hx
    refine use _ (uni_call (cl := cl) d (Ac.ev ⟨e, S⟩ f) (args.map (Ac.ev ⟨e, S⟩)) S) h ?_
    simp only [ex]
    rw [ev_agree (S := S) (S' := S) h1, evL_agree (S := S) (S' := S) h2]
  | panic x =>
    simp only [ex] at h
    split at h <;> cases h
/-- An inert operation neither reads nor writes the store. -/
theorem ex_inert {kd : Bool} {d : Option Nat} {op : SOp} (hi : op.inert = true) {ac : Ac} (h : ex cl kd d op ⟨e, S⟩ = .ok ac) : ac.S = S ∧ ∀ S2, ex cl kd d op ⟨e, S2⟩ = .ok ⟨ac.e, S2⟩ := by
  cases op with
  | v o =>
    have hv : ∀ S2, vop (Ac.ev ⟨e, S2⟩) S2 o = vop (Ac.ev ⟨e, S⟩) S o := by
      intro S2
      cases o <;> first | rfl | (simp [SOp.inert] at hi; done) | skip
      case conv c x =>
        cases c <;> first | (simp [SOp.inert] at hi; done) | skip
        all_goals
          show convP S2 _ (Ac.ev ⟨e, S⟩ x) = convP S _ (Ac.ev ⟨e, S⟩ x)
          cases Ac.ev ⟨e, S⟩ x <;> rfl
    simp only [ex] at h ⊢
    cases hvv : vop (Ac.ev ⟨e, S⟩) S o with
    | none => rw [hvv] at h; cases h
    | some v =>
      rw [hvv] at h
      cases h
      refine ⟨by cases d <;> rfl, fun S2 => ?_⟩
      rw [hv S2, hvv]
      cases d <;> rfl
  | _ => simp [SOp.inert] at hi
theorem stp_agree {o : SOper} {ac : Ac} (hx : Agree e e' o.looks) (h : stp cl false o ⟨e, S⟩ = .ok ac) : ∃ v, ac = (({ e := e, S := ac.S } : Ac).put o.dst v) ∧ stp cl false o ⟨e', S⟩ = .ok (({ e := e', S := ac.S } : Ac).put o.dst v) := by
  have skip : ∀ ac : Ac, OO.ok (({ e := e, S := S } : Ac).put o.dst .undef) = .ok ac → ∃ v, ac = (({ e := e, S := ac.S } : Ac).put o.dst v) ∧ OO.ok (({ e := e', S := S } : Ac).put o.dst .undef) = .ok (({ e := e', S := ac.S } : Ac).put o.dst v) := by
    intro ac h
    cases h
    refine ⟨.undef, ?_, ?_⟩ <;> cases o.dst <;> rfl
  unfold stp at h ⊢
  unfold SOper.looks at hx
  cases hg : o.guard with
  | none =>
    rw [hg] at h hx
    exact ex_agree hx h
  | some p =>
    obtain ⟨g, want⟩ := p
    rw [hg] at h hx
    dsimp only at h hx ⊢
    have h1 : e g = e' g := hx g (by simp)
    have h2 : Agree e e' o.op.tm := fun t ht => hx t (by simp [ht])
    rw [← h1]
    cases hv : e g with
    | bool b =>
      rw [hv] at h
      dsimp only at h ⊢
      split at h
      · rename_i hb; rw [if_pos hb]; exact ex_agree h2 h
      · rename_i hb; rw [if_neg hb]; exact skip ac h
    | undef => rw [hv] at h; exact skip ac h
    | _ => rw [hv] at h; cases h
theorem stp_inert {kd : Bool} {o : SOper} (hi : o.op.inert = true) {ac : Ac} (h : stp cl kd o ⟨e, S⟩ = .ok ac) : ac.S = S ∧ ∀ S2, stp cl kd o ⟨e, S2⟩ = .ok ⟨ac.e, S2⟩ := by
  have skip : ∀ ac : Ac, OO.ok (({ e := e, S := S } : Ac).put o.dst .undef) = .ok ac → ac.S = S ∧ ∀ S2, OO.ok (({ e := e, S := S2 } : Ac).put o.dst .undef) = .ok ⟨ac.e, S2⟩ := by
    intro ac h
    cases h
    refine ⟨by cases o.dst <;> rfl, fun S2 => by cases o.dst <;> rfl⟩
  unfold stp at h ⊢
  cases hg : o.guard with
  | none => rw [hg] at h; exact ex_inert hi h
  | some p =>
    obtain ⟨g, want⟩ := p
    rw [hg] at h
    dsimp only at h ⊢
    cases hv : e g with
    | bool b =>
      rw [hv] at h
      dsimp only at h ⊢
      split at h
      · rename_i hb; simp only [if_pos hb]; exact ex_inert hi h
      · rename_i hb; simp only [if_neg hb]; exact skip ac h
    | undef => rw [hv] at h; exact skip ac h
    | _ => rw [hv] at h; cases h
end
end Go.Proofs.Ytebflncfgjnkkaa.M
