/- THE ABSTRACT MACHINE, twenty-ninth part: a function's code. -/
import Derived.Test.YtebflncfgjnkkaaMa28
namespace Go.Proofs.Ytebflncfgjnkkaa.M
set_option linter.unusedSimpArgs false
set_option linter.unusedVariables false
open Go Classical
section
variable {P : Program}
/-- A loop that has begun. -/
def Loops (P : Program) (c : Code) (Q : Exit → Act → World → Prop) (a : Act) (w : World) : Prop :=
  ∀ (b : Frame) (k : List Item) (cs : List Frame), ∃ e a' w', Q e a' w' ∧ Arrives P (lone (b.at a (.code c :: .inLoop c :: k)) cs w) b k cs e a' w'
theorem loops_of {c : Code} {Q : Exit → Act → World → Prop} {a : Act} {w : World} (h : c.wp P (Exit.then (Loops P c Q) Q) a w) : Loops P c Q a w := by
  intro b k cs
  obtain ⟨e, a₁, w₁, hq, harr⟩ := h b (.inLoop c :: k) cs
  cases e with
  | normal =>
    obtain ⟨e₂, a₂, w₂, hq₂, harr₂⟩ := hq b k cs
    exact ⟨e₂, a₂, w₂, hq₂, .of_steps (Steps.trans harr (.one step_inLoop)) harr₂⟩
  | exit id => exact ⟨_, a₁, w₁, hq, .pass (x := .inLoop c) rfl (fun _ _ => .inl (by simp)) harr⟩
  | goto l => exact ⟨_, a₁, w₁, hq, .pass (x := .inLoop c) rfl (fun _ _ => .inl (by simp)) harr⟩
  | ret => exact ⟨_, a₁, w₁, hq, .pass (x := .inLoop c) rfl (fun _ _ => .inl (by simp)) harr⟩
  | panic ch => exact ⟨_, a₁, w₁, hq, .pass (x := .inLoop c) rfl (fun _ _ => .inl (by simp)) harr⟩
  | outgrown => exact ⟨_, a₁, w₁, hq, .pass (x := .inLoop c) rfl (fun _ _ => .inl (by simp)) harr⟩
theorem wp_of_loops {c : Code} {Q : Exit → Act → World → Prop} {a : Act} {w : World} (h : Loops P c Q a w) : (Code.loop c).wp P Q a w := by
  intro b k cs
  obtain ⟨e, a', w', hq, harr⟩ := h b k cs
  exact ⟨e, a', w', hq, .of_steps (.one step_loop) harr⟩
/-- What one part of the code says, of what comes behind it. -/
theorem EPost.behind {n l : Nat} {g : Gh} {w : World} {Q : Exit → Act → World → Prop} {T : Act → World → Prop} {r : EO} (hr : r ≠ .bad) (h : (∀ ac', r ≠ .nor ac') → EPost n g l w Q r) (hn : ∀ ac', r = .nor ac' → ∀ a' w' g', RelA n g' ac' a' w' → Tr g w g' w' → ac'.S.length = l → T a' w') : EPost n g l w (Exit.then T Q) r := by
  cases r with
  | nor ac => exact hn ac rfl
  | ext id ac => exact h (fun _ h => by cases h)
  | ret ac => exact h (fun _ h => by cases h)
  | pan v S => exact h (fun _ h => by cases h)
  | bad => exact absurd rfl hr
theorem EPost.ne_bad {n l : Nat} {g : Gh} {w : World} {Q : Exit → Act → World → Prop} {r : EO} (h : EPost n g l w Q r) : r ≠ .bad := fun e => by rw [e] at h; exact h
theorem evC_ok {cl : Oracle} (hcl : OracleOk P cl) (hm : P.follows .mixedOrders = true) {n : Nat} : ∀ (c : Code) (sc : SC), cCode P n c = some sc → ∀ (N : Nat) {g : Gh} {ac : Ac} {a : Act} {w : World} {Q : Exit → Act → World → Prop}, RelA n g ac a w → EPost n g ac.S.length w Q (evC cl N sc ac) → c.wp P Q a w := by
  intro c
  induction c with
  | skip =>
    intro sc hc N g ac a w Q hr hp
    simp only [cCode, Option.some.injEq] at hc
    subst hc
    simp only [evC] at hp
    exact wp_skip (hp a w g hr (Tr.refl g w) rfl)
  | region id ops draw =>
    intro sc hc N g ac a w Q hr hp
    cases draw with
    | false =>
      simp only [cCode, Option.map_eq_some_iff] at hc
      obtain ⟨l, hl, rfl⟩ := hc
      simp only [evC] at hp
      exact wp_region_list (evOps_ok hcl ops.toList l hl hr hp)
    | true =>
      simp only [cCode] at hc
      split at hc
      · rename_i l hl
        split at hc
        · rename_i hdr
          cases hc
          simp only [evC] at hp
          exact dreg_ok hcl hm hl hdr hr hp
        · cases hc
      · cases hc
  | seq x y ihx ihy =>
    intro sc hc N g ac a w Q hr hp
    simp only [cCode] at hc
    split at hc
    · rename_i sx sy hx hy
      cases hc
      have hbad : evC cl N sx ac ≠ .bad := fun e => by
        simp only [evC, e] at hp
        exact hp
      refine wp_seq (ihx sx hx N hr (EPost.behind hbad (fun hnn => ?_) (fun ac' he a' w' g' h1 h2 h3 => ?_)))
      · simp only [evC] at hp
        cases he : evC cl N sx ac with
        | nor ac' => exact absurd he (hnn ac')
        | _ => rw [he] at hp; exact hp
      · simp only [evC, he] at hp
        exact ihy sy hy N h1 (by rw [h3]; exact hp.from h2)
    · cases hc
  | cond x y z ihy ihz =>
    intro sc hc N g ac a w Q hr hp
    simp only [cCode] at hc
    split at hc
    · rename_i sx sy sz hx hy hz
      cases hc
      simp only [evC] at hp
      split at hp
      · rename_i t ht
        have hev := hr.rel.ev hx
        rw [ht] at hev
        refine wp_cond hev.bool_inv ?_
        cases t with
        | true => exact ihy sy hy N hr hp
        | false => exact ihz sz hz N hr hp
      · exact hp.elim
    · cases hc
  | block id x ih =>
    intro sc hc N g ac a w Q hr hp
    simp only [cCode, Option.map_eq_some_iff] at hc
    obtain ⟨sx, hx, rfl⟩ := hc
    simp only [evC] at hp
    refine wp_block (ih sx hx N hr ?_)
    cases he : evC cl N sx ac with
    | nor ac' => rw [he] at hp; exact hp
    | ext i ac' =>
      rw [he] at hp
      simp only [inBlk] at hp
      intro a' w' g' h1 h2 h3
      simp only [Exit.inBlock]
      split
      · rename_i e; rw [if_pos e] at hp; exact hp a' w' g' h1 h2 h3
      · rename_i e; rw [if_neg e] at hp; exact hp a' w' g' h1 h2 h3
    | ret ac' => rw [he] at hp; exact hp
    | pan v S => rw [he] at hp; exact hp
    | bad => rw [he] at hp; exact hp
  | loop x ih =>
    intro sc hc N g ac a w Q hr hp
    simp only [cCode, Option.map_eq_some_iff] at hc
    obtain ⟨sx, hx, rfl⟩ := hc
    have key : ∀ (N : Nat) {g : Gh} {ac : Ac} {a : Act} {w : World}, RelA n g ac a w → EPost n g ac.S.length w Q (evC cl N (.loop sx) ac) → Loops P x Q a w := by
      intro N
      induction N with
      | zero =>
        intro g ac a w hr hp
        simp only [evC] at hp
        exact hp.elim
      | succ N ihN =>
        intro g ac a w hr hp
        have hbad : evC cl (N + 1) sx ac ≠ .bad := fun e => by
          simp only [evC, e] at hp
          exact hp
        refine loops_of (ih sx hx (N + 1) hr (EPost.behind hbad (fun hnn => ?_) (fun ac' he a' w' g' h1 h2 h3 => ?_)))
        · simp only [evC] at hp
          cases he : evC cl (N + 1) sx ac with
          | nor ac' => exact absurd he (hnn ac')
          | _ => rw [he] at hp; exact hp
        · simp only [evC, he] at hp
          exact ihN h1 (by rw [h3]; exact hp.from h2)
    exact wp_of_loops (key N hr hp)
  | exit id =>
    intro sc hc N g ac a w Q hr hp
    simp only [cCode, Option.some.injEq] at hc
    subst hc
    simp only [evC] at hp
    exact wp_exit (hp a w g hr (Tr.refl g w) rfl)
  | ret =>
    intro sc hc N g ac a w Q hr hp
    simp only [cCode, Option.some.injEq] at hc
    subst hc
    simp only [evC] at hp
    exact wp_ret (hp a w g hr (Tr.refl g w) rfl)
  | _ => intro sc hc; simp [cCode] at hc
end
end Go.Proofs.Ytebflncfgjnkkaa.M
