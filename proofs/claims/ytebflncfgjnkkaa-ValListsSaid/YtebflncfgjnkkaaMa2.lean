/- THE ABSTRACT MACHINE, second part: its code's run, with so much fuel; and without (a limit): what the laws are shown with. -/
import Derived.Test.YtebflncfgjnkkaaMa1
namespace Go.Proofs.Ytebflncfgjnkkaa.M
set_option linter.unusedSimpArgs false
set_option linter.unusedVariables false
open Go Classical
noncomputable section
/-- A region of open order: what its operations will make is laid ready. -/
def prep : List SOper → Ac → Ac
  | [], ac => ac
  | o :: l, ac =>
    match o.dst, o.op with
    | some d, .alloc zero => prep l (let ac := ac.kill d; { ac with S := newBox d zero ac.S })
    | some d, .call _ _ => prep l (ac.kill d)
    | some d, .append _ _ _ _ => prep l (ac.kill d)
    | some d, .nilv _ => prep l (ac.kill d)
    | _, _ => prep l ac
def evD (cl : Oracle) : List SOper → List Bool → Ac → EO
  | [], _, ac => .nor ac
  | o :: l, tot, ac =>
    match stp cl false o ac with
    | .ok ac' => if tot.headD false = true ∨ ac'.S = ac.S then evD cl l tot.tail ac' else .bad
    | _ => .bad
/-- The same, op by op. -/
def thD (cl : Oracle) (S : Sto) (r : OO) (l : List SOper) (tot : List Bool) : EO :=
  match r with
  | .ok ac' => if tot.headD false = true ∨ ac'.S = S then evD cl l tot.tail ac' else .bad
  | _ => .bad
theorem evD_cons (cl : Oracle) (o : SOper) (l : List SOper) (tot : List Bool) (ac : Ac) : evD cl (o :: l) tot ac = thD cl ac.S (stp cl false o ac) l tot := rfl
def inBlk (id : Nat) : EO → EO
  | .ext i ac => if i = id then .nor ac else .ext i ac
  | r => r
def evC (cl : Oracle) : Nat → SC → Ac → EO
  | _, .skip, ac => .nor ac
  | _, .reg ops, ac => evOps cl ops ac
  | _, .dreg ops tot, ac => evD cl ops tot (prep ops ac)
  | n, .seq a b, ac =>
    match evC cl n a ac with
    | .nor ac => evC cl n b ac
    | r => r
  | n, .cond x a b, ac =>
    match ac.ev x with
    | .bool t => if t = true then evC cl n a ac else evC cl n b ac
    | _ => .bad
  | n, .block id c, ac => inBlk id (evC cl n c ac)
  | 0, .loop _, _ => .bad
  | n + 1, .loop c, ac =>
    match evC cl (n + 1) c ac with
    | .nor ac => evC cl n (.loop c) ac
    | r => r
  | _, .exit id, ac => .ext id ac
  | _, .ret, ac => .ret ac
termination_by n c => (n, SizeOf.sizeOf c)
def rdRes (ac : Ac) : List RX → Option (List PV)
  | [] => some []
  | .t n :: r => (rdRes ac r).map (ac.e n :: ·)
  | .cell t k :: r =>
    match ld ac.S k (ac.e t), rdRes ac r with
    | some v, some vs => some (v :: vs)
    | _, _ => none
def retV (v : PV) (S : Sto) : CO :=
  match hand S v with
  | some (v, S) => match v.dn with | some v => .ok (.v v) S.tail | none => .bad
  | none => .bad
def ret1 (v : PV) (S : Sto) : CO :=
  match v with
  | .nils z => .ok (.arr z [] false) S.tail
  | .sl n a off len ver gen full =>
    match n with
    | 0 =>
      match getArr S 0 a with
      | some A => if A.gen = gen ∧ A.rows.length = ver ∧ off = 0 ∧ len = ver ∧ full = false then .ok (.arr A.sz A.rows A.frz) S.tail else retV v S
      | none => .bad
    | _ + 1 => retV v S
  | v => retV v S
def retL (vs : List PV) (S : Sto) : CO :=
  match vs with
  | [v] => ret1 v S
  | vs =>
    match handA S vs with
    | some (vs, S) => match PV.dnL vs with | some vs => .ok (.v (.tup vs)) S.tail | none => .bad
    | none => .bad
def retOf (res : List RX) (ac : Ac) : CO :=
  match rdRes ac res with
  | some vs => retL vs ac.S
  | none => .bad
def fin (res : List RX) : EO → CO
  | .nor ac => retOf res ac
  | .ret ac => retOf res ac
  | .pan v S => match v.dn with | some v => .pan v S.tail | none => .bad
  | _ => .bad
def argE (args : List PV) : Nat → PV := fun t => (args[t]?).getD .undef
def ac0 (args : List PV) (S : Sto) : Ac := ⟨argE (args.map PV.up), Fr.e :: S⟩
inductive SFn where
  | code (f : SFunc)
  | ext (g : List PV → Option PV)
abbrev Prg := Nat → Option SFn
def body (cl : Oracle) (n : Nat) (sf : SFn) (args : List PV) (S : Sto) : CO :=
  match sf with
  | .code f => if args.length = f.nargs then fin f.res (evC cl n f.code (ac0 args S)) else .bad
  | .ext g => match g args with | some v => .ok (.v v) S | none => .bad
def run (SP : Prg) : Nat → Oracle
  | 0 => fun _ _ _ => .bad
  | k + 1 => fun f args S =>
    match SP f with
    | none => .bad
    | some sf => body (run SP k) k sf args S

/-! More fuel, or an oracle that knows more, changes nothing that is known. -/
def leO (c c' : CO) : Prop := c = .bad ∨ c = c'
def leOO (c c' : OO) : Prop := c = .bad ∨ c = c'
def leE (c c' : EO) : Prop := c = .bad ∨ c = c'
def leCl (cl cl' : Oracle) : Prop := ∀ f as S, leO (cl f as S) (cl' f as S)
theorem leE.refl (r : EO) : leE r r := .inr rfl
theorem leOO.refl (r : OO) : leOO r r := .inr rfl
theorem leE.trans {a b c : EO} (h : leE a b) (h' : leE b c) : leE a c := by
  rcases h with rfl | rfl
  · exact .inl rfl
  · exact h'
theorem callP_mono {cl cl' : Oracle} (h : leCl cl cl') (kd : Bool) (d : Option Nat) (f : PV) (args : List PV) (ac : Ac) : leOO (callP cl kd d f args ac) (callP cl' kd d f args ac) := by
  unfold callP
  cases f <;> try exact .inr rfl
  rename_i f caps
  dsimp only
  cases handA ac.S (args ++ caps) with
  | none => exact .inr rfl
  | some p =>
    obtain ⟨as, S1⟩ := p
    dsimp only
    rcases h f as S1 with h | h
    · rw [h]; exact .inl rfl
    · rw [h]; exact .inr rfl
theorem ex_mono {cl cl' : Oracle} (h : leCl cl cl') (kd : Bool) (d : Option Nat) (op : SOp) (ac : Ac) : leOO (ex cl kd d op ac) (ex cl' kd d op ac) := by
  cases op <;> try exact .inr rfl
  exact callP_mono h _ _ _ _ _
theorem stp_mono {cl cl' : Oracle} (h : leCl cl cl') (kd : Bool) (o : SOper) (ac : Ac) : leOO (stp cl kd o ac) (stp cl' kd o ac) := by
  unfold stp
  cases o.guard with
  | none => exact ex_mono h _ _ _ _
  | some g =>
    obtain ⟨g, want⟩ := g
    dsimp only
    cases ac.e g <;> try exact .inr rfl
    dsimp only
    split
    · exact ex_mono h _ _ _ _
    · exact .inr rfl
theorem evOps_mono {cl cl' : Oracle} (h : leCl cl cl') : ∀ (l : List SOper) (ac : Ac), leE (evOps cl l ac) (evOps cl' l ac)
  | [], _ => .inr rfl
  | o :: l, ac => by
    simp only [evOps]
    rcases stp_mono h true o ac with hs | hs
    · rw [hs]; exact .inl rfl
    · rw [hs]
      cases stp cl' true o ac with
      | ok ac' => exact evOps_mono h l ac'
      | pan v S => exact .inr rfl
      | bad => exact .inr rfl
theorem evD_mono {cl cl' : Oracle} (h : leCl cl cl') : ∀ (l : List SOper) (tot : List Bool) (ac : Ac), leE (evD cl l tot ac) (evD cl' l tot ac)
  | [], _, _ => .inr rfl
  | o :: l, tot, ac => by
    simp only [evD]
    rcases stp_mono h false o ac with hs | hs
    · rw [hs]; exact .inl rfl
    · rw [hs]
      cases stp cl' false o ac with
      | ok ac' =>
        dsimp only
        split
        · exact evD_mono h l _ ac'
        · exact .inr rfl
      | pan v S => exact .inr rfl
      | bad => exact .inr rfl
theorem evC_mono {cl cl' : Oracle} (h : leCl cl cl') : ∀ (n n' : Nat) (c : SC) (ac : Ac), n ≤ n' → leE (evC cl n c ac) (evC cl' n' c ac)
  | n, n', .skip, ac, _ => by simp only [evC]; exact .inr rfl
  | n, n', .reg ops, ac, _ => by simp only [evC]; exact evOps_mono h _ _
  | n, n', .dreg ops tot, ac, _ => by simp only [evC]; exact evD_mono h _ _ _
  | n, n', .seq a b, ac, hn => by
    simp only [evC]
    rcases evC_mono h n n' a ac hn with ha | ha
    · rw [ha]; exact .inl rfl
    · rw [ha]
      cases evC cl' n' a ac <;> try exact .inr rfl
      exact evC_mono h n n' b _ hn
  | n, n', .cond x a b, ac, hn => by
    simp only [evC]
    cases ac.ev x <;> try exact .inr rfl
    rename_i t
    cases t
    · exact evC_mono h n n' b _ hn
    · exact evC_mono h n n' a _ hn
  | n, n', .block id c, ac, hn => by
    simp only [evC]
    rcases evC_mono h n n' c ac hn with ha | ha
    · rw [ha]; exact .inl rfl
    · rw [ha]; exact .inr rfl
  | 0, n', .loop c, ac, hn => by simp only [evC]; exact .inl rfl
  | n + 1, 0, .loop c, ac, hn => absurd hn (by omega)
  | n + 1, n' + 1, .loop c, ac, hn => by
    simp only [evC]
    rcases evC_mono h (n + 1) (n' + 1) c ac hn with ha | ha
    · rw [ha]; exact .inl rfl
    · rw [ha]
      cases evC cl' (n' + 1) c ac <;> try exact .inr rfl
      exact evC_mono h n n' (.loop c) _ (by omega)
  | n, n', .exit id, ac, _ => by simp only [evC]; exact .inr rfl
  | n, n', .ret, ac, _ => by simp only [evC]; exact .inr rfl
termination_by n _ c => (n, SizeOf.sizeOf c)
theorem body_mono {cl cl' : Oracle} (h : leCl cl cl') {n n' : Nat} (hn : n ≤ n') (sf : SFn) (args : List PV) (S : Sto) : leO (body cl n sf args S) (body cl' n' sf args S) := by
  cases sf with
  | ext g => exact .inr rfl
  | code f =>
    simp only [body]
    split
    · rcases evC_mono h n n' f.code (ac0 args S) hn with ha | ha
      · rw [ha]; exact .inl rfl
      · rw [ha]; exact .inr rfl
    · exact .inr rfl
theorem run_mono (SP : Prg) : ∀ k, leCl (run SP k) (run SP (k + 1))
  | 0 => fun _ _ _ => .inl rfl
  | k + 1 => fun f args S => by
    simp only [run]
    cases SP f with
    | none => exact .inr rfl
    | some sf => exact body_mono (run_mono SP k) (Nat.le_succ k) sf args S
theorem run_le (SP : Prg) {k k' : Nat} (h : k ≤ k') : leCl (run SP k) (run SP k') := by
  induction h with
  | refl => exact fun _ _ _ => .inr rfl
  | step h ih =>
    intro f args S
    rcases ih f args S with h1 | h1
    · exact .inl h1
    · rw [h1]; exact run_mono SP _ f args S

/-! The limit. -/
def call (SP : Prg) : Oracle := fun f args S =>
  if h : ∃ k, run SP k f args S ≠ .bad then run SP h.choose f args S else .bad
theorem run_call (SP : Prg) (k : Nat) : leCl (run SP k) (call SP) := by
  intro f args S
  by_cases hk : run SP k f args S = .bad
  · exact .inl hk
  · right
    have h : ∃ k, run SP k f args S ≠ .bad := ⟨k, hk⟩
    unfold call
    rw [dif_pos h]
    rcases Nat.le_total k h.choose with hl | hl
    · rcases run_le SP hl f args S with h1 | h1
      · exact absurd h1 hk
      · exact h1
    · rcases run_le SP hl f args S with h1 | h1
      · exact absurd h1 h.choose_spec
      · exact h1.symm
theorem call_run (SP : Prg) (f : Nat) (args : List PV) (S : Sto) : ∃ k, run SP k f args S = call SP f args S := by
  by_cases h : ∃ k, run SP k f args S ≠ .bad
  · exact ⟨h.choose, by unfold call; rw [dif_pos h]⟩
  · exact ⟨0, by unfold call; rw [dif_neg h]; rfl⟩
def E (SP : Prg) (c : SC) (ac : Ac) : EO :=
  if h : ∃ n, evC (call SP) n c ac ≠ .bad then evC (call SP) h.choose c ac else .bad
theorem leCl.refl (cl : Oracle) : leCl cl cl := fun _ _ _ => .inr rfl
theorem evC_E (SP : Prg) (n : Nat) (c : SC) (ac : Ac) : leE (evC (call SP) n c ac) (E SP c ac) := by
  by_cases hk : evC (call SP) n c ac = .bad
  · exact .inl hk
  · right
    have h : ∃ n, evC (call SP) n c ac ≠ .bad := ⟨n, hk⟩
    unfold E
    rw [dif_pos h]
    rcases Nat.le_total n h.choose with hl | hl
    · rcases evC_mono (leCl.refl _) _ _ c ac hl with h1 | h1
      · exact absurd h1 hk
      · exact h1
    · rcases evC_mono (leCl.refl _) _ _ c ac hl with h1 | h1
      · exact absurd h1 h.choose_spec
      · exact h1.symm
theorem E_evC (SP : Prg) (c : SC) (ac : Ac) : ∃ n, evC (call SP) n c ac = E SP c ac := by
  by_cases h : ∃ n, evC (call SP) n c ac ≠ .bad
  · exact ⟨h.choose, by unfold E; rw [dif_pos h]⟩
  · refine ⟨0, ?_⟩
    unfold E
    rw [dif_neg h]
    by_cases h0 : evC (call SP) 0 c ac = .bad
    · exact h0
    · exact absurd ⟨0, h0⟩ h
/-- The limit of what is the same for all fuels but few. -/
theorem E_of {SP : Prg} {c : SC} {ac : Ac} {r : EO} (h1 : ∀ n, leE (evC (call SP) n c ac) r) (h2 : r = .bad ∨ ∃ n, evC (call SP) n c ac = r) : E SP c ac = r := by
  rcases h2 with rfl | ⟨n, h2⟩
  · obtain ⟨n, hn⟩ := E_evC SP c ac
    rcases h1 n with h | h
    · exact hn.symm.trans h
    · exact hn.symm.trans h
  · rcases evC_E SP n c ac with h | h
    · rw [h] at h2
      subst h2
      obtain ⟨m, hm⟩ := E_evC SP c ac
      rcases h1 m with h' | h'
      · exact hm.symm.trans h'
      · exact hm.symm.trans h'
    · exact h.symm.trans h2
theorem E_skip (SP : Prg) (ac : Ac) : E SP .skip ac = .nor ac := E_of (fun n => by simp only [evC]; exact .inr rfl) (.inr ⟨0, by simp only [evC]⟩)
theorem E_reg (SP : Prg) (ops : List SOper) (ac : Ac) : E SP (.reg ops) ac = evOps (call SP) ops ac := E_of (fun n => by simp only [evC]; exact .inr rfl) (.inr ⟨0, by simp only [evC]⟩)
theorem E_dreg (SP : Prg) (ops : List SOper) (tot : List Bool) (ac : Ac) : E SP (.dreg ops tot) ac = evD (call SP) ops tot (prep ops ac) := E_of (fun n => by simp only [evC]; exact .inr rfl) (.inr ⟨0, by simp only [evC]⟩)
theorem E_exit (SP : Prg) (id : Nat) (ac : Ac) : E SP (.exit id) ac = .ext id ac := E_of (fun n => by simp only [evC]; exact .inr rfl) (.inr ⟨0, by simp only [evC]⟩)
theorem E_ret (SP : Prg) (ac : Ac) : E SP .ret ac = .ret ac := E_of (fun n => by simp only [evC]; exact .inr rfl) (.inr ⟨0, by simp only [evC]⟩)
/-- What comes behind. -/
def thC (SP : Prg) (r : EO) (c : SC) : EO :=
  match r with
  | .nor ac => E SP c ac
  | r => r
theorem E_seq (SP : Prg) (a b : SC) (ac : Ac) : E SP (.seq a b) ac = thC SP (E SP a ac) b := by
  obtain ⟨n, hn⟩ := E_evC SP a ac
  refine E_of (fun m => ?_) ?_
  · simp only [evC]
    rcases evC_E SP m a ac with h | h
    · rw [h]; exact .inl rfl
    · rw [h]
      cases hE : E SP a ac <;> try exact .inr rfl
      exact evC_E SP m b _
  · cases hE : E SP a ac with
    | nor ac' =>
      obtain ⟨m, hm⟩ := E_evC SP b ac'
      show E SP b ac' = .bad ∨ _
      by_cases hb : E SP b ac' = .bad
      · exact .inl hb
      · right
        refine ⟨max n m, ?_⟩
        simp only [evC]
        have h1 : evC (call SP) (max n m) a ac = .nor ac' := by
          rcases evC_mono (leCl.refl (call SP)) n (max n m) a ac (by omega) with h | h
          · rw [hn, hE] at h; cases h
          · rw [← h, hn, hE]
        rw [h1]
        rcases evC_mono (leCl.refl (call SP)) m (max n m) b ac' (by omega) with h | h
        · rw [hm] at h; exact absurd h hb
        · show evC (call SP) (max n m) b ac' = _
          rw [← h, hm]
          rfl
    | bad => exact .inl rfl
    | ext i ac' => exact .inr ⟨n, by simp only [evC]; rw [hn, hE]; rfl⟩
    | ret ac' => exact .inr ⟨n, by simp only [evC]; rw [hn, hE]; rfl⟩
    | pan v S => exact .inr ⟨n, by simp only [evC]; rw [hn, hE]; rfl⟩
theorem E_cond (SP : Prg) (x : X) (a b : SC) (ac : Ac) {t : Bool} (h : ac.ev x = .bool t) : E SP (.cond x a b) ac = if t = true then E SP a ac else E SP b ac := by
  cases t
  · obtain ⟨n, hn⟩ := E_evC SP b ac
    refine E_of (fun m => ?_) (.inr ⟨n, ?_⟩)
    · simp only [evC, h]; exact evC_E SP m b ac
    · simp only [evC, h]; exact hn
  · obtain ⟨n, hn⟩ := E_evC SP a ac
    refine E_of (fun m => ?_) (.inr ⟨n, ?_⟩)
    · simp only [evC, h]; exact evC_E SP m a ac
    · simp only [evC, h]; exact hn
theorem E_block (SP : Prg) (id : Nat) (c : SC) (ac : Ac) : E SP (.block id c) ac = inBlk id (E SP c ac) := by
  obtain ⟨n, hn⟩ := E_evC SP c ac
  refine E_of (fun m => ?_) (.inr ⟨n, ?_⟩)
  · simp only [evC]
    rcases evC_E SP m c ac with h | h
    · rw [h]; exact .inl rfl
    · rw [h]; exact .inr rfl
  · simp only [evC]; rw [hn]
theorem E_loop (SP : Prg) (c : SC) (ac : Ac) : E SP (.loop c) ac = thC SP (E SP c ac) (.loop c) := by
  obtain ⟨n, hn⟩ := E_evC SP c ac
  refine E_of (fun m => ?_) ?_
  · cases m with
    | zero => simp only [evC]; exact .inl rfl
    | succ m =>
      simp only [evC]
      rcases evC_E SP (m + 1) c ac with h | h
      · rw [h]; exact .inl rfl
      · rw [h]
        cases hE : E SP c ac <;> try exact .inr rfl
        exact evC_E SP m (.loop c) _
  · cases hE : E SP c ac with
    | nor ac' =>
      obtain ⟨m, hm⟩ := E_evC SP (.loop c) ac'
      show E SP (.loop c) ac' = .bad ∨ _
      by_cases hb : E SP (.loop c) ac' = .bad
      · exact .inl hb
      · right
        refine ⟨max n m + 1, ?_⟩
        simp only [evC]
        have h1 : evC (call SP) (max n m + 1) c ac = .nor ac' := by
          rcases evC_mono (leCl.refl (call SP)) n (max n m + 1) c ac (by omega) with h | h
          · rw [hn, hE] at h; cases h
          · rw [← h, hn, hE]
        rw [h1]
        rcases evC_mono (leCl.refl (call SP)) m (max n m) (.loop c) ac' (by omega) with h | h
        · rw [hm] at h; exact absurd h hb
        · show evC (call SP) (max n m) (.loop c) ac' = _
          rw [← h, hm]
          rfl
    | bad => exact .inl rfl
    | ext i ac' => exact .inr ⟨n + 1, by
        simp only [evC]
        rcases evC_mono (leCl.refl (call SP)) n (n + 1) c ac (by omega) with h | h
        · rw [hn, hE] at h; cases h
        · rw [← h, hn, hE]; rfl⟩
    | ret ac' => exact .inr ⟨n + 1, by
        simp only [evC]
        rcases evC_mono (leCl.refl (call SP)) n (n + 1) c ac (by omega) with h | h
        · rw [hn, hE] at h; cases h
        · rw [← h, hn, hE]; rfl⟩
    | pan v S => exact .inr ⟨n + 1, by
        simp only [evC]
        rcases evC_mono (leCl.refl (call SP)) n (n + 1) c ac (by omega) with h | h
        · rw [hn, hE] at h; cases h
        · rw [← h, hn, hE]; rfl⟩
/-! What the limit's oracle tells is told by some fuel's. -/
theorem callP_cont (SP : Prg) (kd : Bool) (d : Option Nat) (f : PV) (args : List PV) (ac : Ac) : ∃ k, callP (run SP k) kd d f args ac = callP (call SP) kd d f args ac := by
  unfold callP
  cases f <;> try exact ⟨0, rfl⟩
  rename_i f caps
  dsimp only
  cases handA ac.S (args ++ caps) with
  | none => exact ⟨0, rfl⟩
  | some p =>
    obtain ⟨as, S1⟩ := p
    dsimp only
    obtain ⟨k, hk⟩ := call_run SP f as S1
    exact ⟨k, by rw [hk]⟩
theorem stp_cont (SP : Prg) (kd : Bool) (o : SOper) (ac : Ac) : ∃ k, stp (run SP k) kd o ac = stp (call SP) kd o ac := by
  have hex : ∃ k, ex (run SP k) kd o.dst o.op ac = ex (call SP) kd o.dst o.op ac := by
    cases o.op <;> try exact ⟨0, rfl⟩
    exact callP_cont SP kd _ _ _ _
  unfold stp
  cases o.guard with
  | none => exact hex
  | some g =>
    obtain ⟨g, want⟩ := g
    dsimp only
    cases ac.e g <;> try exact ⟨0, rfl⟩
    dsimp only
    split
    · exact hex
    · exact ⟨0, rfl⟩
theorem stp_at {SP : Prg} {kd : Bool} {o : SOper} {ac : Ac} {k k' : Nat} (h : stp (run SP k) kd o ac = stp (call SP) kd o ac) (hk : k ≤ k') : stp (run SP k') kd o ac = stp (call SP) kd o ac := by
  rcases stp_mono (run_le SP hk) kd o ac with h1 | h1
  · rcases stp_mono (run_call SP k') kd o ac with h2 | h2
    · rw [h2, ← h, h1]
    · exact h2
  · rw [← h1, h]
theorem evOps_cont (SP : Prg) : ∀ (l : List SOper) (ac : Ac), ∃ k, evOps (run SP k) l ac = evOps (call SP) l ac
  | [], _ => ⟨0, rfl⟩
  | o :: l, ac => by
    obtain ⟨k, hk⟩ := stp_cont SP true o ac
    simp only [evOps]
    cases hs : stp (call SP) true o ac with
    | ok ac' =>
      obtain ⟨m, hm⟩ := evOps_cont SP l ac'
      refine ⟨max k m, ?_⟩
      rw [stp_at hk (by omega), hs]
      dsimp only
      rcases evOps_mono (run_le SP (show m ≤ max k m by omega)) l ac' with h | h
      · rcases evOps_mono (run_call SP (max k m)) l ac' with h2 | h2
        · rw [h2, ← hm, h]
        · exact h2
      · rw [← h, hm]
    | pan v S => exact ⟨k, by rw [hk, hs]⟩
    | bad => exact ⟨k, by rw [hk, hs]⟩
theorem evD_cont (SP : Prg) : ∀ (l : List SOper) (tot : List Bool) (ac : Ac), ∃ k, evD (run SP k) l tot ac = evD (call SP) l tot ac
  | [], _, _ => ⟨0, rfl⟩
  | o :: l, tot, ac => by
    obtain ⟨k, hk⟩ := stp_cont SP false o ac
    simp only [evD]
    cases hs : stp (call SP) false o ac with
    | ok ac' =>
      obtain ⟨m, hm⟩ := evD_cont SP l tot.tail ac'
      refine ⟨max k m, ?_⟩
      rw [stp_at hk (by omega), hs]
      dsimp only
      split
      · rcases evD_mono (run_le SP (show m ≤ max k m by omega)) l tot.tail ac' with h | h
        · rcases evD_mono (run_call SP (max k m)) l tot.tail ac' with h2 | h2
          · rw [h2, ← hm, h]
          · exact h2
        · rw [← h, hm]
      · rfl
    | pan v S => exact ⟨k, by rw [hk, hs]⟩
    | bad => exact ⟨k, by rw [hk, hs]⟩
theorem evC_at {SP : Prg} {n : Nat} {c : SC} {ac : Ac} {k k' : Nat} (h : evC (run SP k) n c ac = evC (call SP) n c ac) (hk : k ≤ k') : evC (run SP k') n c ac = evC (call SP) n c ac := by
  rcases evC_mono (run_le SP hk) n n c ac (Nat.le_refl n) with h1 | h1
  · rcases evC_mono (run_call SP k') n n c ac (Nat.le_refl n) with h2 | h2
    · rw [h2, ← h, h1]
    · exact h2
  · rw [← h1, h]
theorem evC_cont (SP : Prg) : ∀ (n : Nat) (c : SC) (ac : Ac), ∃ k, evC (run SP k) n c ac = evC (call SP) n c ac
  | n, .skip, ac => ⟨0, by simp only [evC]⟩
  | n, .reg ops, ac => by simp only [evC]; exact evOps_cont SP ops ac
  | n, .dreg ops tot, ac => by simp only [evC]; exact evD_cont SP ops tot _
  | n, .seq a b, ac => by
    obtain ⟨k, hk⟩ := evC_cont SP n a ac
    simp only [evC]
    cases hs : evC (call SP) n a ac with
    | nor ac' =>
      obtain ⟨m, hm⟩ := evC_cont SP n b ac'
      refine ⟨max k m, ?_⟩
      rw [evC_at hk (by omega), hs]
      exact evC_at hm (by omega)
    | ext i ac' => exact ⟨k, by rw [hk, hs]⟩
    | ret ac' => exact ⟨k, by rw [hk, hs]⟩
    | pan v S => exact ⟨k, by rw [hk, hs]⟩
    | bad => exact ⟨k, by rw [hk, hs]⟩
  | n, .cond x a b, ac => by
    simp only [evC]
    cases ac.ev x <;> try exact ⟨0, rfl⟩
    rename_i t
    cases t
    · simpa using evC_cont SP n b ac
    · simpa using evC_cont SP n a ac
  | n, .block id c, ac => by
    obtain ⟨k, hk⟩ := evC_cont SP n c ac
    exact ⟨k, by simp only [evC]; rw [hk]⟩
  | 0, .loop c, ac => ⟨0, by simp only [evC]⟩
  | n + 1, .loop c, ac => by
    obtain ⟨k, hk⟩ := evC_cont SP (n + 1) c ac
    simp only [evC]
    cases hs : evC (call SP) (n + 1) c ac with
    | nor ac' =>
      obtain ⟨m, hm⟩ := evC_cont SP n (.loop c) ac'
      refine ⟨max k m, ?_⟩
      rw [evC_at hk (by omega), hs]
      exact evC_at hm (by omega)
    | ext i ac' => exact ⟨k, by rw [hk, hs]⟩
    | ret ac' => exact ⟨k, by rw [hk, hs]⟩
    | pan v S => exact ⟨k, by rw [hk, hs]⟩
    | bad => exact ⟨k, by rw [hk, hs]⟩
  | n, .exit id, ac => ⟨0, by simp only [evC]⟩
  | n, .ret, ac => ⟨0, by simp only [evC]⟩
termination_by n c => (n, SizeOf.sizeOf c)
/-- A call is its body's run. -/
theorem call_code {SP : Prg} {f : Nat} {sf : SFunc} (hf : SP f = some (.code sf)) (args : List PV) (S : Sto) (hl : args.length = sf.nargs) : call SP f args S = fin sf.res (E SP sf.code (ac0 args S)) := by
  obtain ⟨n, hn⟩ := E_evC SP sf.code (ac0 args S)
  obtain ⟨k, hk⟩ := evC_cont SP n sf.code (ac0 args S)
  have h1 : run SP (max n k + 1) f args S = fin sf.res (evC (run SP (max n k)) (max n k) sf.code (ac0 args S)) := by
    simp only [run, hf, body, if_pos hl]
  by_cases hb : E SP sf.code (ac0 args S) = .bad
  · rw [hb]
    obtain ⟨m, hm⟩ := call_run SP f args S
    cases m with
    | zero => exact hm.symm
    | succ m =>
      rw [← hm]
      simp only [run, hf, body, if_pos hl]
      rcases evC_mono (run_call SP m) m m sf.code (ac0 args S) (Nat.le_refl m) with h | h
      · rw [h]
      · rw [h]
        rcases evC_E SP m sf.code (ac0 args S) with h' | h'
        · rw [h']
        · rw [h', hb]
  · have h2 : evC (run SP (max n k)) (max n k) sf.code (ac0 args S) = E SP sf.code (ac0 args S) := by
      have h3 : evC (run SP (max n k)) n sf.code (ac0 args S) = E SP sf.code (ac0 args S) := (evC_at hk (by omega)).trans hn
      rcases evC_mono (leCl.refl (run SP (max n k))) n (max n k) sf.code (ac0 args S) (by omega) with h | h
      · rw [h3] at h; exact absurd h hb
      · rw [← h, h3]
    rw [h2] at h1
    rcases run_call SP (max n k + 1) f args S with h | h
    · rw [h1] at h
      obtain ⟨m, hm⟩ := call_run SP f args S
      rw [h]
      cases m with
      | zero => exact hm.symm
      | succ m =>
        rw [← hm]
        simp only [run, hf, body, if_pos hl]
        rcases evC_mono (run_call SP m) m m sf.code (ac0 args S) (Nat.le_refl m) with h4 | h4
        · rw [h4]; rfl
        · rw [h4]
          rcases evC_E SP m sf.code (ac0 args S) with h' | h'
          · rw [h']; rfl
          · rw [h']; exact h
    · rw [← h, h1]
theorem call_ext {SP : Prg} {f : Nat} {g : List PV → Option PV} (hf : SP f = some (.ext g)) {args : List PV} {v : PV} (S : Sto) (hg : g args = some v) : call SP f args S = .ok (.v v) S := by
  rcases run_call SP 1 f args S with h | h
  · simp [run, hf, body, hg] at h
  · rw [← h]; simp [run, hf, body, hg]
end
end Go.Proofs.Ytebflncfgjnkkaa.M
