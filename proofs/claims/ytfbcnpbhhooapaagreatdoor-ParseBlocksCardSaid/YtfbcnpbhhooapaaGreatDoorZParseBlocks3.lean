/- Parts of a proof, one behind another: Ma34, Ma35, Ma39, B0, Lf0, Lp, Lw, Ty, Rc, X0, R, R2, Sc4, Lt4, Wp2, G4. -/
import Derived.Test.YtfbcnpbhhooapaaGreatDoorZParseBlocks2
import Derived.Test.YtfbcnpbhhooapaaGreatDoorProg
import Derived.Recover
import Derived.KernelRfl
import Derived.Tactics
import Derived.Tactics2
import Derived.Laws.Pointers
/- THE ABSTRACT MACHINE, thirty-fourth part: slices.Clone, which asks whether a row is nil: either answer comes to the same. -/
namespace Go.Proofs.YtfbcnpbhhooapaaGreatDoor.M
set_option linter.unusedSimpArgs false
set_option linter.unusedVariables false
set_option linter.unusedSectionVars false
open Go Classical
section
variable [Base] {g g' : Gh} {S S' : Sto} {w w' : World} {P : Program}
theorem seq_post {cl : Oracle} (hcl : OracleOk P cl) (hm : P.follows .mixedOrders = true) {n : Nat} {b : Code} {sb : SC} (hb : cCode P n b = some sb) {N l : Nat} {Q : Exit → Act → World → Prop} {sa : SC} {ac : Ac} (hl : ac.S.length = l) (hp : EPost [] n g l w Q (evC cl N (.seq sa sb) ac)) :
    EPost [] n g l w (Exit.then (b.wp P Q) Q) (evC cl N sa ac) := by
  have hbad : evC cl N sa ac ≠ .bad := fun e => by
    simp only [evC, e] at hp
    exact hp
  refine EPost.behind hbad (fun hnn => ?_) (fun ac' he a' w' g' h1 h2 h3 => ?_)
  · simp only [evC] at hp
    cases he : evC cl N sa ac with
    | nor ac' => exact absurd he (hnn ac')
    | _ => rw [he] at hp; exact hp
  · simp only [evC, he] at hp
    exact evC_ok hcl hm b sb hb N h1 (by rw [h3]; exact hp.from h2)
/-- A row of its own that comes back may be taken for data. -/
theorem arr_to_list {sz : Nat} {rows : List (List PV)} {c : Value} (h : CallPost g S w (.ok (.arr sz rows false) S') (.returned c) w') : CallPost g S w (.ok (.v (.list sz rows false)) S') (.returned c) w' := by
  obtain ⟨g1, w1, x1, t1, ⟨ai, hA, rfl, hb⟩, l1⟩ := h
  obtain ⟨cs, c1, c2⟩ := hA.cells
  by_cases hr : rows = []
  · subst hr
    refine ⟨g1, w1, x1, t1, ?_, l1⟩
    have e0 : ai.len = ([] : List (List PV)).length := hA.len
    rw [e0]
    exact .data _ _ (.list sz [] false ai.A ai.cap (fun _ _ => undef) (Nat.zero_le _) (fun h => by cases h) (fun r hr => by cases hr) (fun h => absurd rfl h) (fun ad i j row v _ hi => by simp at hi) (fun i j row v hi => by simp at hi))
  · have hbk : ∃ b, ai.blk = some b := by
      cases hbk : ai.blk with
      | some b => exact ⟨b, rfl⟩
      | none =>
        rcases (hA.free hbk).2 with h | h
        · cases h
        · exact absurd h hr
    obtain ⟨b, hbk⟩ := hbk
    obtain ⟨hb1, hb2⟩ := hb b hbk
    obtain ⟨hA1, ⟨cells, elem, hc1, hc2⟩, _, hfz⟩ := hA.own b hbk
    have hfz' := hfz rfl
    obtain ⟨p1, p2⟩ := w1.fzMore (φ := fun b' o => if b' = b then w'.cell? ⟨b', o, none⟩ else g1.fz b' o) (fun b' o v hh => by
      split at hh
      · exact hh
      · exact w1.fz b' o v hh) (fun b' o v hh => by
      rw [if_neg]
      · exact hh
      · rintro rfl
        rw [hfz'] at hh
        cases hh) (fun x b' hx o => by
      rw [if_neg]
      rintro rfl
      exact hb2 x hx)
    refine ⟨_, p1, x1.trans p2, t1.trans ⟨rfl, rfl, rfl, Nat.le_refl _, p2.fz, fun _ _ _ => rfl, fun x k h => .inl h, p2.pop_⟩, ?_, l1⟩
    have e0 : ai.len = rows.length := hA.len
    rw [e0]
    refine .data _ _ (.list sz rows false ai.A ai.cap cs (by rw [← e0]; exact hA.cap) (fun h => by cases h) hA.each hA.addr (fun ad i j row v had hi hj => ?_) (fun i j row v hi hj => (c1 i j row v hi hj).mono p2.fz))
    have := (c2 ad i j row v had hi hj).1
    rw [hA1] at had
    obtain rfl := Option.some.inj had
    show (if b = b then _ else _) = _
    rw [if_pos rfl]
    exact this
theorem inv_isnil {o : Oper} {x' : X} (h : cOp P o = some (.v (.isnil false x'))) : ∃ t e x y u, o.op = .binOp .eql t x y u ∧ P.underlying t = some (.slice e) ∧ isNilSlice y = true ∧ cX P t x = some x' := by
  obtain ⟨dst, op, ty, pos, after, guard⟩ := o
  cases op <;> simp only [cOp, reduceCtorEq, Option.map_eq_some_iff] at h
  case binOp op t x y u =>
    split at h
    · rename_i x1 y1 hx hy
      split at h
      · rw [Option.map_eq_some_iff] at h; obtain ⟨_, _, h⟩ := h; cases h
      · rw [Option.map_eq_some_iff] at h; obtain ⟨_, _, h⟩ := h; cases h
      · cases h
      · cases h
      · rename_i e ht
        split at h
        · rename_i hn
          cases h
          exact ⟨t, e, x, y, u, rfl, ht, hn, hx⟩
        · cases h
      · split at h <;> cases h
      · split at h <;> cases h
      · split at h <;> cases h
      · cases h
      · cases h
    · cases h
  case call c =>
    unfold cCall at h
    repeat' split at h
    all_goals cases h
  all_goals first
    | (obtain ⟨_, _, h⟩ := h; cases h; done)
    | (repeat' split at h
       all_goals first | (cases h; done) | (rw [Option.map_eq_some_iff] at h; obtain ⟨_, _, h⟩ := h; cases h))
theorem inv_seq {n : Nat} {c : Code} {a b : SC} (h : cCode P n c = some (.seq a b)) : ∃ x y, c = .seq x y ∧ cCode P n x = some a ∧ cCode P n y = some b := by
  cases c <;> (try simp only [cCode, reduceCtorEq, Option.some.injEq, Option.map_eq_some_iff, false_and, and_false, exists_false] at h)
  case region id ops d =>
    cases d <;> simp only [cCode] at h
    · rw [Option.map_eq_some_iff] at h; obtain ⟨_, _, h⟩ := h; cases h
    · split at h
      · (repeat' split at h) <;> cases h
      · cases h
  case seq x y =>
    split at h
    · rename_i a' b' h1 h2
      cases h
      exact ⟨x, y, rfl, h1, h2⟩
    · cases h
  case cond => split at h <;> cases h
theorem inv_reg {n : Nat} {c : Code} {l : List SOper} (h : cCode P n c = some (.reg l)) : ∃ id ops, c = .region id ops false ∧ cOpers P n ops ops.toList = some l := by
  cases c <;> (try simp only [cCode, reduceCtorEq, Option.some.injEq, Option.map_eq_some_iff, false_and, and_false, exists_false] at h)
  case region id ops d =>
    cases d <;> simp only [cCode] at h
    · rw [Option.map_eq_some_iff] at h; obtain ⟨l', h1, h⟩ := h; cases h; exact ⟨id, ops, rfl, h1⟩
    · split at h
      · (repeat' split at h) <;> cases h
      · cases h
  case seq x y => split at h <;> cases h
  case cond => split at h <;> cases h
theorem comp_inv {fn : Func} {sf : SFunc} (h : comp P fn = some sf) : ∃ c, fn.body = some c ∧ cCode P fn.ntmps c = some sf.code ∧ cRes P fn.ntmps fn.results.toList = some sf.res ∧ sf.nargs = fn.params.size + fn.nfree ∧ fn.params.size + fn.nfree ≤ fn.ntmps := by
  unfold comp at h
  split at h
  · rename_i c hb
    split at h
    · rename_i c' r' h1 h2
      split at h
      · rename_i hc
        cases h
        exact ⟨c, hb, h1, h2, rfl, hc.1⟩
      · cases h
    · cases h
  · cases h
theorem start_relA (hw : WR g S w) {args : List PV} {cs : Array Value} (ha : ArgsR g args cs) {n : Nat} (hsz : cs.size ≤ n) : RelA [] n g.push (ac0 args S) { tmps := cs ++ Array.replicate (n - cs.size) undef, defers := [] } w := by
  refine ⟨⟨push_wr hw, fun t => ?_⟩, by simp; omega, rfl, Nat.succ_pos _⟩
  show VR g.push (argE (args.map PV.up) t) ((cs ++ Array.replicate (n - cs.size) undef).getD t undef)
  unfold argE
  rw [List.getElem?_map, Array.getD_eq_getD_getElem?]
  cases hat : args[t]? with
  | some v =>
    have hlt := (List.getElem?_eq_some_iff.1 hat).1
    rw [Array.getElem?_append_left (by rw [← ha.1]; exact hlt)]
    simp only [Option.map_some, Option.getD_some]
    rw [← Array.getD_eq_getD_getElem?]
    exact (ha.2 t v hat).up (Gh.pop_push g)
  | none =>
    have hge := List.getElem?_eq_none_iff.1 hat
    rw [Array.getElem?_append_right (by rw [← ha.1]; exact hge)]
    simp only [Option.map_none, Option.getD_none]
    rw [Array.getElem?_replicate]
    split <;> exact .undef
end
end Go.Proofs.YtfbcnpbhhooapaaGreatDoor.M

/- THE ABSTRACT MACHINE, thirty-fifth part: slices.Clone: what it yields is its row. -/
namespace Go.Proofs.YtfbcnpbhhooapaaGreatDoor.M
set_option linter.unusedSimpArgs false
set_option linter.unusedVariables false
set_option linter.unusedSectionVars false
open Go Classical
section
variable [Base] {g g' : Gh} {S S' : Sto} {w w' : World} {P : Program}
def cloneC (z bytes : Nat) (zero : List PV) : SC :=
  .seq (.reg [⟨some 2, none, .nilv z⟩]) (.seq (.seq (.reg [⟨some 3, none, .v (.mov (.t 0))⟩, ⟨some 4, none, .v (.isnil false (.t 3))⟩]) (.cond (.t 4) (.seq (.reg [⟨some 2, none, .nilv z⟩]) .ret) .skip))
    (.seq (.reg [⟨some 5, none, .bslice z 0 zero []⟩, ⟨some 6, none, .v (.mov (.t 0))⟩, ⟨some 7, none, .append z bytes (.t 5) (.t 6)⟩, ⟨some 2, none, .v (.mov (.t 7))⟩]) .ret))
noncomputable def cloneX (z bytes : Nat) : List PV → Option PV
  | [.list z' rows _] => if z' = z ∧ rows.length * bytes ≤ 1099511627776 ∧ rows.length ≤ 1099511627776 then some (.list z rows false) else none
  | _ => none
def cloneA1 (z : Nat) (rows : List (List PV)) (full : Bool) (S : Sto) : Ac := ⟨upd (killE 2 (argE [.list z rows full])) 2 (.sl 0 (.slot 2) 0 0 0 0 false), setArr (killS 2 (Fr.e :: S)) 0 (.slot 2) ⟨z, [], false, 0⟩⟩
def cloneA2 (z : Nat) (rows : List (List PV)) (full : Bool) (S : Sto) : Ac := (cloneA1 z rows full S).put (some 3) (.list z rows full)
def cloneEnd (z bytes : Nat) (zero : List PV) : SC := .seq (.cond (.t 4) (.seq (.reg [⟨some 2, none, .nilv z⟩]) .ret) .skip) (.seq (.reg [⟨some 5, none, .bslice z 0 zero []⟩, ⟨some 6, none, .v (.mov (.t 0))⟩, ⟨some 7, none, .append z bytes (.t 5) (.t 6)⟩, ⟨some 2, none, .v (.mov (.t 7))⟩]) .ret)
theorem clone_fin {cl : Oracle} {z bytes : Nat} {zero : List PV} {rows : List (List PV)} {full : Bool} (hb1 : rows.length * bytes ≤ 1099511627776) (hb2 : rows.length ≤ 1099511627776) (hby : bytes ≤ 65536) : ∀ b : Bool, (b = true → rows = []) → ∃ acf, evC cl 0 (cloneEnd z bytes zero) ((cloneA2 z rows full S).put (some 4) (.bool b)) = .ret acf ∧ retOf [.t 2] acf = .ok (.arr z rows false) S := by
  intro b hb
  cases b with
  | true =>
    obtain rfl := hb rfl
    refine ⟨_, by simp only [cloneEnd, evC, evOps, stp, ex, newArr]; rfl, ?_⟩
    simp only [retOf, rdRes, retL, ret1]
    rfl
  | false =>
    have hbig : bigRow rows.length bytes := ⟨hb1, hb2, hby⟩
    have happ : appendP true 7 z bytes (.nils z) (.list z rows full) (((((cloneA2 z rows full S).put (some 4) (.bool false)).put (some 5) (.nils z)).put (some 6) (.list z rows full))) = newArr true 7 ⟨z, rows, false, 0⟩ ((((cloneA2 z rows full S).put (some 4) (.bool false)).put (some 5) (.nils z)).put (some 6) (.list z rows full)) := by
      simp [appendP, srcRows, view, hbig]
    have hops : evOps cl [⟨some 5, none, .bslice z 0 zero []⟩, ⟨some 6, none, .v (.mov (.t 0))⟩, ⟨some 7, none, .append z bytes (.t 5) (.t 6)⟩, ⟨some 2, none, .v (.mov (.t 7))⟩] ((cloneA2 z rows full S).put (some 4) (.bool false)) = thOps cl (appendP true 7 z bytes (.nils z) (.list z rows full) (((((cloneA2 z rows full S).put (some 4) (.bool false)).put (some 5) (.nils z)).put (some 6) (.list z rows full)))) [⟨some 2, none, .v (.mov (.t 7))⟩] := rfl
    rw [happ] at hops
    refine ⟨_, by simp only [cloneEnd, evC]; rw [show Ac.ev ((cloneA2 z rows full S).put (some 4) (.bool false)) (.t 4) = .bool false from rfl]; simp only [hops, Bool.false_eq_true, if_false, newArr, if_true]; rfl, ?_⟩
    have harr : ∀ e : Nat → PV, e 2 = .sl 0 (.slot 7) 0 rows.length rows.length 0 false → ∀ St : Sto, getArr St 0 (.slot 7) = some ⟨z, rows, false, 0⟩ → St.tail = S → retOf [.t 2] ⟨e, St⟩ = .ok (.arr z rows false) S := by
      intro e h1 St h2 h3
      simp [retOf, rdRes, retL, ret1, h1, h2, h3]
    exact harr _ rfl _ rfl rfl
theorem two_of {α : Type} {l : List α} (h : l.length = 2) : ∃ a b, l = [a, b] := by
  match l, h with
  | [a, b], _ => exact ⟨a, b, rfl⟩
theorem clone_ext (hm : P.follows .mixedOrders = true) {f : Nat} {fn : Func} {nt z bytes : Nat} {zero : List PV} (hf : P.funcs[f]? = some fn) (hc : comp P fn = some ⟨1, nt, cloneC z bytes zero, [.t 2]⟩) (hby : bytes ≤ 65536) : ExtOk P f (cloneX z bytes) := by
  intro args v hx g S w cs hw ha
  have henter := enter_of hf hc cs w
  obtain ⟨c, hbody, hcode, hres, hna, hnt⟩ := comp_inv hc
  unfold cloneX at hx
  split at hx
  · rename_i z' rows full
    split at hx
    · rename_i hcnd
      obtain ⟨rfl, hb1, hb2⟩ := hcnd
      obtain rfl := Option.some.inj hx
      left
      refine ⟨henter, ?_⟩
      obtain ⟨r1, c2, rfl, hr1, hc2⟩ := inv_seq hcode
      obtain ⟨c3, rest, rfl, hc3, hrest⟩ := inv_seq hc2
      obtain ⟨r2, cnd_, rfl, hr2, hcd⟩ := inv_seq hc3
      obtain ⟨i2, ops, rfl, hops⟩ := inv_reg hr2
      obtain ⟨hol, hog⟩ := cOpers_get ops.toList _ hops
      have hlen : ops.toList.length = 2 := by rw [← hol]; rfl
      obtain ⟨o1, o2, hopl⟩ := two_of hlen
      · skip
        have ho1 : cOper P fn.ntmps ops o1 = some ⟨some 3, none, .v (.mov (.t 0))⟩ := by
          obtain ⟨so, h1, h2⟩ := hog 0 o1 (by rw [hopl]; rfl)
          simp at h1
          rw [h1]; exact h2
        have ho2 : cOper P fn.ntmps ops o2 = some ⟨some 4, none, .v (.isnil false (.t 3))⟩ := by
          obtain ⟨so, h1, h2⟩ := hog 1 o2 (by rw [hopl]; rfl)
          simp at h1
          rw [h1]; exact h2
        let cl : Oracle := fun _ _ _ => .bad
        have hcl : OracleOk P cl := fun f args S h => absurd rfl h
        have e1 : evC cl 0 (.reg [⟨some 2, none, .nilv z'⟩]) (ac0 [.list z' rows full] S) = .nor (cloneA1 z' rows full S) := by
          simp only [evC]
          rfl
        have e2 : stp cl true ⟨some 3, none, .v (.mov (.t 0))⟩ (cloneA1 z' rows full S) = .ok (cloneA2 z' rows full S) := rfl
        have hfin := clone_fin (cl := cl) (z := z') (zero := zero) (full := full) (S := S) hb1 hb2 hby
        have hsz : cs.size ≤ fn.ntmps := by
          rw [← ha.1]
          have : (1 : Nat) = fn.params.size + fn.nfree := hna
          show 1 ≤ fn.ntmps
          omega
        have hr0 := start_relA hw ha hsz
        refine calls_of_wp hf hbody (wp_seq (evC_ok hcl hm r1 _ hr1 0 hr0 ?_))
        rw [e1]
        intro a1 w1 g1 h1 t1 l1
        show (Code.seq (Code.seq (Code.region i2 ops false) cnd_) rest).wp P _ a1 w1
        refine wp_seq (wp_seq (wp_region_list ?_))
        rw [hopl]
        refine wpList_step fun K hK => ?_
        have s1 := stp_ok hcl ho1 (kd := true) h1 (fun h => by cases h)
        rw [e2] at s1
        obtain ⟨_, hd1, hdn1, _⟩ := cOper_inv ho1
        show doOp P ops o1 a1 w1 K _
        refine s1 K _ (fun c0 w2 g2 hst => hK _ _ ?_)
        · skip
          have h2 := hst.relA h1 hdn1
          obtain ⟨hop2, hdst2, hdn2, hgd⟩ := cOper_inv ho2
          have hg0 : o2.guard = none := by
            rcases hgd with ⟨h, _⟩ | ⟨_, _, _, _, _, h⟩
            · exact h
            · cases h
          refine wpList_plain hg0 fun K2 hK2 => ?_
          obtain ⟨t, e, x, y, u, ho, ht, hn, hx⟩ := inv_isnil hop2
          have hy := isNil_const hn
          subst hy
          have hev := h2.rel.ev hx
          have hv3 : (cloneA2 z' rows full S).ev (.t 3) = .list z' rows full := rfl
          rw [hv3] at hev
          cases hev with | data _ _ hfr =>
          generalize hcc : (a1.put o1.dst c0).eval x = cc at hfr
          cases hfr with | list _ _ _ A cap cs' hl hfl hss hA hcs hvs =>
          have hrun : (execOp (a1.put o1.dst c0).eval o2).run P w2 = .ok (.value (.bool A.isNone)) w2 := by
            have := nil_run ht .eql false (.inl ⟨rfl, rfl⟩) x (.const (.slice none 0 0)) A rows.length cap w2
            unfold execOp
            rw [ho]
            show (do pure (Next.value (← (do eqGuard .eql t x (.const (.slice none 0 0)) ((a1.put o1.dst c0).eval x) ((a1.put o1.dst c0).eval (.const (.slice none 0 0))); binOp .eql t ((a1.put o1.dst c0).eval x) ((a1.put o1.dst c0).eval (.const (.slice none 0 0))) : Sem Value))) : Sem Next).run P w2 = _
            rw [hcc]
            exact exec_w this
          unfold Oper.wp
          rw [hrun]
          apply hK2
          obtain ⟨acf, f1, f2⟩ := hfin A.isNone (fun hnn => by
            apply Classical.byContradiction
            intro hne
            obtain ⟨ad, rfl, _⟩ := hA hne
            cases hnn)
          have h3 := (put_step (d := o2.dst) (kd := true) (ac := cloneA2 z' rows full S) (S' := (cloneA2 z' rows full S).S) (w' := w2) (w := w2) (g := g2) (g' := g2) (v := .bool A.isNone) (c := .bool A.isNone) h2.rel.wr (Ext.refl g2) (Tr.refl g2 w2) (.data _ _ (.bool _)) rfl).relA h2 hdn2
          rw [← hdst2] at h3
          show cnd_.wp P _ _ w2
          rw [← hdst2]
          refine evC_ok hcl hm cnd_ _ hcd 0 h3 (seq_post hcl hm hrest rfl ?_)
          have f1' : evC cl 0 (cloneEnd z' bytes zero) (({ cloneA2 z' rows full S with S := (cloneA2 z' rows full S).S } : Ac).put (some 4) (.bool A.isNone)) = .ret acf := f1
          show EPost _ _ _ _ _ _ (evC cl 0 (cloneEnd z' bytes zero) _)
          rw [f1']
          intro a4 w4 g4 h4 t4 l4
          have hb4 : retOf [.t 2] acf ≠ .bad := by rw [f2]; exact fun h => by cases h
          obtain ⟨v, q1, q2⟩ := retOf_ok (g := g) (S := S) (w := w) hres h4 ((t1.trans hst.tr).trans t4) (by rw [l4]; rfl) hb4
          rw [f2] at q2
          exact ⟨h4.defers, v, q1, arr_to_list q2⟩
    · cases hx
  · cases hx
end
end Go.Proofs.YtfbcnpbhhooapaaGreatDoor.M

/- THE ABSTRACT MACHINE, thirty-ninth part: a function that recovers. -/
namespace Go.Proofs.YtfbcnpbhhooapaaGreatDoor.M
set_option linter.unusedSimpArgs false
set_option linter.unusedVariables false
set_option linter.unusedSectionVars false
open Go Classical
section
variable [Base] {g g' : Gh} {S S' : Sto} {w w' : World} {P : Program} {D : List Deferred}
/-- Slot t holds its own box still. -/
def Keeps (t : Nat) (r : OO) : Prop := ∀ ac, r = .ok ac → ac.e t = .ptr 0 t 0
theorem keeps_put {t : Nat} {d : Option Nat} {v : PV} {e : Nat → PV} (hd : d ≠ some t) (h : e t = .ptr 0 t 0) (S : Sto) : Keeps t (.ok (({ e := e, S := S } : Ac).put d v)) := by
  intro ac hac
  cases hac
  cases d with
  | none => exact h
  | some d =>
    have : t ≠ d := fun e => hd (by rw [e])
    simp only [Ac.put, upd, if_neg this]
    exact h
theorem keeps_upd {t d : Nat} {v : PV} {e : Nat → PV} {S : Sto} (hd : (some d : Option Nat) ≠ some t) (h : e t = .ptr 0 t 0) : Keeps t (.ok ⟨upd (killE d e) d v, S⟩) := by
  intro ac hac
  cases hac
  have : t ≠ d := fun e => hd (by rw [e])
  simp [upd, killE, h, PV.kill, this]
theorem keeps_set {t d : Nat} {v : PV} {e : Nat → PV} {S : Sto} (hd : (some d : Option Nat) ≠ some t) (h : e t = .ptr 0 t 0) : Keeps t (.ok ⟨upd e d v, S⟩) := by
  intro ac hac
  cases hac
  have : t ≠ d := fun e => hd (by rw [e])
  simp [upd, h, this]
theorem keeps_same {t : Nat} {e : Nat → PV} {S : Sto} (h : e t = .ptr 0 t 0) : Keeps t (.ok ⟨e, S⟩) := by
  intro ac hac
  cases hac
  exact h
theorem keeps_bad (t : Nat) : Keeps t .bad := fun ac h => by cases h
theorem keeps_pan (t : Nat) (v : PV) (S : Sto) : Keeps t (.pan v S) := fun ac h => by cases h
theorem keeps_newArr {kd : Bool} {t d : Nat} {A : Arr} {ac : Ac} (hd : (some d : Option Nat) ≠ some t) (h : ac.e t = .ptr 0 t 0) : Keeps t (newArr kd d A ac) := by
  unfold newArr
  split
  · exact keeps_upd hd h
  · split
    · exact keeps_set hd h
    · exact keeps_bad t
theorem keeps_append {kd : Bool} {t d sz bytes : Nat} {x y : PV} {ac : Ac} (hd : (some d : Option Nat) ≠ some t) (h : ac.e t = .ptr 0 t 0) : Keeps t (appendP kd d sz bytes x y ac) := by
  unfold appendP
  repeat' split
  all_goals first | exact keeps_bad t | exact keeps_newArr hd h | exact keeps_set hd h
theorem keeps_call {cl : Oracle} {kd : Bool} {t : Nat} {d : Option Nat} {f : PV} {args : List PV} {ac : Ac} (hd : d ≠ some t) (h : ac.e t = .ptr 0 t 0) : Keeps t (callP cl kd d f args ac) := by
  unfold callP
  split
  · split
    · split
      · rename_i r S' _
        dsimp only
        cases r with
        | v x => exact keeps_put hd h _
        | arr sz rows frz =>
          dsimp only
          cases d with
          | none => exact keeps_same h
          | some d =>
            dsimp only
            split
            · exact keeps_newArr hd h
            · exact keeps_put hd h _
      · exact keeps_pan _ _ _
      · exact keeps_bad t
    · exact keeps_bad t
  · exact keeps_bad t
theorem keeps_ex {cl : Oracle} {kd : Bool} {t : Nat} {d : Option Nat} {op : SOp} {ac : Ac} (hd : d ≠ some t) (h : ac.e t = .ptr 0 t 0) : Keeps t (ex cl kd d op ac) := by
  unfold ex
  split
  · split
    · exact keeps_put hd h _
    · exact keeps_bad t
  · split
    · exact keeps_newArr hd h
    · exact keeps_bad t
  · split
    · split
      · exact keeps_upd hd h
      · split
        · exact keeps_put hd h _
        · exact keeps_bad t
    · exact keeps_bad t
  · split
    · split
      · exact keeps_upd hd h
      · exact keeps_bad t
    · exact keeps_bad t
  · split
    · exact keeps_put hd h _
    · split
      · exact keeps_put hd h _
      · exact keeps_bad t
  · split
    · exact keeps_same h
    · exact keeps_bad t
  · split
    · exact keeps_append hd h
    · exact keeps_bad t
  · exact keeps_call hd h
  · split
    · exact keeps_pan _ _ _
    · exact keeps_bad t
  · split
    · exact keeps_put hd h _
    · exact keeps_bad t
theorem keeps_stp {cl : Oracle} {kd : Bool} {t : Nat} {o : SOper} {ac : Ac} (hd : o.dst ≠ some t) (h : ac.e t = .ptr 0 t 0) : Keeps t (stp cl kd o ac) := by
  unfold stp
  split
  · exact keeps_ex hd h
  · split
    · split
      · exact keeps_ex hd h
      · exact keeps_put hd h _
    · exact keeps_put hd h _
    · exact keeps_bad t
/-- What is left to show, if a panic leaves slot t's box as it is. -/
def EPostP (D : List Deferred) (n : Nat) (g : Gh) (l : Nat) (w : World) (Q : Exit → Act → World → Prop) (t : Nat) (c0 : Value) : EO → Prop
  | .nor ac' => ∀ a' w' g', RelA D n g' ac' a' w' → Tr g w g' w' → ac'.S.length = l → Q .normal a' w'
  | .pan v S => ∀ a' w' g' c, WR g' S w' → VR g' v c → VR g' (.ptr 0 t 0) c0 → Tr g w g' w' → S.length = l → a'.defers = D → a'.tmps.size = n → a'.eval (.tmp t) = c0 → Q (.panic [{ v := c, recovered := false }]) a' w'
  | _ => False
theorem EPostP.from {n l t : Nat} {c0 : Value} {g1 : Gh} {w1 : World} {Q : Exit → Act → World → Prop} {r : EO} (h : EPostP D n g l w Q t c0 r) (ht : Tr g w g1 w1) : EPostP D n g1 l w1 Q t c0 r := by
  cases r with
  | nor ac => exact fun a' w' g' h1 h2 h3 => h a' w' g' h1 (ht.trans h2) h3
  | pan v S => exact fun a' w' g' c h1 h2 h3 h4 h5 h6 h7 h8 => h a' w' g' c h1 h2 h3 (ht.trans h4) h5 h6 h7 h8
  | _ => exact h
theorem evOps_pan {cl : Oracle} (hcl : OracleOk P cl) {n t : Nat} {ops : Array Oper} {Q : Exit → Act → World → Prop} {c0 : Value} : ∀ (ol : List Oper) (l : List SOper), cOpers P n ops ol = some l → (∀ o ∈ l, o.dst ≠ some t) → ∀ {g : Gh} {ac : Ac} {a : Act} {w : World}, RelA D n g ac a w → ac.e t = .ptr 0 t 0 → a.eval (.tmp t) = c0 → EPostP D n g ac.S.length w Q t c0 (evOps cl l ac) → wpList P ops Q ol a w
  | [], l, hc, hd, g, ac, a, w, hr, he, h0, hp => by
    simp only [cOpers, Option.some.injEq] at hc
    subst hc
    exact hp a w g hr (Tr.refl g w) rfl
  | o :: ol, l, hc, hd, g, ac, a, w, hr, he, h0, hp => by
    simp only [cOpers] at hc
    split at hc
    · rename_i so sl ho hl
      obtain rfl := Option.some.inj hc
      have hs := stp_ok hcl ho (kd := true) hr (fun h => by cases h)
      obtain ⟨_, hdo, hdn, _⟩ := cOper_inv ho
      have hdt : so.dst ≠ some t := hd so (List.mem_cons_self ..)
      refine wpList_step fun K hK => ?_
      simp only [evOps] at hp
      cases hst : stp cl true so ac with
      | ok ac' =>
        have hk : ac'.e t = .ptr 0 t 0 := keeps_stp hdt he ac' hst
        rw [hst] at hs hp
        have := hs K Q (fun c w' g' hstep => hK _ _ (evOps_pan hcl ol sl hl (fun o h => hd o (List.mem_cons_of_mem _ h)) (hstep.relA hr hdn) hk ((eval_put_ne (by rw [← hdo]; exact hdt)).trans h0) (by rw [hstep.len]; exact hp.from hstep.tr)))
        unfold doOp at this
        exact this
      | pan v S =>
        rw [hst] at hs hp
        have hv : VR g (.ptr 0 t 0) c0 := by
          have := hr.rel.env t
          rw [he, h0] at this
          exact this
        have := hs K Q (fun c w' g' h1 h2 hx h3 h4 => hp a w' g' c h1 h2 (hv.mono hx) h3 h4 hr.defers hr.size h0)
        unfold doOp at this
        exact this
      | bad => rw [hst] at hp; exact hp.elim
    · cases hc
/-- Codes one behind the other. -/
def codes : List (Code × SC) → Code → Code
  | [], R => R
  | p :: l, R => p.1.seq (codes l R)
def seqs : List (Code × SC) → SC
  | [] => .skip
  | p :: l => .seq p.2 (seqs l)
theorem EPost.out {n l : Nat} {Q : Exit → Act → World → Prop} {T : Act → World → Prop} {r : EO} (hn : ∀ ac', r ≠ .nor ac') (h : EPost D n g l w (Exit.then T Q) r) : EPost D n g l w Q r := by
  cases r with
  | nor ac => exact absurd rfl (hn ac)
  | ext id ac => exact h
  | ret ac => exact h
  | pan v S => exact h
  | bad => exact h
theorem pre_ok {cl : Oracle} (hcl : OracleOk P cl) (hm : P.follows .mixedOrders = true) {n : Nat} {R : Code} {Q : Exit → Act → World → Prop} (N : Nat) : ∀ (l : List (Code × SC)), (∀ p ∈ l, cCode P n p.1 = some p.2) → ∀ {g : Gh} {ac : Ac} {a : Act} {w : World}, RelA D n g ac a w → EPost D n g ac.S.length w (Exit.then (R.wp P Q) Q) (evC cl N (seqs l) ac) → (codes l R).wp P Q a w
  | [], _, g, ac, a, w, hr, hp => by
    simp only [seqs, evC] at hp
    exact hp a w g hr (Tr.refl g w) rfl
  | p :: l, hl, g, ac, a, w, hr, hp => by
    simp only [seqs, evC] at hp
    refine wp_seq (evC_ok hcl hm p.1 p.2 (hl p (List.mem_cons_self ..)) N hr (EPost.behind (fun e => by rw [e] at hp; exact hp) (fun hn => ?_) fun ac' he a' w' g' h1 h2 h3 => ?_))
    · cases he : evC cl N p.2 ac with
      | nor ac' => exact absurd he (hn ac')
      | ext id ac' => rw [he] at hp; exact hp
      | ret ac' => rw [he] at hp; exact hp
      | pan v S => rw [he] at hp; exact hp
      | bad => rw [he] at hp; exact hp
    · rw [he] at hp
      exact pre_ok hcl hm N l (fun q hq => hl q (List.mem_cons_of_mem _ hq)) h1 (by rw [h3]; exact hp.from h2)
/-- The parts of a function that recovers. -/
structure RecParts (P : Program) (f fk : Nat) (fn : Func) (r : RecF) (l : List (Code × SC)) (i4 i5 : Nat) (o1 o2 : Oper) (ops : Array Oper) (cz : Code) (ty : Nat) : Prop where
  func : P.funcs[f]? = some fn
  name : fn.name ≠ "runtime.NumGoroutine"
  body : fn.body = some (codes l ((Code.region i4 #[o1, o2] false).seq ((Code.region i5 ops false).seq cz)))
  mk_ : o1.op = .makeFunc (.func fk) #[] #[.tmp r.t0]
  mkd : o1.dst = some r.d
  mkg : o1.guard = none
  df : ∃ ts, o2.op = .defer ⟨.value (.tmp r.d), #[], ts⟩
  dfd : o2.dst = none
  dfg : o2.guard = none
  pre : r.pre = seqs l
  cpre : ∀ p ∈ l, cCode P fn.ntmps p.1 = some p.2
  cops : cOpers P fn.ntmps ops ops.toList = some r.ops
  cpost : cCode P fn.ntmps cz = some r.post
  cres : cRes P fn.ntmps fn.results.toList = some r.res
  nargs : r.nargs ≤ fn.ntmps
  dn : r.d < fn.ntmps
  tn : r.d ≠ r.t0
  dst : ∀ o ∈ r.ops, o.dst ≠ some r.t0
  kty : ∃ k, kOf P ty = some k ∧ k.getD 1 = 1
  enter : ∀ (v : Value) (w : World), (callFunc fk #[v]).run P w = .ok (.enter fk #[v]) w
  idle : ∀ (v : Value) (w : World), CallsD P fk #[v] .returning w fun e u' w' => (∃ v, e = .returned v) ∧ u' = .returning ∧ w' = w
  takes : ∀ (v : Value) (k : IntKind) (m : Int) (w w' : World), (Instr.storeAt ty v (.int k m)).run P w = .ok () w' →
    CallsD P fk #[v] (.panicking [{ v := .iface r.T (.int k m), recovered := false }]) w fun e u' w'' => (∃ v, e = .returned v) ∧ u' = .panicking [{ v := .iface r.T (.int k m), recovered := true }] ∧ w'' = w'
theorem int_inv {k : IntKind} {m : Int} {c : Value} (h : VR g (.int k m) c) : c = .int k m := by
  cases h with
  | data _ _ h => cases h; rfl
theorem iface_int {t : Nat} {k : IntKind} {m : Int} {c : Value} (h : VR g (.iface t (.int k m)) c) : c = .iface t (.int k m) := by
  cases h with
  | data _ _ h => cases h with | iface _ _ _ h => cases h; rfl
  | iface _ _ c h => rw [int_inv h]
theorem enter_rel {n : Nat} {args : List PV} {cs : Array Value} (hw : WR g S w) (ha : ArgsR g args cs) (hsz : cs.size ≤ n) : RelA [] n g.push (ac0 args S) { tmps := cs ++ Array.replicate (n - cs.size) undef, defers := [] } w := by
  refine ⟨⟨push_wr hw, fun t => ?_⟩, by simp; omega, rfl, Nat.succ_pos _⟩
  show VR g.push (argE (args.map PV.up) t) ((cs ++ Array.replicate (n - cs.size) undef).getD t undef)
  unfold argE
  rw [List.getElem?_map, Array.getD_eq_getD_getElem?]
  cases hat : args[t]? with
  | some v =>
    have hlt := (List.getElem?_eq_some_iff.1 hat).1
    rw [Array.getElem?_append_left (by rw [← ha.1]; exact hlt)]
    simp only [Option.map_some, Option.getD_some]
    rw [← Array.getD_eq_getD_getElem?]
    exact (ha.2 t v hat).up (Gh.pop_push g)
  | none =>
    have hge := List.getElem?_eq_none_iff.1 hat
    rw [Array.getElem?_append_right (by rw [← ha.1]; exact hge)]
    simp only [Option.map_none, Option.getD_none]
    rw [Array.getElem?_replicate]
    split <;> exact .undef
section
variable {f fk : Nat} {fn : Func} {r : RecF} {l : List (Code × SC)} {i4 i5 : Nat} {o1 o2 : Oper} {ops : Array Oper} {cz : Code} {ty : Nat}
theorem RecParts.inv (R : RecParts P f fk fn r l i4 i5 o1 o2 ops cz ty) (v : Value) (w : World) : (invoke (.fn (.func fk) #[v]) #[]).run P w = .ok (.enter fk #[v]) w := by
  have := R.enter v w
  simpa [invoke] using this
/-- Behind the region that may panic. -/
theorem RecParts.behind (R : RecParts P f fk fn r l i4 i5 o1 o2 ops cz ty) {cl : Oracle} (hcl : OracleOk P cl) (hm : P.follows .mixedOrders = true) (N : Nat) {gi : Gh} {ac : Ac} {a : Act} {w' : World} {v : Value} (hr : RelA [{ target := .fn (.func fk) #[v], args := #[] }] fn.ntmps gi ac a w') (ht : Tr g.push w gi w') (hl : ac.S.length = S.length + 1) (hb : recC r.res (evC cl N r.post ac) ≠ .bad) :
    cz.wp P (bodyPostD P fn (CallPost g S w (recC r.res (evC cl N r.post ac)))) a w' := by
  have fin : ∀ ac6 a6 w6 g6, RelA [{ target := .fn (.func fk) #[v], args := #[] }] fn.ntmps g6 ac6 a6 w6 → Tr gi w' g6 w6 → ac6.S.length = ac.S.length → retOf r.res ac6 ≠ .bad → Leaves P fn a6.tmps (CallPost g S w (retOf r.res ac6)) a6.defers .returning w6 := by
    intro ac6 a6 w6 g6 k1 k2 k3 hb6
    obtain ⟨u, q1, q2⟩ := retOf_ok R.cres k1 (ht.trans k2) (k3.trans hl) hb6
    rw [k1.defers]
    refine leaves_cons (f := fk) (args := #[v]) (by simp) (R.inv v w6) ((R.idle v w6).mono ?_)
    rintro e u' w'' ⟨⟨v', rfl⟩, rfl, rfl⟩
    exact ⟨u, q1, q2⟩
  refine evC_ok hcl hm cz r.post R.cpost N hr ?_
  cases he : evC cl N r.post ac with
  | nor ac6 => rw [he] at hb; exact fun a6 w6 g6 k1 k2 k3 => fin ac6 a6 w6 g6 k1 k2 k3 hb
  | ret ac6 => rw [he] at hb; exact fun a6 w6 g6 k1 k2 k3 => fin ac6 a6 w6 g6 k1 k2 k3 hb
  | ext i ac => rw [he] at hb; exact absurd rfl hb
  | pan v S => rw [he] at hb; exact absurd rfl hb
  | bad => rw [he] at hb; exact absurd rfl hb
theorem rec_ok (R : RecParts P f fk fn r l i4 i5 o1 o2 ops cz ty) : RecOk P f r := by
  intro cl N hcl hm args S hla hb g w cs hw ha
  left
  refine ⟨by unfold callFunc; simp [R.func, R.name, R.body], calls_of_wp_defers R.func R.body ?_⟩
  have hsz : cs.size ≤ fn.ntmps := by rw [← ha.1, hla]; exact R.nargs
  rw [R.pre] at hb ⊢
  refine pre_ok hcl hm N l R.cpre (enter_rel hw ha hsz) ?_
  cases he : evC cl N (seqs l) (ac0 args S) with
  | bad => rw [he] at hb; exact absurd rfl hb
  | pan v S => rw [he] at hb; exact absurd rfl hb
  | ext i ac => rw [he] at hb; exact absurd rfl hb
  | ret ac =>
    rw [he] at hb
    intro a' w' g' h1 h2 h3
    obtain ⟨v, q1, q2⟩ := retOf_ok R.cres h1 h2 h3 hb
    show Leaves P fn a'.tmps _ a'.defers .returning w'
    rw [h1.defers]
    exact ⟨v, q1, q2⟩
  | nor ac =>
    rw [he] at hb
    intro a' w' g' h1 h2 h3
    obtain ⟨ts, hdf⟩ := R.df
    refine wp_seq (wp_region_list ?_)
    refine wpList_step fun K hK => ?_
    rw [if_pos (by simp [Region.wanted, R.mkg])]
    have e1 : (execOp a'.eval o1).run P w' = .ok (.value (.func (.func fk) #[] #[a'.eval (.tmp r.t0)])) w' := by
      unfold execOp
      rw [R.mk_]
      simp [Instr.makeFunc]
    unfold Oper.wp
    rw [e1]
    refine hK _ _ (wpList_step fun K hK => ?_)
    rw [if_pos (by simp [Region.wanted, R.dfg])]
    have hd4 : (a'.put o1.dst (.func (.func fk) #[] #[a'.eval (.tmp r.t0)])).eval (.tmp r.d) = .func (.func fk) #[] #[a'.eval (.tmp r.t0)] := by
      rw [R.mkd]
      exact eval_put_same (by rw [h1.size]; exact R.dn)
    have e2 : (execOp (a'.put o1.dst (.func (.func fk) #[] #[a'.eval (.tmp r.t0)])).eval o2).run P w' = .ok (.defer { target := .fn (.func fk) #[a'.eval (.tmp r.t0)], args := #[] }) w' := by
      unfold execOp
      rw [hdf]
      simp [resolve, hd4, Deferred.ofValue]
    unfold Oper.wp
    rw [e2]
    refine hK _ _ ?_
    rw [R.mkd, R.dfd]
    have hr5 : RelA [{ target := .fn (.func fk) #[a'.eval (.tmp r.t0)], args := #[] }] fn.ntmps g' (ac.put (some r.d) .junk) (({ a'.put (some r.d) (.func (.func fk) #[] #[a'.eval (.tmp r.t0)]) with defers := { target := .fn (.func fk) #[a'.eval (.tmp r.t0)], args := #[] } :: (a'.put (some r.d) (.func (.func fk) #[] #[a'.eval (.tmp r.t0)])).defers } : Act).put none undef) w' := by
      refine ⟨⟨h1.rel.wr, fun t => ?_⟩, ?_, ?_, h1.ne⟩
      · show VR g' ((ac.put (some r.d) .junk).e t) ((a'.put (some r.d) (.func (.func fk) #[] #[a'.eval (.tmp r.t0)])).eval (.tmp t))
        by_cases e : t = r.d
        · subst e
          simp only [Ac.put, upd, if_true]
          exact .junk _
        · rw [eval_put_ne (fun h => e (Option.some.inj h).symm)]
          simp only [Ac.put, upd, if_neg e]
          exact h1.rel.env t
      · show (a'.put (some r.d) (.func (.func fk) #[] #[a'.eval (.tmp r.t0)])).tmps.size = _
        rw [Act.put_size]
        exact h1.size
      · show _ :: (a'.put (some r.d) (.func (.func fk) #[] #[a'.eval (.tmp r.t0)])).defers = _
        rw [Act.put_defers_, h1.defers]
    have hl5 : (ac.put (some r.d) .junk).S.length = S.length + 1 := h3
    have hev : (({ a'.put (some r.d) (.func (.func fk) #[] #[a'.eval (.tmp r.t0)]) with defers := { target := .fn (.func fk) #[a'.eval (.tmp r.t0)], args := #[] } :: (a'.put (some r.d) (.func (.func fk) #[] #[a'.eval (.tmp r.t0)])).defers } : Act).put none undef).eval (.tmp r.t0) = a'.eval (.tmp r.t0) := by
      show (a'.put (some r.d) (.func (.func fk) #[] #[a'.eval (.tmp r.t0)])).eval (.tmp r.t0) = _
      exact eval_put_ne (fun h => R.tn (Option.some.inj h))
    refine wp_seq (wp_region_list ?_)
    by_cases h0 : ac.e r.t0 = .ptr 0 r.t0 0
    · refine evOps_pan hcl ops.toList r.ops R.cops R.dst hr5 (by
        have : r.t0 ≠ r.d := fun e => R.tn e.symm
        simp only [Ac.put, upd, if_neg this]
        exact h0) hev ?_
      simp only [recB] at hb ⊢
      cases ho : evOps cl r.ops (ac.put (some r.d) .junk) with
      | bad => rw [ho] at hb; exact absurd rfl hb
      | ext i ac => rw [ho] at hb; exact absurd rfl hb
      | ret ac => rw [ho] at hb; exact absurd rfl hb
      | nor ac5 =>
        rw [ho] at hb
        exact fun a5 w5 g5 k1 k2 k3 => R.behind hcl hm N k1 (h2.trans k2) (k3.trans hl5) hb
      | pan v S5 =>
        rw [ho] at hb
        intro a6 w6 g6 c k1 k2 k3 k4 k5 k6 k7 k8
        show Leaves P fn a6.tmps (CallPost g S w (recV r (ac.e r.t0 = .ptr 0 r.t0 0) v S5)) a6.defers (.panicking [{ v := c, recovered := false }]) w6
        have hb' : recV r (ac.e r.t0 = .ptr 0 r.t0 0) v S5 ≠ .bad := hb
        unfold recV at hb' ⊢
        split at hb'
        · rename_i t k m
          by_cases ht : ac.e r.t0 = .ptr 0 r.t0 0 ∧ t = r.T
          · rw [if_pos ht] at hb' ⊢
            obtain ⟨_, rfl⟩ := ht
            cases hst : storeP S5 1 (.ptr 0 r.t0 0) (.int k m) with
            | none => rw [hst] at hb'; exact absurd rfl hb'
            | some S7 =>
              rw [hst] at hb'
              dsimp only at hb' ⊢
              obtain ⟨kk, hk1, hk2⟩ := R.kty
              obtain ⟨w7, g7, hrun, w7r, x7, t7, l7⟩ := store_ok k1 hk1 k3 (VR.data _ _ (FR.int k m)) (by rw [hk2]; exact hst)
              rw [iface_int k2, k6]
              refine leaves_cons (f := fk) (args := #[a'.eval (.tmp r.t0)]) (by simp) (R.inv _ w6) ((R.takes _ k m w6 w7 hrun).mono ?_)
              rintro e u' w'' ⟨⟨v', rfl⟩, rfl, rfl⟩
              have hrel : RelA a6.defers fn.ntmps g7 ⟨upd (fun _ => .junk) r.t0 (.ptr 0 r.t0 0), S7⟩ a6 w'' := by
                refine ⟨⟨w7r, fun t => ?_⟩, k7, rfl, by show 0 < S7.length; omega⟩
                by_cases e : t = r.t0
                · have h7 : VR g7 (.ptr 0 r.t0 0) (a6.eval (.tmp r.t0)) := by rw [k8]; exact k3.mono x7
                  simp only [upd, e, if_true]
                  exact h7
                · simp only [upd, if_neg e]
                  exact .junk _
              obtain ⟨u, q1, q2⟩ := retOf_ok (S := S) R.cres hrel (h2.trans (k4.trans t7)) (by show S7.length = _; omega) hb'
              exact ⟨u, q1, q2⟩
          · rw [if_neg ht] at hb'; exact absurd rfl hb'
        · exact absurd rfl hb'
    · refine evOps_ok hcl ops.toList r.ops R.cops hr5 ?_
      simp only [recB] at hb ⊢
      cases ho : evOps cl r.ops (ac.put (some r.d) .junk) with
      | bad => rw [ho] at hb; exact absurd rfl hb
      | ext i ac => rw [ho] at hb; exact absurd rfl hb
      | ret ac => rw [ho] at hb; exact absurd rfl hb
      | nor ac5 =>
        rw [ho] at hb
        exact fun a5 w5 g5 k1 k2 k3 => R.behind hcl hm N k1 (h2.trans k2) (k3.trans hl5) hb
      | pan v S5 =>
        rw [ho] at hb
        have hb' : recV r (ac.e r.t0 = .ptr 0 r.t0 0) v S5 ≠ .bad := hb
        unfold recV at hb'
        split at hb'
        · rw [if_neg (fun h => h0 h.1)] at hb'; exact absurd rfl hb'
        · exact absurd rfl hb'
end
end
end Go.Proofs.YtfbcnpbhhooapaaGreatDoor.M

/- Values as data, and what is reckoned of them: no program in sight. -/
namespace Go.Proofs.YtfbcnpbhhooapaaGreatDoor.M
set_option linter.unusedSimpArgs false
set_option linter.unusedVariables false
open Go Classical
/-- A value of package api. -/
inductive V where
  | mk (k n : Int) (s : List UInt8) (l : List V)
def V.k : V → Int | .mk k _ _ _ => k
def V.n : V → Int | .mk _ n _ _ => n
def V.s : V → List UInt8 | .mk _ _ s _ => s
def V.l : V → List V | .mk _ _ _ l => l
mutual
def enc : V → List PV
  | .mk k n s l => [.int .i64 k, .int .i64 n, .str s, .list 4 (encL l) false]
def encL : List V → List (List PV)
  | [] => []
  | v :: vs => enc v :: encL vs
end
mutual
def deep : V → Nat
  | .mk k _ _ l => if k = 4 then 1 + deepL l else 0
def deepL : List V → Nat
  | [] => 0
  | v :: vs => max (deep v) (deepL vs)
end
theorem encL_length : ∀ vs : List V, (encL vs).length = vs.length
  | [] => by simp [encL]
  | v :: vs => by simp [encL, encL_length vs]
theorem encL_get : ∀ (vs : List V) (i : Nat), (encL vs)[i]? = (vs[i]?).map enc
  | [], i => by simp [encL]
  | v :: vs, 0 => by simp [encL]
  | v :: vs, i + 1 => by simp [encL, encL_get vs i]
theorem enc_eq (v : V) : enc v = [.int .i64 v.k, .int .i64 v.n, .str v.s, .list 4 (encL v.l) false] := by cases v; simp [enc, V.k, V.n, V.s, V.l]
end Go.Proofs.YtfbcnpbhhooapaaGreatDoor.M

/- Words for the trees that lift.py prints: data and their cells. -/
namespace Go.Proofs.YtfbcnpbhhooapaaGreatDoor.M
set_option linter.unusedSimpArgs false
set_option linter.unusedVariables false
open Go Classical
/-- It fits 64 bits. -/
def I64 (x : Int) : Prop := -9223372036854775808 ≤ x ∧ x ≤ 9223372036854775807
theorem I64.wrap {x : Int} (h : I64 x) : IntKind.i64.wrap x = x := wrap_i64 h.1 h.2
/-- It fits 8 bits. -/
def U8 (x : Int) : Prop := 0 ≤ x ∧ x ≤ 255
theorem U8.wrap {x : Int} (h : U8 x) : IntKind.u8.wrap x = x := by
  obtain ⟨h1, h2⟩ := h
  simp only [IntKind.wrap, IntKind.min, IntKind.max, IntKind.signed, IntKind.bits]
  simp
  omega
def U64 (x : Int) : Prop := 0 ≤ x ∧ x ≤ 18446744073709551615
theorem U64.wrap {x : Int} (h : U64 x) : IntKind.u64.wrap x = x := by
  obtain ⟨h1, h2⟩ := h
  simp only [IntKind.wrap, IntKind.min, IntKind.max, IntKind.signed, IntKind.bits]
  simp
  omega
def eI (x : Int) : List PV := [.int .i64 x]
def eK (k : IntKind) (x : Int) : List PV := [.int k x]
def eB (x : UInt8) : List PV := [.int .u8 (x.toNat : Nat)]
def eS (x : List UInt8) : List PV := [.str x]
def eO (x : Bool) : List PV := [.bool x]
def eF (x : Nat) : List PV := [.func x []]
def eLB (x : List UInt8) : List PV := [.list 1 (x.map eB) false]
def eLS (x : List (List UInt8)) : List PV := [.list 1 (x.map eS) false]
theorem encL_map : ∀ xs : List V, encL xs = xs.map enc
  | [] => by simp [encL]
  | x :: xs => by simp [encL, encL_map xs]
theorem encL_nil : encL [] = [] := by simp [encL]
theorem encL_cons (x : V) (xs : List V) : encL (x :: xs) = enc x :: encL xs := by simp [encL]
theorem encL_app (xs ys : List V) : encL (xs ++ ys) = encL xs ++ encL ys := by simp [encL_map]
theorem encL_drop (xs : List V) (n : Nat) : (encL xs).drop n = encL (xs.drop n) := by simp [encL_map]
theorem encL_take (xs : List V) (n : Nat) : (encL xs).take n = encL (xs.take n) := by simp [encL_map]
theorem map_drop' {α β : Type} (f : α → β) (xs : List α) (n : Nat) : (xs.map f).drop n = (xs.drop n).map f := by simp
theorem map_take' {α β : Type} (f : α → β) (xs : List α) (n : Nat) : (xs.map f).take n = (xs.take n).map f := by simp
theorem take_len {α : Type} (xs : List α) : xs.take xs.length = xs := List.take_length
theorem take_app {α : Type} (xs ys : List α) (n : Nat) : (xs ++ ys).take (xs.length + n) = xs ++ ys.take n := by rw [List.take_append, List.take_of_length_le (by omega)]; congr 2; omega
theorem take_encL_app (xs : List V) (ys : List (List PV)) (n : Nat) : (encL xs ++ ys).take (xs.length + n) = encL xs ++ ys.take n := by
  have := take_app (encL xs) ys n
  rwa [encL_length] at this
theorem take_map_app {α : Type} (f : α → List PV) (xs : List α) (ys : List (List PV)) (n : Nat) : (xs.map f ++ ys).take (xs.length + n) = xs.map f ++ ys.take n := by
  have := take_app (xs.map f) ys n
  rwa [List.length_map] at this
theorem bytesOf_eB : ∀ xs : List UInt8, bytesOf (xs.map eB) = some xs
  | [] => rfl
  | x :: xs => by
    have h : UInt8.ofNat ((x.toNat : Nat) : Int).toNat = x := by simp
    simp only [List.map_cons, eB, bytesOf, bytesOf_eB xs, Option.map_some, h]
theorem bytes_eB (s : List UInt8) : (s.map fun b => ([PV.int .u8 b.toNat] : List PV)) = s.map eB := rfl
theorem cnd_and {SP : Prg} {a b : SC} {ac : Ac} {p q : Bool} : cnd SP (.bool (p && q)) a b ac = if p = true ∧ q = true then E SP a ac else E SP b ac := by cases p <;> cases q <;> rfl
noncomputable def stO (ac : Ac) (r : Option Sto) : OO :=
  match r with
  | some S => .ok ⟨ac.e, S⟩
  | none => .bad
theorem stO_some (ac : Ac) (S : Sto) : stO ac (some S) = .ok ⟨ac.e, S⟩ := rfl
theorem ex_store {cl : Oracle} {kd : Bool} {k : Nat} {x v : X} {ac : Ac} : ex cl kd none (.store k x v) ac = stO ac (storeP ac.S k (ac.ev x) (ac.ev v)) := by
  unfold stO
  cases h : storeP ac.S k (ac.ev x) (ac.ev v) <;> simp only [ex, h]
end Go.Proofs.YtfbcnpbhhooapaaGreatDoor.M

/- Words for pointers: boxes of frames further out; library functions over a function. -/
namespace Go.Proofs.YtfbcnpbhhooapaaGreatDoor.M
set_option linter.unusedSimpArgs false
set_option linter.unusedVariables false
open Go Classical
/-- What comes back: a result, or a panic. -/
def po (T : Nat) (o : Option Int) (r : Ret) (S : Sto) : CO := match o with | none => .ok r S | some e => .pan (.iface T (.int .i64 e)) S
theorem po_none (T : Nat) (r : Ret) (S : Sto) : po T none r S = .ok r S := rfl
theorem po_some (T : Nat) (e : Int) (r : Ret) (S : Sto) : po T (some e) r S = .pan (.iface T (.int .i64 e)) S := rfl
theorem take_some {o : Option (List PV)} {k : Nat} {l : List PV} (h : o.map (List.take k) = some l) : ∃ r, o = some (l ++ r) := by
  cases o with
  | none => cases h
  | some c => simp only [Option.map_some, Option.some.injEq] at h; exact ⟨c.drop k, by rw [← h, List.take_append_drop]⟩
theorem o_getBox_lt : ∀ {S : Sto} {n t : Nat} {c : List PV}, getBox S n t = some c → n < S.length
  | [], _, _, _, h => by simp [getBox] at h
  | _ :: _, 0, _, _, _ => by simp
  | _ :: S, n + 1, t, c, h => by have := o_getBox_lt (S := S) (n := n) (t := t) (c := c) h; simp; omega
theorem o_length_setBox : ∀ (S : Sto) (n t : Nat) (c : List PV), (setBox S n t c).length = S.length
  | [], _, _, _ => rfl
  | _ :: _, 0, _, _ => rfl
  | _ :: S, n + 1, t, c => by simp [setBox, o_length_setBox S n t c]
theorem o_length_setArr : ∀ (S : Sto) (n : Nat) (k : AK) (A : Arr), (setArr S n k A).length = S.length
  | [], _, _, _ => rfl
  | _ :: _, 0, _, _ => rfl
  | _ :: S, n + 1, t, c => by simp [setArr, o_length_setArr S n t c]
theorem o_getBox_setBox : ∀ {S : Sto} {n : Nat} (t : Nat) (c : List PV), n < S.length → getBox (setBox S n t c) n t = some c
  | [], _, _, _, h => by simp at h
  | _ :: _, 0, _, _, _ => by simp [setBox, getBox, upd]
  | _ :: S, n + 1, t, c, h => by simp only [setBox, getBox]; exact o_getBox_setBox t c (by simpa using h)
theorem o_getArr_setArr : ∀ {S : Sto} {n : Nat} (k : AK) (A : Arr), n < S.length → getArr (setArr S n k A) n k = some A
  | [], _, _, _, h => by simp at h
  | _ :: _, 0, _, _, _ => by simp [setArr, getArr, updK]
  | _ :: S, n + 1, t, c, h => by simp only [setArr, getArr]; exact o_getArr_setArr t c (by simpa using h)
theorem o_getBox_setArr : ∀ (S : Sto) (m : Nat) (k : AK) (A : Arr) (n t : Nat), getBox (setArr S m k A) n t = getBox S n t
  | [], _, _, _, _, _ => rfl
  | _ :: _, 0, _, _, 0, _ => rfl
  | _ :: _, 0, _, _, _ + 1, _ => rfl
  | _ :: _, _ + 1, _, _, 0, _ => rfl
  | _ :: S, m + 1, k, A, n + 1, t => by simp only [setArr, getBox]; exact o_getBox_setArr S m k A n t
theorem o_getArr_setBox : ∀ (S : Sto) (m t : Nat) (c : List PV) (n : Nat) (k : AK), getArr (setBox S m t c) n k = getArr S n k
  | [], _, _, _, _, _ => rfl
  | _ :: _, 0, _, _, 0, _ => rfl
  | _ :: _, 0, _, _, _ + 1, _ => rfl
  | _ :: _, _ + 1, _, _, 0, _ => rfl
  | _ :: S, m + 1, k, A, n + 1, t => by simp only [setBox, getArr]; exact o_getArr_setBox S m k A n t
theorem o_upd_upd {α : Type} (f : Nat → α) (i : Nat) (a b : α) : upd (upd f i a) i b = upd f i b := by
  funext j; simp only [upd]; split <;> rfl
theorem o_updK_updK {α : Type} (f : AK → α) (i : AK) (a b : α) : updK (updK f i a) i b = updK f i b := by
  funext j; simp only [updK]; split <;> rfl
theorem o_setBox_setBox : ∀ (S : Sto) (n t : Nat) (a b : List PV), setBox (setBox S n t a) n t b = setBox S n t b
  | [], _, _, _, _ => rfl
  | _ :: _, 0, _, _, _ => by simp [setBox, o_upd_upd]
  | _ :: S, n + 1, t, a, b => by simp only [setBox, o_setBox_setBox S n t a b]
theorem o_setArr_setArr : ∀ (S : Sto) (n : Nat) (k : AK) (a b : Arr), setArr (setArr S n k a) n k b = setArr S n k b
  | [], _, _, _, _ => rfl
  | _ :: _, 0, _, _, _ => by simp [setArr, o_updK_updK]
  | _ :: S, n + 1, t, a, b => by simp only [setArr, o_setArr_setArr S n t a b]
theorem o_setBox_setArr : ∀ (S : Sto) (m : Nat) (k : AK) (A : Arr) (n t : Nat) (c : List PV), setBox (setArr S m k A) n t c = setArr (setBox S n t c) m k A
  | [], _, _, _, _, _, _ => rfl
  | _ :: _, 0, _, _, 0, _, _ => rfl
  | _ :: _, 0, _, _, _ + 1, _, _ => rfl
  | _ :: _, _ + 1, _, _, 0, _, _ => rfl
  | _ :: S, m + 1, k, A, n + 1, t, c => by simp only [setArr, setBox, o_setBox_setArr S m k A n t c]
theorem o_setBox_same : ∀ {S : Sto} {n t : Nat} {c : List PV}, getBox S n t = some c → setBox S n t c = S
  | [], _, _, _, h => rfl
  | f :: _, 0, t, c, h => by
    simp only [getBox] at h
    have : upd f.box t (some c) = f.box := by funext j; simp only [upd]; split <;> simp_all
    simp [setBox, this]
  | _ :: S, n + 1, t, c, h => by simp only [setBox]; rw [o_setBox_same (S := S) (n := n) h]
theorem o_setArr_same : ∀ {S : Sto} {n : Nat} {k : AK} {A : Arr}, getArr S n k = some A → setArr S n k A = S
  | [], _, _, _, h => rfl
  | f :: _, 0, t, c, h => by
    simp only [getArr] at h
    have : updK f.arr t (some c) = f.arr := by funext j; simp only [updK]; split <;> simp_all
    simp [setArr, this]
  | _ :: S, n + 1, t, c, h => by simp only [setArr]; rw [o_setArr_same (S := S) (n := n) h]
theorem o_getBox_ne : ∀ (S : Sto) (n t : Nat) (c : List PV) (m u : Nat), n ≠ m → getBox (setBox S n t c) m u = getBox S m u
  | [], _, _, _, _, _, _ => rfl
  | _ :: _, 0, _, _, 0, _, h => absurd rfl h
  | _ :: _, 0, _, _, _ + 1, _, _ => rfl
  | _ :: _, _ + 1, _, _, 0, _, _ => rfl
  | _ :: S, n + 1, t, c, m + 1, u, h => by simp only [setBox, getBox]; exact o_getBox_ne S n t c m u (fun e => h (by rw [e]))
theorem o_getArr_ne : ∀ (S : Sto) (n : Nat) (k : AK) (c : Arr) (m : Nat) (u : AK), n ≠ m → getArr (setArr S n k c) m u = getArr S m u
  | [], _, _, _, _, _, _ => rfl
  | _ :: _, 0, _, _, 0, _, h => absurd rfl h
  | _ :: _, 0, _, _, _ + 1, _, _ => rfl
  | _ :: _, _ + 1, _, _, 0, _, _ => rfl
  | _ :: S, n + 1, t, c, m + 1, u, h => by simp only [setArr, getArr]; exact o_getArr_ne S n t c m u (fun e => h (by rw [e]))
theorem o_setBox_comm : ∀ (S : Sto) (n t : Nat) (c : List PV) (m u : Nat) (d : List PV), n ≠ m → setBox (setBox S m u d) n t c = setBox (setBox S n t c) m u d
  | [], _, _, _, _, _, _, _ => rfl
  | _ :: _, 0, _, _, 0, _, _, h => absurd rfl h
  | _ :: _, 0, _, _, _ + 1, _, _, _ => rfl
  | _ :: _, _ + 1, _, _, 0, _, _, _ => rfl
  | _ :: S, n + 1, t, c, m + 1, u, d, h => by simp only [setBox]; rw [o_setBox_comm S n t c m u d (fun e => h (by rw [e]))]
theorem o_setArr_comm : ∀ (S : Sto) (n : Nat) (t : AK) (c : Arr) (m : Nat) (u : AK) (d : Arr), n ≠ m → setArr (setArr S m u d) n t c = setArr (setArr S n t c) m u d
  | [], _, _, _, _, _, _, _ => rfl
  | _ :: _, 0, _, _, 0, _, _, h => absurd rfl h
  | _ :: _, 0, _, _, _ + 1, _, _, _ => rfl
  | _ :: _, _ + 1, _, _, 0, _, _, _ => rfl
  | _ :: S, n + 1, t, c, m + 1, u, d, h => by simp only [setArr]; rw [o_setArr_comm S n t c m u d (fun e => h (by rw [e]))]
/-- Boxes of two frames. -/
theorem two_ne {n m : Nat} (h : n ≠ m) : (∀ (S : Sto) (t : Nat) (c : List PV) (u : Nat), getBox (setBox S n t c) m u = getBox S m u) ∧ (∀ (S : Sto) (t : Nat) (c : List PV) (u : Nat), getBox (setBox S m t c) n u = getBox S n u) ∧
    (∀ (S : Sto) (t : AK) (c : Arr) (u : AK), getArr (setArr S n t c) m u = getArr S m u) ∧ (∀ (S : Sto) (t : AK) (c : Arr) (u : AK), getArr (setArr S m t c) n u = getArr S n u) ∧
    (∀ (S : Sto) (t : Nat) (c : List PV) (u : Nat) (d : List PV), setBox (setBox S m u d) n t c = setBox (setBox S n t c) m u d) ∧ (∀ (S : Sto) (t : AK) (c : Arr) (u : AK) (d : Arr), setArr (setArr S m u d) n t c = setArr (setArr S n t c) m u d) :=
  ⟨fun S t c u => o_getBox_ne S n t c m u h, fun S t c u => o_getBox_ne S m t c n u (Ne.symm h), fun S t c u => o_getArr_ne S n t c m u h, fun S t c u => o_getArr_ne S m t c n u (Ne.symm h), fun S t c u d => o_setBox_comm S n t c m u d h, fun S t c u d => o_setArr_comm S n t c m u d h⟩
theorem o_upN_int : ∀ (n : Nat) (k : IntKind) (x : Int), PV.upN n (.int k x) = .int k x
  | 0, _, _ => rfl
  | n + 1, k, x => by simp [PV.upN, o_upN_int n k x, PV.up]
theorem o_upN_bool : ∀ (n : Nat) (x : Bool), PV.upN n (.bool x) = .bool x
  | 0, _ => rfl
  | n + 1, x => by simp [PV.upN, o_upN_bool n x, PV.up]
theorem o_upN_str : ∀ (n : Nat) (x : List UInt8), PV.upN n (.str x) = .str x
  | 0, _ => rfl
  | n + 1, x => by simp [PV.upN, o_upN_str n x, PV.up]
theorem o_upN_list : ∀ (n z : Nat) (x : List (List PV)) (f : Bool), PV.upN n (.list z x f) = .list z x f
  | 0, _, _, _ => rfl
  | n + 1, z, x, f => by simp [PV.upN, o_upN_list n z x f, PV.up]
theorem o_upN_sl : ∀ (n m : Nat) (a : AK) (o l v g : Nat) (f : Bool), PV.upN n (.sl m a o l v g f) = .sl (m + n) a o l v g f
  | 0, _, _, _, _, _, _, _ => rfl
  | n + 1, m, a, o, l, v, g, f => by simp [PV.upN, o_upN_sl n m a o l v g f, PV.up]; omega
theorem o_upL_map : ∀ (l : List PV), PV.upL l = l.map PV.up
  | [] => rfl
  | v :: l => by simp [PV.upL, o_upL_map l]
theorem o_upN_agg : ∀ (n : Nat) (l : List PV), PV.upN n (.agg l) = .agg (l.map (PV.upN n))
  | 0, l => by simp [PV.upN]
  | n + 1, l => by simp [PV.upN, o_upN_agg n l, PV.up, o_upL_map]
theorem o_dnN_int : ∀ (n : Nat) (k : IntKind) (x : Int), PV.dnN n (.int k x) = some (.int k x)
  | 0, _, _ => rfl
  | n + 1, k, x => by simp [PV.dnN, PV.dn, o_dnN_int n k x]
theorem o_dnN_bool : ∀ (n : Nat) (x : Bool), PV.dnN n (.bool x) = some (.bool x)
  | 0, _ => rfl
  | n + 1, x => by simp [PV.dnN, PV.dn, o_dnN_bool n x]
theorem o_dnN_str : ∀ (n : Nat) (x : List UInt8), PV.dnN n (.str x) = some (.str x)
  | 0, _ => rfl
  | n + 1, x => by simp [PV.dnN, PV.dn, o_dnN_str n x]
theorem o_upN_func : ∀ (n f : Nat), PV.upN n (.func f []) = .func f []
  | 0, _ => rfl
  | n + 1, f => by simp [PV.upN, o_upN_func n f, PV.up, PV.upL]
theorem app_lit {α : Type} (xs : List α) (a : α) (l : List α) (b : α) (m : List α) : (xs ++ (a :: l)) ++ (b :: m) = xs ++ (a :: (l ++ (b :: m))) := by simp
theorem succ_ne_zero' (n : Nat) : (n + 1 = 0) = False := by simp
mutual
theorem o_kill_up (d : Nat) : ∀ v : PV, v.up.kill d = v.up
  | .bool _ | .int _ _ | .str _ | .nils _ | .list _ _ _ | .rowp _ _ | .nili | .nile | .undef | .junk => by simp [PV.up, PV.kill]
  | .agg vs => by simp [PV.up, PV.kill, o_killL_up d vs]
  | .tup vs => by simp [PV.up, PV.kill, o_killL_up d vs]
  | .ptr n t o => by simp [PV.up, PV.kill]
  | .elem n a i o v g => by simp [PV.up, PV.kill]
  | .sl n a o l v g f => by simp [PV.up, PV.kill]
  | .func f caps => by simp [PV.up, PV.kill, o_killL_up d caps]
  | .iface t v => by simp [PV.up, PV.kill, o_kill_up d v]
theorem o_killL_up (d : Nat) : ∀ vs : List PV, PV.killL d (PV.upL vs) = PV.upL vs
  | [] => by simp [PV.upL, PV.killL]
  | v :: vs => by simp [PV.upL, PV.killL, o_kill_up d v, o_killL_up d vs]
end
/-- The first that is so; -1: none. -/
def findI {α : Type} (p : α → Bool) : Nat → List α → Int
  | _, [] => -1
  | i, x :: xs => if p x = true then (i : Int) else findI p (i + 1) xs
theorem findI_any {α : Type} (p : α → Bool) : ∀ (i : Nat) (xs : List α), (0 ≤ findI p i xs) ↔ xs.any p = true
  | i, [] => by simp [findI]
  | i, x :: xs => by
    have := findI_any p (i + 1) xs
    simp only [findI, List.any_cons]
    cases p x <;> simp [this]
theorem findI_dec {α : Type} (p : α → Bool) (xs : List α) : decide (0 ≤ findI p 0 xs) = xs.any p := by
  have := findI_any p 0 xs
  cases h : xs.any p <;> simp [h] at this ⊢ <;> omega
/-- A row, one behind it, and a row behind that: all of it. -/
theorem take_app3 {α β : Type} (f : α → β) (a c : List α) (x : β) : (a.map f ++ [x] ++ c.map f).take (a.length + 1 + c.length) = a.map f ++ [x] ++ c.map f := List.take_of_length_le (by simp; omega)
theorem set_get {α : Type} (l : List α) (i : Nat) (a : α) : (l.set i a)[i]? = (l[i]?).map fun _ => a := by
  rw [List.getElem?_set]
  by_cases h : i < l.length
  · simp [h]
  · simp [h]
theorem take_set {α β : Type} (f : α → β) (l : List α) (i : Nat) (x : β) : ((l.map f).set i x).take l.length = (l.map f).set i x := List.take_of_length_le (by simp)
end Go.Proofs.YtfbcnpbhhooapaaGreatDoor.M

/- All the laws by which the machine is reckoned, in one. -/
namespace Go.Proofs.YtfbcnpbhhooapaaGreatDoor.M
open Go Classical
set_option maxRecDepth 10000
theorem V_k (k n : Int) (s : List UInt8) (l : List V) : (V.mk k n s l).k = k := rfl
theorem V_n (k n : Int) (s : List UInt8) (l : List V) : (V.mk k n s l).n = n := rfl
theorem V_s (k n : Int) (s : List UInt8) (l : List V) : (V.mk k n s l).s = s := rfl
theorem V_l (k n : Int) (s : List UInt8) (l : List V) : (V.mk k n s l).l = l := rfl
theorem lw0 : type_of% (And.intro @List.map_cons.{0,0} <| And.intro @List.map_nil.{0,0} <| And.intro @PV.up.eq_1 <| And.intro @PV.up.eq_2 <| And.intro @PV.up.eq_3 <| And.intro @PV.up.eq_4 <| And.intro @PV.up.eq_5 <| And.intro @PV.up.eq_6 <| And.intro @PV.up.eq_7 <| And.intro @PV.up.eq_8 <| And.intro @PV.up.eq_9 <| And.intro @PV.up.eq_10 <| And.intro @PV.up.eq_11 <| And.intro @PV.up.eq_12 <| And.intro @PV.up.eq_13 <| And.intro @PV.up.eq_14 <| And.intro @PV.up.eq_15 <| And.intro @PV.up.eq_16 <| And.intro @PV.upL.eq_1 <| And.intro @PV.upL.eq_2 <| And.intro @E_seq <| And.intro @E_reg <| And.intro @E_block <| And.intro @E_cnd <| And.intro @E_skip <| And.intro @E_exit <| And.intro @E_ret <| And.intro @E_dreg <| And.intro @thC_nor <| And.intro @thC_ret <| And.intro @thC_ext <| And.intro @thC_pan <| And.intro @inBlk_ext <| And.intro @inBlk_nor <| And.intro @inBlk_ret <| And.intro @inBlk_pan <| And.intro @evOps_cons <| And.intro @evOps_nil <| And.intro @thOps_ok <| And.intro @thOps_pan <| And.intro @evD_cons <| And.intro @evD_nil <| And.intro @thD_tot <| And.intro @thD_same <| And.intro @List.tail_cons.{0} <| And.intro @stp_none <| And.intro @stp_some <| And.intro @gd_tt <| And.intro @gd_ff <| And.intro @gd_tf <| And.intro @gd_ft <| And.intro @gd_undef <| And.intro @gd_td <| And.intro @gd_fd <| And.intro @ex_v <| And.intro @vo_some <| And.intro @ex.eq_1 <| And.intro @ex.eq_2 <| And.intro @ex.eq_3 <| @ex.eq_4) := And.intro @List.map_cons.{0,0} <| And.intro @List.map_nil.{0,0} <| And.intro @PV.up.eq_1 <| And.intro @PV.up.eq_2 <| And.intro @PV.up.eq_3 <| And.intro @PV.up.eq_4 <| And.intro @PV.up.eq_5 <| And.intro @PV.up.eq_6 <| And.intro @PV.up.eq_7 <| And.intro @PV.up.eq_8 <| And.intro @PV.up.eq_9 <| And.intro @PV.up.eq_10 <| And.intro @PV.up.eq_11 <| And.intro @PV.up.eq_12 <| And.intro @PV.up.eq_13 <| And.intro @PV.up.eq_14 <| And.intro @PV.up.eq_15 <| And.intro @PV.up.eq_16 <| And.intro @PV.upL.eq_1 <| And.intro @PV.upL.eq_2 <| And.intro @E_seq <| And.intro @E_reg <| And.intro @E_block <| And.intro @E_cnd <| And.intro @E_skip <| And.intro @E_exit <| And.intro @E_ret <| And.intro @E_dreg <| And.intro @thC_nor <| And.intro @thC_ret <| And.intro @thC_ext <| And.intro @thC_pan <| And.intro @inBlk_ext <| And.intro @inBlk_nor <| And.intro @inBlk_ret <| And.intro @inBlk_pan <| And.intro @evOps_cons <| And.intro @evOps_nil <| And.intro @thOps_ok <| And.intro @thOps_pan <| And.intro @evD_cons <| And.intro @evD_nil <| And.intro @thD_tot <| And.intro @thD_same <| And.intro @List.tail_cons.{0} <| And.intro @stp_none <| And.intro @stp_some <| And.intro @gd_tt <| And.intro @gd_ff <| And.intro @gd_tf <| And.intro @gd_ft <| And.intro @gd_undef <| And.intro @gd_td <| And.intro @gd_fd <| And.intro @ex_v <| And.intro @vo_some <| And.intro @ex.eq_1 <| And.intro @ex.eq_2 <| And.intro @ex.eq_3 <| @ex.eq_4
theorem lw1 : type_of% (And.intro @ex.eq_5 <| And.intro @ex.eq_6 <| And.intro @ex.eq_7 <| And.intro @ex.eq_8 <| And.intro @ex_store <| And.intro @stO_some <| And.intro @ex.eq_11 <| And.intro @ex.eq_12 <| And.intro @ex.eq_13 <| And.intro @ex.eq_14 <| And.intro @vop.eq_1 <| And.intro @vop.eq_2 <| And.intro @vop.eq_3 <| And.intro @vop.eq_4 <| And.intro @vop.eq_5 <| And.intro @vop.eq_6 <| And.intro @vop.eq_7 <| And.intro @vop.eq_8 <| And.intro @vop.eq_9 <| And.intro @vop.eq_10 <| And.intro @vop.eq_11 <| And.intro @vop.eq_12 <| And.intro @vop.eq_13 <| And.intro @vop.eq_14 <| And.intro @vop.eq_15 <| And.intro @vop.eq_16 <| And.intro @vop.eq_17 <| And.intro @vop.eq_18 <| And.intro @vop.eq_19 <| And.intro @vop.eq_20 <| And.intro @vop.eq_21 <| And.intro @vop.eq_22 <| And.intro @ev_t <| And.intro @ev_c <| And.intro @put_some <| And.intro @put_none <| And.intro @upd_same <| And.intro @upd_ne <| And.intro @updK_same <| And.intro @updK_ne <| And.intro @ne_eq.{1} <| And.intro @argE_at <| And.intro @List.getElem?_cons_zero.{0} <| And.intro @List.getElem?_cons_succ.{0} <| And.intro @Option.getD_some.{0} <| And.intro @PV.cells.eq_1 <| And.intro @PV.cells.eq_2 <| And.intro @List.all_cons.{0} <| And.intro @List.all_nil.{0} <| And.intro @PV.one.eq_1 <| And.intro @PV.one.eq_2 <| And.intro @PV.one.eq_3 <| And.intro @PV.one.eq_4 <| And.intro @PV.one.eq_5 <| And.intro @Bool.and_true <| And.intro @Bool.true_and <| And.intro @if_true.{1} <| And.intro @and_self <| And.intro @true_and <| @and_true) := And.intro @ex.eq_5 <| And.intro @ex.eq_6 <| And.intro @ex.eq_7 <| And.intro @ex.eq_8 <| And.intro @ex_store <| And.intro @stO_some <| And.intro @ex.eq_11 <| And.intro @ex.eq_12 <| And.intro @ex.eq_13 <| And.intro @ex.eq_14 <| And.intro @vop.eq_1 <| And.intro @vop.eq_2 <| And.intro @vop.eq_3 <| And.intro @vop.eq_4 <| And.intro @vop.eq_5 <| And.intro @vop.eq_6 <| And.intro @vop.eq_7 <| And.intro @vop.eq_8 <| And.intro @vop.eq_9 <| And.intro @vop.eq_10 <| And.intro @vop.eq_11 <| And.intro @vop.eq_12 <| And.intro @vop.eq_13 <| And.intro @vop.eq_14 <| And.intro @vop.eq_15 <| And.intro @vop.eq_16 <| And.intro @vop.eq_17 <| And.intro @vop.eq_18 <| And.intro @vop.eq_19 <| And.intro @vop.eq_20 <| And.intro @vop.eq_21 <| And.intro @vop.eq_22 <| And.intro @ev_t <| And.intro @ev_c <| And.intro @put_some <| And.intro @put_none <| And.intro @upd_same <| And.intro @upd_ne <| And.intro @updK_same <| And.intro @updK_ne <| And.intro @ne_eq.{1} <| And.intro @argE_at <| And.intro @List.getElem?_cons_zero.{0} <| And.intro @List.getElem?_cons_succ.{0} <| And.intro @Option.getD_some.{0} <| And.intro @PV.cells.eq_1 <| And.intro @PV.cells.eq_2 <| And.intro @List.all_cons.{0} <| And.intro @List.all_nil.{0} <| And.intro @PV.one.eq_1 <| And.intro @PV.one.eq_2 <| And.intro @PV.one.eq_3 <| And.intro @PV.one.eq_4 <| And.intro @PV.one.eq_5 <| And.intro @Bool.and_true <| And.intro @Bool.true_and <| And.intro @if_true.{1} <| And.intro @and_self <| And.intro @true_and <| @and_true
theorem lw2 : type_of% (And.intro @killS.eq_1 <| And.intro @killS.eq_2 <| And.intro @kill_box <| And.intro @kill_arr <| And.intro @e_box <| And.intro @e_arr <| And.intro @AK.tmp.eq_1 <| And.intro @AK.tmp.eq_2 <| And.intro @PV.killL.eq_1 <| And.intro @PV.killL.eq_2 <| And.intro @PV.kill.eq_1 <| And.intro @PV.kill.eq_2 <| And.intro @PV.kill.eq_3 <| And.intro @PV.kill.eq_4 <| And.intro @PV.kill.eq_5 <| And.intro @PV.kill.eq_6 <| And.intro @PV.kill.eq_7 <| And.intro @PV.kill.eq_8 <| And.intro @PV.kill.eq_9 <| And.intro @PV.kill.eq_10 <| And.intro @PV.kill.eq_11 <| And.intro @PV.kill.eq_12 <| And.intro @PV.kill.eq_13 <| And.intro @PV.kill.eq_14 <| And.intro @PV.kill.eq_15 <| And.intro @PV.kill.eq_16 <| And.intro @killE_at <| And.intro @newBox.eq_1 <| And.intro @newBox.eq_2 <| And.intro @initC.eq_1 <| And.intro @initC.eq_2 <| And.intro @initC.eq_3 <| And.intro @initA.eq_1 <| And.intro @initA.eq_2 <| And.intro @initA.eq_3 <| And.intro @ld.eq_1 <| And.intro @ld.eq_2 <| And.intro @ld.eq_3 <| And.intro @ld.eq_4 <| And.intro @getBox.eq_1 <| And.intro @getBox.eq_2 <| And.intro @getBox.eq_3 <| And.intro @setBox.eq_1 <| And.intro @setBox.eq_2 <| And.intro @setBox.eq_3 <| And.intro @getArr.eq_1 <| And.intro @getArr.eq_2 <| And.intro @getArr.eq_3 <| And.intro @setArr.eq_1 <| And.intro @setArr.eq_2 <| And.intro @setArr.eq_3 <| And.intro @pickC.eq_1 <| And.intro @pickC.eq_2 <| And.intro @Option.map_some.{0,0} <| And.intro @Option.map_none.{0,0} <| And.intro @PV.upN.eq_1 <| And.intro @PV.upN.eq_2 <| And.intro @binP.eq_1 <| And.intro @binP.eq_2 <| @binP.eq_3) := And.intro @killS.eq_1 <| And.intro @killS.eq_2 <| And.intro @kill_box <| And.intro @kill_arr <| And.intro @e_box <| And.intro @e_arr <| And.intro @AK.tmp.eq_1 <| And.intro @AK.tmp.eq_2 <| And.intro @PV.killL.eq_1 <| And.intro @PV.killL.eq_2 <| And.intro @PV.kill.eq_1 <| And.intro @PV.kill.eq_2 <| And.intro @PV.kill.eq_3 <| And.intro @PV.kill.eq_4 <| And.intro @PV.kill.eq_5 <| And.intro @PV.kill.eq_6 <| And.intro @PV.kill.eq_7 <| And.intro @PV.kill.eq_8 <| And.intro @PV.kill.eq_9 <| And.intro @PV.kill.eq_10 <| And.intro @PV.kill.eq_11 <| And.intro @PV.kill.eq_12 <| And.intro @PV.kill.eq_13 <| And.intro @PV.kill.eq_14 <| And.intro @PV.kill.eq_15 <| And.intro @PV.kill.eq_16 <| And.intro @killE_at <| And.intro @newBox.eq_1 <| And.intro @newBox.eq_2 <| And.intro @initC.eq_1 <| And.intro @initC.eq_2 <| And.intro @initC.eq_3 <| And.intro @initA.eq_1 <| And.intro @initA.eq_2 <| And.intro @initA.eq_3 <| And.intro @ld.eq_1 <| And.intro @ld.eq_2 <| And.intro @ld.eq_3 <| And.intro @ld.eq_4 <| And.intro @getBox.eq_1 <| And.intro @getBox.eq_2 <| And.intro @getBox.eq_3 <| And.intro @setBox.eq_1 <| And.intro @setBox.eq_2 <| And.intro @setBox.eq_3 <| And.intro @getArr.eq_1 <| And.intro @getArr.eq_2 <| And.intro @getArr.eq_3 <| And.intro @setArr.eq_1 <| And.intro @setArr.eq_2 <| And.intro @setArr.eq_3 <| And.intro @pickC.eq_1 <| And.intro @pickC.eq_2 <| And.intro @Option.map_some.{0,0} <| And.intro @Option.map_none.{0,0} <| And.intro @PV.upN.eq_1 <| And.intro @PV.upN.eq_2 <| And.intro @binP.eq_1 <| And.intro @binP.eq_2 <| @binP.eq_3
theorem lw3 : type_of% (And.intro @binP.eq_4 <| And.intro @binP.eq_5 <| And.intro @binP.eq_6 <| And.intro @binP.eq_7 <| And.intro @binP.eq_8 <| And.intro @binP.eq_9 <| And.intro @binP.eq_10 <| And.intro @binP.eq_11 <| And.intro @binP.eq_12 <| And.intro @binP.eq_13 <| And.intro @binP.eq_14 <| And.intro @binP.eq_15 <| And.intro @binP.eq_16 <| And.intro @binInt.eq_1 <| And.intro @binInt.eq_2 <| And.intro @binInt.eq_3 <| And.intro @binInt.eq_4 <| And.intro @binInt.eq_5 <| And.intro @binInt.eq_6 <| And.intro @binInt.eq_7 <| And.intro @binInt.eq_8 <| And.intro @binInt.eq_9 <| And.intro @binInt.eq_10 <| And.intro @binInt.eq_11 <| And.intro @binInt.eq_12 <| And.intro @binStr.eq_1 <| And.intro @binStr.eq_2 <| And.intro @binStr.eq_3 <| And.intro @binStr.eq_4 <| And.intro @binStr.eq_5 <| And.intro @binStr.eq_6 <| And.intro @binStr.eq_7 <| And.intro @binStr.eq_8 <| And.intro @binB.eq_1 <| And.intro @binB.eq_2 <| And.intro @unP.eq_1 <| And.intro @unP.eq_2 <| And.intro @unP.eq_3 <| And.intro @cnd_true <| And.intro @cnd_false <| And.intro @cnd_dec <| And.intro @cnd_not <| And.intro @not_false_eq_true <| And.intro @not_true_eq_false <| And.intro @Nat.zero_add <| And.intro @Nat.add_zero <| And.intro @fin_ret <| And.intro @fin_nor <| And.intro @List.length_cons.{0} <| And.intro @List.length_nil.{0} <| And.intro @List.drop_succ_cons.{0} <| And.intro @List.drop_zero.{0} <| And.intro @List.take_succ_cons.{0} <| And.intro @List.take_zero.{0} <| And.intro @fillP.eq_1 <| And.intro @fillP.eq_2 <| And.intro @setAt.eq_1 <| And.intro @setAt.eq_2 <| And.intro @List.set_cons_zero.{0} <| @List.set_cons_succ.{0}) := And.intro @binP.eq_4 <| And.intro @binP.eq_5 <| And.intro @binP.eq_6 <| And.intro @binP.eq_7 <| And.intro @binP.eq_8 <| And.intro @binP.eq_9 <| And.intro @binP.eq_10 <| And.intro @binP.eq_11 <| And.intro @binP.eq_12 <| And.intro @binP.eq_13 <| And.intro @binP.eq_14 <| And.intro @binP.eq_15 <| And.intro @binP.eq_16 <| And.intro @binInt.eq_1 <| And.intro @binInt.eq_2 <| And.intro @binInt.eq_3 <| And.intro @binInt.eq_4 <| And.intro @binInt.eq_5 <| And.intro @binInt.eq_6 <| And.intro @binInt.eq_7 <| And.intro @binInt.eq_8 <| And.intro @binInt.eq_9 <| And.intro @binInt.eq_10 <| And.intro @binInt.eq_11 <| And.intro @binInt.eq_12 <| And.intro @binStr.eq_1 <| And.intro @binStr.eq_2 <| And.intro @binStr.eq_3 <| And.intro @binStr.eq_4 <| And.intro @binStr.eq_5 <| And.intro @binStr.eq_6 <| And.intro @binStr.eq_7 <| And.intro @binStr.eq_8 <| And.intro @binB.eq_1 <| And.intro @binB.eq_2 <| And.intro @unP.eq_1 <| And.intro @unP.eq_2 <| And.intro @unP.eq_3 <| And.intro @cnd_true <| And.intro @cnd_false <| And.intro @cnd_dec <| And.intro @cnd_not <| And.intro @not_false_eq_true <| And.intro @not_true_eq_false <| And.intro @Nat.zero_add <| And.intro @Nat.add_zero <| And.intro @fin_ret <| And.intro @fin_nor <| And.intro @List.length_cons.{0} <| And.intro @List.length_nil.{0} <| And.intro @List.drop_succ_cons.{0} <| And.intro @List.drop_zero.{0} <| And.intro @List.take_succ_cons.{0} <| And.intro @List.take_zero.{0} <| And.intro @fillP.eq_1 <| And.intro @fillP.eq_2 <| And.intro @setAt.eq_1 <| And.intro @setAt.eq_2 <| And.intro @List.set_cons_zero.{0} <| @List.set_cons_succ.{0}
theorem lw4 : type_of% (And.intro @storeP.eq_1 <| And.intro @storeP.eq_2 <| And.intro @storeP.eq_3 <| And.intro @stCells.eq_1 <| And.intro @stCells.eq_2 <| And.intro @stCell.eq_1 <| And.intro @stCell.eq_2 <| And.intro @stCell.eq_3 <| And.intro @stCell.eq_4 <| And.intro @PV.dnN.eq_1 <| And.intro @PV.dnN.eq_2 <| And.intro @PV.dn.eq_1 <| And.intro @PV.dn.eq_2 <| And.intro @PV.dn.eq_3 <| And.intro @PV.dn.eq_4 <| And.intro @PV.dn.eq_5 <| And.intro @PV.dn.eq_6 <| And.intro @PV.dn.eq_7 <| And.intro @PV.dn.eq_8 <| And.intro @PV.dn.eq_9 <| And.intro @PV.dn.eq_10 <| And.intro @PV.dn.eq_11 <| And.intro @PV.dn.eq_12 <| And.intro @PV.dn.eq_13 <| And.intro @PV.dn.eq_14 <| And.intro @PV.dn.eq_15 <| And.intro @PV.dn.eq_16 <| And.intro @PV.dn.eq_17 <| And.intro @PV.dn.eq_18 <| And.intro @PV.dn.eq_19 <| And.intro @PV.dnL.eq_1 <| And.intro @PV.dnL.eq_2 <| And.intro @retOf.eq_1 <| And.intro @rdRes.eq_1 <| And.intro @rdRes.eq_2 <| And.intro @rdRes.eq_3 <| And.intro @retL.eq_1 <| And.intro @retL.eq_2 <| And.intro @ret1.eq_1 <| And.intro @ret1.eq_2 <| And.intro @ret1.eq_3 <| And.intro @ret1.eq_4 <| And.intro @retV.eq_1 <| And.intro @hand.eq_1 <| And.intro @hand.eq_2 <| And.intro @hand1.eq_1 <| And.intro @hand1.eq_2 <| And.intro @hand1.eq_3 <| And.intro @hand1.eq_4 <| And.intro @handL.eq_1 <| And.intro @handL.eq_2 <| And.intro @handA.eq_1 <| And.intro @handA.eq_2 <| And.intro @callP.eq_1 <| And.intro @callP.eq_2 <| And.intro @List.append_nil.{0} <| And.intro @List.nil_append.{0} <| And.intro @List.any_cons.{0} <| And.intro @List.any_nil.{0} <| @PV.hasSl.eq_1) := And.intro @storeP.eq_1 <| And.intro @storeP.eq_2 <| And.intro @storeP.eq_3 <| And.intro @stCells.eq_1 <| And.intro @stCells.eq_2 <| And.intro @stCell.eq_1 <| And.intro @stCell.eq_2 <| And.intro @stCell.eq_3 <| And.intro @stCell.eq_4 <| And.intro @PV.dnN.eq_1 <| And.intro @PV.dnN.eq_2 <| And.intro @PV.dn.eq_1 <| And.intro @PV.dn.eq_2 <| And.intro @PV.dn.eq_3 <| And.intro @PV.dn.eq_4 <| And.intro @PV.dn.eq_5 <| And.intro @PV.dn.eq_6 <| And.intro @PV.dn.eq_7 <| And.intro @PV.dn.eq_8 <| And.intro @PV.dn.eq_9 <| And.intro @PV.dn.eq_10 <| And.intro @PV.dn.eq_11 <| And.intro @PV.dn.eq_12 <| And.intro @PV.dn.eq_13 <| And.intro @PV.dn.eq_14 <| And.intro @PV.dn.eq_15 <| And.intro @PV.dn.eq_16 <| And.intro @PV.dn.eq_17 <| And.intro @PV.dn.eq_18 <| And.intro @PV.dn.eq_19 <| And.intro @PV.dnL.eq_1 <| And.intro @PV.dnL.eq_2 <| And.intro @retOf.eq_1 <| And.intro @rdRes.eq_1 <| And.intro @rdRes.eq_2 <| And.intro @rdRes.eq_3 <| And.intro @retL.eq_1 <| And.intro @retL.eq_2 <| And.intro @ret1.eq_1 <| And.intro @ret1.eq_2 <| And.intro @ret1.eq_3 <| And.intro @ret1.eq_4 <| And.intro @retV.eq_1 <| And.intro @hand.eq_1 <| And.intro @hand.eq_2 <| And.intro @hand1.eq_1 <| And.intro @hand1.eq_2 <| And.intro @hand1.eq_3 <| And.intro @hand1.eq_4 <| And.intro @handL.eq_1 <| And.intro @handL.eq_2 <| And.intro @handA.eq_1 <| And.intro @handA.eq_2 <| And.intro @callP.eq_1 <| And.intro @callP.eq_2 <| And.intro @List.append_nil.{0} <| And.intro @List.nil_append.{0} <| And.intro @List.any_cons.{0} <| And.intro @List.any_nil.{0} <| @PV.hasSl.eq_1
theorem lw5 : type_of% (And.intro @PV.hasSl.eq_2 <| And.intro @PV.isSl.eq_1 <| And.intro @PV.isSl.eq_2 <| And.intro @Bool.or_false <| And.intro @Bool.false_or <| And.intro @Bool.false_eq_true <| And.intro @if_false.{1} <| And.intro @slcP.eq_1 <| And.intro @slcP.eq_2 <| And.intro @slcP.eq_3 <| And.intro @slcP.eq_4 <| And.intro @slcGo.eq_1 <| And.intro @fullOf.eq_1 <| And.intro @fullOf.eq_2 <| And.intro @idx.eq_1 <| And.intro @idx.eq_2 <| And.intro @idx.eq_3 <| And.intro @iaddrP.eq_1 <| And.intro @iaddrP.eq_2 <| And.intro @iaddrP.eq_3 <| And.intro @iaddrP.eq_4 <| And.intro @lenP.eq_1 <| And.intro @lenP.eq_2 <| And.intro @lenP.eq_3 <| And.intro @lenP.eq_4 <| And.intro @lenS.eq_1 <| And.intro @lenS.eq_2 <| And.intro @appendP.eq_1 <| And.intro @newArr.eq_1 <| And.intro @view.eq_1 <| And.intro @view.eq_2 <| And.intro @view.eq_3 <| And.intro @view.eq_4 <| And.intro @srcRows.eq_1 <| And.intro @srcRows.eq_2 <| And.intro @srcRows.eq_3 <| And.intro @bigRow.eq_1 <| And.intro @okA.eq_1 <| And.intro @okA.eq_2 <| And.intro @okA.eq_3 <| And.intro @eqCells.eq_1 <| And.intro @eqCells.eq_2 <| And.intro @eqCells.eq_3 <| And.intro @eqCells.eq_4 <| And.intro @eqCells.eq_5 <| And.intro @convP.eq_1 <| And.intro @convP.eq_2 <| And.intro @convP.eq_3 <| And.intro @convP.eq_4 <| And.intro @convP.eq_5 <| And.intro @slsP.eq_1 <| And.intro @slsP.eq_2 <| And.intro @gd_tb <| And.intro @gd_fb <| And.intro @List.cons_append.{0} <| And.intro @Option.getD_none.{0} <| And.intro @List.getElem?_nil.{0} <| And.intro @AK.slot.injEq <| And.intro @AK.cell.injEq <| @decide_true) := And.intro @PV.hasSl.eq_2 <| And.intro @PV.isSl.eq_1 <| And.intro @PV.isSl.eq_2 <| And.intro @Bool.or_false <| And.intro @Bool.false_or <| And.intro @Bool.false_eq_true <| And.intro @if_false.{1} <| And.intro @slcP.eq_1 <| And.intro @slcP.eq_2 <| And.intro @slcP.eq_3 <| And.intro @slcP.eq_4 <| And.intro @slcGo.eq_1 <| And.intro @fullOf.eq_1 <| And.intro @fullOf.eq_2 <| And.intro @idx.eq_1 <| And.intro @idx.eq_2 <| And.intro @idx.eq_3 <| And.intro @iaddrP.eq_1 <| And.intro @iaddrP.eq_2 <| And.intro @iaddrP.eq_3 <| And.intro @iaddrP.eq_4 <| And.intro @lenP.eq_1 <| And.intro @lenP.eq_2 <| And.intro @lenP.eq_3 <| And.intro @lenP.eq_4 <| And.intro @lenS.eq_1 <| And.intro @lenS.eq_2 <| And.intro @appendP.eq_1 <| And.intro @newArr.eq_1 <| And.intro @view.eq_1 <| And.intro @view.eq_2 <| And.intro @view.eq_3 <| And.intro @view.eq_4 <| And.intro @srcRows.eq_1 <| And.intro @srcRows.eq_2 <| And.intro @srcRows.eq_3 <| And.intro @bigRow.eq_1 <| And.intro @okA.eq_1 <| And.intro @okA.eq_2 <| And.intro @okA.eq_3 <| And.intro @eqCells.eq_1 <| And.intro @eqCells.eq_2 <| And.intro @eqCells.eq_3 <| And.intro @eqCells.eq_4 <| And.intro @eqCells.eq_5 <| And.intro @convP.eq_1 <| And.intro @convP.eq_2 <| And.intro @convP.eq_3 <| And.intro @convP.eq_4 <| And.intro @convP.eq_5 <| And.intro @slsP.eq_1 <| And.intro @slsP.eq_2 <| And.intro @gd_tb <| And.intro @gd_fb <| And.intro @List.cons_append.{0} <| And.intro @Option.getD_none.{0} <| And.intro @List.getElem?_nil.{0} <| And.intro @AK.slot.injEq <| And.intro @AK.cell.injEq <| @decide_true
theorem lw6 : type_of% (And.intro @decide_false <| And.intro @Bool.not_true <| And.intro @Bool.not_false <| And.intro @Option.isNone_none.{0} <| And.intro @Option.isSome_none.{0} <| And.intro @Option.isSome_some.{0} <| And.intro @Option.isNone_some.{0} <| And.intro @prep.eq_1 <| And.intro @prep.eq_2 <| And.intro @Ac.kill.eq_1 <| And.intro @PV.int.injEq <| And.intro @beq_self_eq_true.{0} <| And.intro @decide_eq_true_eq <| And.intro @Bool.not_eq_true <| And.intro @decide_eq_false_iff_not <| And.intro @true_or <| And.intro @or_true <| And.intro @false_or <| And.intro @or_false <| And.intro @false_and <| And.intro @and_false <| And.intro @Bool.not_not <| And.intro @Classical.not_not <| And.intro @Bool.false_and <| And.intro @Bool.and_false <| And.intro @Bool.and_self <| And.intro @ite_self.{1} <| And.intro @PV.pure.eq_1 <| And.intro @PV.pure.eq_2 <| And.intro @PV.pure.eq_3 <| And.intro @PV.pure.eq_4 <| And.intro @PV.pure.eq_5 <| And.intro @PV.pure.eq_6 <| And.intro @PV.pure.eq_7 <| And.intro @PV.pure.eq_8 <| And.intro @PV.pure.eq_9 <| And.intro @PV.plain.eq_1 <| And.intro @PV.plain.eq_2 <| And.intro @PV.plain.eq_3 <| And.intro @PV.plain.eq_4 <| And.intro @PV.plain.eq_5 <| And.intro @PV.plain.eq_6 <| And.intro @PV.plain.eq_7 <| And.intro @PV.plain.eq_8 <| And.intro @PV.plain.eq_9 <| And.intro @PV.plainL.eq_1 <| And.intro @PV.plainL.eq_2 <| And.intro @Ret.plain.eq_1 <| And.intro @Ret.plain.eq_2 <| And.intro @allPure.eq_1 <| And.intro @List.isEmpty_nil.{0} <| And.intro @List.isEmpty_cons.{0} <| And.intro @Bool.or_true <| And.intro @Bool.true_or <| And.intro @encL_length <| And.intro @List.length_map.{0,0} <| And.intro @encL_get <| And.intro @List.getElem?_map.{0,0} <| And.intro @encL_drop <| @encL_take) := And.intro @decide_false <| And.intro @Bool.not_true <| And.intro @Bool.not_false <| And.intro @Option.isNone_none.{0} <| And.intro @Option.isSome_none.{0} <| And.intro @Option.isSome_some.{0} <| And.intro @Option.isNone_some.{0} <| And.intro @prep.eq_1 <| And.intro @prep.eq_2 <| And.intro @Ac.kill.eq_1 <| And.intro @PV.int.injEq <| And.intro @beq_self_eq_true.{0} <| And.intro @decide_eq_true_eq <| And.intro @Bool.not_eq_true <| And.intro @decide_eq_false_iff_not <| And.intro @true_or <| And.intro @or_true <| And.intro @false_or <| And.intro @or_false <| And.intro @false_and <| And.intro @and_false <| And.intro @Bool.not_not <| And.intro @Classical.not_not <| And.intro @Bool.false_and <| And.intro @Bool.and_false <| And.intro @Bool.and_self <| And.intro @ite_self.{1} <| And.intro @PV.pure.eq_1 <| And.intro @PV.pure.eq_2 <| And.intro @PV.pure.eq_3 <| And.intro @PV.pure.eq_4 <| And.intro @PV.pure.eq_5 <| And.intro @PV.pure.eq_6 <| And.intro @PV.pure.eq_7 <| And.intro @PV.pure.eq_8 <| And.intro @PV.pure.eq_9 <| And.intro @PV.plain.eq_1 <| And.intro @PV.plain.eq_2 <| And.intro @PV.plain.eq_3 <| And.intro @PV.plain.eq_4 <| And.intro @PV.plain.eq_5 <| And.intro @PV.plain.eq_6 <| And.intro @PV.plain.eq_7 <| And.intro @PV.plain.eq_8 <| And.intro @PV.plain.eq_9 <| And.intro @PV.plainL.eq_1 <| And.intro @PV.plainL.eq_2 <| And.intro @Ret.plain.eq_1 <| And.intro @Ret.plain.eq_2 <| And.intro @allPure.eq_1 <| And.intro @List.isEmpty_nil.{0} <| And.intro @List.isEmpty_cons.{0} <| And.intro @Bool.or_true <| And.intro @Bool.true_or <| And.intro @encL_length <| And.intro @List.length_map.{0,0} <| And.intro @encL_get <| And.intro @List.getElem?_map.{0,0} <| And.intro @encL_drop <| @encL_take
theorem lw7 : type_of% (And.intro @map_drop' <| And.intro @map_take' <| And.intro @take_len <| And.intro @take_encL_app <| And.intro @take_map_app <| And.intro @nat_nonneg <| And.intro @Int.toNat_natCast <| And.intro @cnd_b <| And.intro @cnd_and <| And.intro @wrap_i64 <| And.intro @bytesOf.eq_1 <| And.intro @bytesOf.eq_2 <| And.intro @bytesOf.eq_3 <| And.intro @bytesOf_eB <| And.intro @bytes_eB <| And.intro @eI.eq_1 <| And.intro @eK.eq_1 <| And.intro @eB.eq_1 <| And.intro @eS.eq_1 <| And.intro @eO.eq_1 <| And.intro @rowsP.eq_1 <| And.intro @rowsP.eq_2 <| And.intro @List.replicate.eq_1.{0} <| And.intro @List.replicate.eq_2.{0} <| And.intro @List.length_append.{0} <| And.intro @encL_nil <| And.intro @encL_cons <| And.intro @encL_app <| @List.map_append.{0,0}) := And.intro @map_drop' <| And.intro @map_take' <| And.intro @take_len <| And.intro @take_encL_app <| And.intro @take_map_app <| And.intro @nat_nonneg <| And.intro @Int.toNat_natCast <| And.intro @cnd_b <| And.intro @cnd_and <| And.intro @wrap_i64 <| And.intro @bytesOf.eq_1 <| And.intro @bytesOf.eq_2 <| And.intro @bytesOf.eq_3 <| And.intro @bytesOf_eB <| And.intro @bytes_eB <| And.intro @eI.eq_1 <| And.intro @eK.eq_1 <| And.intro @eB.eq_1 <| And.intro @eS.eq_1 <| And.intro @eO.eq_1 <| And.intro @rowsP.eq_1 <| And.intro @rowsP.eq_2 <| And.intro @List.replicate.eq_1.{0} <| And.intro @List.replicate.eq_2.{0} <| And.intro @List.length_append.{0} <| And.intro @encL_nil <| And.intro @encL_cons <| And.intro @encL_app <| @List.map_append.{0,0}
theorem nat_le_self (n : Nat) : (n ≤ n) = True := by simp
theorem ex_w {cl : Oracle} {kd : Bool} {d : Option Nat} {o : VO} {ac : Ac} : ex cl kd d (.w o) ac = vo d ac (vop ac.ev [] o) := rfl
theorem thF_nor {SP : Prg} {ac : Ac} {ops : List SOper} {tot : List Bool} : thF SP (.nor ac) ops tot = evD (call SP) ops tot (prep ops ac) := rfl
theorem joinA_nil (a : List PV) : joinA a [] = a := by simp [joinA]
theorem joinA_meth (a vs : List PV) : joinA a [.tup vs] = vs ++ a := rfl
theorem joinA_two (a : List PV) (u v : PV) (r : List PV) : joinA a (u :: v :: r) = a ++ (u :: v :: r) := by cases u <;> rfl
theorem joinA_bool (a : List PV) (b : Bool) : joinA a [.bool b] = a ++ [.bool b] := rfl
theorem joinA_int (a : List PV) (k : IntKind) (n : Int) : joinA a [.int k n] = a ++ [.int k n] := rfl
theorem joinA_str (a : List PV) (s : List UInt8) : joinA a [.str s] = a ++ [.str s] := rfl
theorem joinA_nils (a : List PV) (z : Nat) : joinA a [.nils z] = a ++ [.nils z] := rfl
theorem joinA_list (a : List PV) (z : Nat) (r : List (List PV)) (f : Bool) : joinA a [.list z r f] = a ++ [.list z r f] := rfl
theorem joinA_agg (a : List PV) (vs : List PV) : joinA a [.agg vs] = a ++ [.agg vs] := rfl
theorem joinA_ptr (a : List PV) (n t o : Nat) : joinA a [.ptr n t o] = a ++ [.ptr n t o] := rfl
theorem joinA_rowp (a : List PV) (r : List PV) (o : Nat) : joinA a [.rowp r o] = a ++ [.rowp r o] := rfl
theorem joinA_elem (a : List PV) (n : Nat) (k : AK) (i o v g : Nat) : joinA a [.elem n k i o v g] = a ++ [.elem n k i o v g] := rfl
theorem joinA_sl (a : List PV) (n : Nat) (k : AK) (o l v g : Nat) (f : Bool) : joinA a [.sl n k o l v g f] = a ++ [.sl n k o l v g f] := rfl
theorem joinA_func (a : List PV) (f : Nat) (c : List PV) : joinA a [.func f c] = a ++ [.func f c] := rfl
theorem joinA_iface (a : List PV) (t : Nat) (v : PV) : joinA a [.iface t v] = a ++ [.iface t v] := rfl
theorem joinA_nili (a : List PV)  : joinA a [.nili] = a ++ [.nili] := rfl
theorem lw : type_of% (And.intro nat_le_self <| And.intro @ex_w <| And.intro @E_sreg <| And.intro @thF_nor <| And.intro @frzC.eq_1 <| And.intro @frzC.eq_2 <| And.intro @o_upN_func <| And.intro @app_lit <| And.intro @joinA_nil <| And.intro @joinA_meth <| And.intro @joinA_two <| And.intro @joinA_bool <| And.intro @joinA_int <| And.intro @joinA_str <| And.intro @joinA_nils <| And.intro @joinA_list <| And.intro @joinA_agg <| And.intro @joinA_ptr <| And.intro @joinA_rowp <| And.intro @joinA_elem <| And.intro @joinA_sl <| And.intro @joinA_func <| And.intro @joinA_iface <| And.intro @joinA_nili <| And.intro @vop.eq_23 <| And.intro @vop.eq_24 <| And.intro @ac0.eq_1 <| And.intro @o_length_setBox <| And.intro @o_length_setArr <| And.intro @o_getBox_setBox <| And.intro @o_getArr_setArr <| And.intro @o_getBox_setArr <| And.intro @o_getArr_setBox <| And.intro @o_setBox_setBox <| And.intro @o_setArr_setArr <| And.intro @o_setBox_setArr <| And.intro @o_setBox_same <| And.intro @o_setArr_same <| And.intro @o_upN_int <| And.intro @o_upN_bool <| And.intro @o_upN_str <| And.intro @o_upN_list <| And.intro @o_upN_sl <| And.intro @o_upN_agg <| And.intro @o_dnN_int <| And.intro @o_dnN_bool <| And.intro @o_dnN_str <| And.intro @succ_ne_zero' <| And.intro @o_killL_up <| And.intro @AK.isCell.eq_1 <| And.intro @AK.isCell.eq_2 <| And.intro lw0 <| And.intro lw1 <| And.intro lw2 <| And.intro lw3 <| And.intro lw4 <| And.intro lw5 <| And.intro lw6 <| lw7) := And.intro nat_le_self <| And.intro @ex_w <| And.intro @E_sreg <| And.intro @thF_nor <| And.intro @frzC.eq_1 <| And.intro @frzC.eq_2 <| And.intro @o_upN_func <| And.intro @app_lit <| And.intro @joinA_nil <| And.intro @joinA_meth <| And.intro @joinA_two <| And.intro @joinA_bool <| And.intro @joinA_int <| And.intro @joinA_str <| And.intro @joinA_nils <| And.intro @joinA_list <| And.intro @joinA_agg <| And.intro @joinA_ptr <| And.intro @joinA_rowp <| And.intro @joinA_elem <| And.intro @joinA_sl <| And.intro @joinA_func <| And.intro @joinA_iface <| And.intro @joinA_nili <| And.intro @vop.eq_23 <| And.intro @vop.eq_24 <| And.intro @ac0.eq_1 <| And.intro @o_length_setBox <| And.intro @o_length_setArr <| And.intro @o_getBox_setBox <| And.intro @o_getArr_setArr <| And.intro @o_getBox_setArr <| And.intro @o_getArr_setBox <| And.intro @o_setBox_setBox <| And.intro @o_setArr_setArr <| And.intro @o_setBox_setArr <| And.intro @o_setBox_same <| And.intro @o_setArr_same <| And.intro @o_upN_int <| And.intro @o_upN_bool <| And.intro @o_upN_str <| And.intro @o_upN_list <| And.intro @o_upN_sl <| And.intro @o_upN_agg <| And.intro @o_dnN_int <| And.intro @o_dnN_bool <| And.intro @o_dnN_str <| And.intro @succ_ne_zero' <| And.intro @o_killL_up <| And.intro @AK.isCell.eq_1 <| And.intro @AK.isCell.eq_2 <| And.intro lw0 <| And.intro lw1 <| And.intro lw2 <| And.intro lw3 <| And.intro lw4 <| And.intro lw5 <| And.intro lw6 <| lw7
theorem nil_all {p : Nat → Prop} : (∀ x ∈ ([] : List Nat), p x) = True := by simp
theorem pure_ptr (n t o : Nat) : (PV.ptr n t o).pure = false := rfl
theorem fin_pan {res : List RX} {v : PV} {S : Sto} : fin res (.pan v S) = match v.dn with | some v => .pan v S.tail | none => .bad := rfl
theorem nxT_ok {K : Ac → EO} {ac : Ac} : nxT K (.ok ac) = K ac := rfl
theorem nxT_pan {K : Ac → EO} {v : PV} {S : Sto} : nxT K (.pan v S) = .pan v S := rfl
theorem sameE_nor {ds : List Nat} {a b : Ac} : sameE ds (.nor a) (.nor b) = (a.S = b.S ∧ ∀ d ∈ ds, a.e d = b.e d) := rfl
theorem sameE_pan {ds : List Nat} {v v' : PV} {S S' : Sto} : sameE ds (.pan v S) (.pan v' S') = (v = v' ∧ S = S') := rfl
theorem stpI_eq {cl : Oracle} {l : List SOper} {i : Nat} {ac : Ac} : stpI cl l i ac = match l[i]? with | some o => stp cl false o ac | none => .bad := rfl
theorem lx : type_of% (And.intro @po_none <| And.intro @po_some <| And.intro @fin_pan <| And.intro @E_treg <| And.intro @evT.eq_1 <| And.intro @evT.eq_2 <| And.intro @evTs.eq_1 <| And.intro @evTs.eq_2 <| And.intro @nxT_ok <| And.intro @nxT_pan <| And.intro @sameE_nor <| And.intro @sameE_pan <| And.intro @stpI_eq <| And.intro @List.forall_mem_cons.{0} <| And.intro @nil_all <| And.intro @pure_ptr <| And.intro (show IntKind.u64.bits = 64 from rfl) <| And.intro (show min 1 64 = 1 from rfl) <| And.intro (show (2 : Int) ^ 1 = 2 from rfl) <| And.intro @decide_not <| And.intro @isnileP_eql <| And.intro @isnileP_neq <| And.intro @Option.bind_some.{0,0} <| And.intro @UInt8.toNat_zero <| And.intro @UInt8.ofNat_toNat <| And.intro @Int.natCast_zero <| And.intro @Int.ofNat_eq_natCast <| And.intro @Nat.zero_le <| And.intro @Nat.sub_zero <| And.intro @take_app3 <| And.intro @set_get <| And.intro @take_set <| And.intro @List.length_set.{0} <| And.intro @List.map_set.{0,0} <| @Int.cast_ofNat_Int) := And.intro @po_none <| And.intro @po_some <| And.intro @fin_pan <| And.intro @E_treg <| And.intro @evT.eq_1 <| And.intro @evT.eq_2 <| And.intro @evTs.eq_1 <| And.intro @evTs.eq_2 <| And.intro @nxT_ok <| And.intro @nxT_pan <| And.intro @sameE_nor <| And.intro @sameE_pan <| And.intro @stpI_eq <| And.intro @List.forall_mem_cons.{0} <| And.intro @nil_all <| And.intro @pure_ptr <| And.intro (show IntKind.u64.bits = 64 from rfl) <| And.intro (show min 1 64 = 1 from rfl) <| And.intro (show (2 : Int) ^ 1 = 2 from rfl) <| And.intro @decide_not <| And.intro @isnileP_eql <| And.intro @isnileP_neq <| And.intro @Option.bind_some.{0,0} <| And.intro @UInt8.toNat_zero <| And.intro @UInt8.ofNat_toNat <| And.intro @Int.natCast_zero <| And.intro @Int.ofNat_eq_natCast <| And.intro @Nat.zero_le <| And.intro @Nat.sub_zero <| And.intro @take_app3 <| And.intro @set_get <| And.intro @take_set <| And.intro @List.length_set.{0} <| And.intro @List.map_set.{0,0} <| @Int.cast_ofNat_Int
end Go.Proofs.YtfbcnpbhhooapaaGreatDoor.M

/- The program's structs as data, and their cells. Printed by a program of this session (lift.py). -/
namespace Go.Proofs.YtfbcnpbhhooapaaGreatDoor.M
open Go
structure Part where
  Ref : Bool
  Text : List UInt8
def ePart (x : Part) : List PV := [.bool x.Ref, .str x.Text]
structure Node where
  Kind : Int
  Num : Int
  Text : List UInt8
  Parts : List Part
  Kids : List Int
def eNode (x : Node) : List PV := [.int .i64 x.Kind, .int .i64 x.Num, .str x.Text, .list 2 (x.Parts.map ePart) false, .list 1 (x.Kids.map eI) false]
structure Attr where
  Name : List UInt8
  Expr : List Node
def eAttr (x : Attr) : List PV := [.str x.Name, .list 5 (x.Expr.map eNode) false]
structure Block where
  Kind : Int
  Label : List UInt8
  Attrs : List Attr
  Blocks : List Block
mutual
def eBlock : Block → List PV
  | .mk a0 a1 a2 a3 => [.int .i64 a0, .str a1, .list 2 (a2.map eAttr) false, .list 4 (eBlocks a3) false]
def eBlocks : List Block → List (List PV)
  | [] => []
  | b :: r => eBlock b :: eBlocks r
end
theorem eBlocks_eq : ∀ l, eBlocks l = l.map eBlock
  | [] => rfl
  | b :: r => by rw [eBlocks, eBlocks_eq r]; rfl
theorem eBlock_eq (x : Block) : eBlock x = [.int .i64 x.Kind, .str x.Label, .list 2 (x.Attrs.map eAttr) false, .list 4 (x.Blocks.map eBlock) false] := by cases x; rw [eBlock, eBlocks_eq]
structure Parsed where
  L : List Block
  E : Int
def eParsed (x : Parsed) : List PV := [.list 4 (x.L.map eBlock) false, .int .i64 x.E]
structure Read where
  L : List Node
  E : Int
def eRead (x : Read) : List PV := [.list 5 (x.L.map eNode) false, .int .i64 x.E]
structure Token where
  Kind : Int
  Text : List UInt8
  Num : Int
  Parts : List Part
  At : Int
def eToken (x : Token) : List PV := [.int .i64 x.Kind, .str x.Text, .int .i64 x.Num, .list 2 (x.Parts.map ePart) false, .int .i64 x.At]
structure PTokens where
  l : List Token
  pos : Int
def ePTokens (x : PTokens) : List PV := [.list 5 (x.l.map eToken) false, .int .i64 x.pos]
structure PExprs where
  tokens : PTokens
  out : List Node
  deep : Int
def ePExprs (x : PExprs) : List PV := [.list 5 (x.tokens.l.map eToken) false, .int .i64 x.tokens.pos, .list 5 (x.out.map eNode) false, .int .i64 x.deep]
structure PBlocks where
  exprs : PExprs
def ePBlocks (x : PBlocks) : List PV := [.list 5 (x.exprs.tokens.l.map eToken) false, .int .i64 x.exprs.tokens.pos, .list 5 (x.exprs.out.map eNode) false, .int .i64 x.exprs.deep]
structure SWriter where
  out : List UInt8
def eSWriter (x : SWriter) : List PV := [.list 1 (x.out.map eB) false]
structure Tokens where
  L : List Token
  E : Int
def eTokens (x : Tokens) : List PV := [.list 5 (x.L.map eToken) false, .int .i64 x.E]
structure reader where
  l : List Token
  i : Int
  deep : Int
  e : Int
  out : List Node
def ereader (x : reader) : List PV := [.list 5 (x.l.map eToken) false, .int .i64 x.i, .int .i64 x.deep, .int .i64 x.e, .list 5 (x.out.map eNode) false]
structure SBlocks where
  writer : SWriter
def eSBlocks (x : SBlocks) : List PV := [.list 1 (x.writer.out.map eB) false]
structure LText where
  left : List UInt8
  pos : Int
def eLText (x : LText) : List PV := [.str x.left, .int .i64 x.pos]
structure LTokens where
  text : LText
  out : List Token
def eLTokens (x : LTokens) : List PV := [.str x.text.left, .int .i64 x.text.pos, .list 5 (x.out.map eToken) false]
/-- All cells' laws in one. -/
theorem le : type_of% (And.intro @enc_eq <| And.intro @eI.eq_1 <| And.intro @eK.eq_1 <| And.intro @eB.eq_1 <| And.intro @eS.eq_1 <| And.intro @eO.eq_1 <| And.intro @eF.eq_1 <| And.intro @eLB.eq_1 <| And.intro @eLS.eq_1 <| And.intro @V_k <| And.intro @V_n <| And.intro @V_s <| And.intro @V_l <| And.intro @encL_nil <| And.intro @encL_cons <| And.intro @encL_app <| And.intro @List.map_cons.{0,0} <| And.intro @List.map_nil.{0,0} <| And.intro @List.map_append.{0,0} <| And.intro @ePart.eq_1 <| And.intro @eNode.eq_1 <| And.intro @eAttr.eq_1 <| And.intro @eParsed.eq_1 <| And.intro @eRead.eq_1 <| And.intro @eToken.eq_1 <| And.intro @ePTokens.eq_1 <| And.intro @ePExprs.eq_1 <| And.intro @ePBlocks.eq_1 <| And.intro @eSWriter.eq_1 <| And.intro @eTokens.eq_1 <| And.intro @ereader.eq_1 <| And.intro @eSBlocks.eq_1 <| And.intro @eLText.eq_1 <| And.intro @eLTokens.eq_1 <| @eBlock_eq) := And.intro @enc_eq <| And.intro @eI.eq_1 <| And.intro @eK.eq_1 <| And.intro @eB.eq_1 <| And.intro @eS.eq_1 <| And.intro @eO.eq_1 <| And.intro @eF.eq_1 <| And.intro @eLB.eq_1 <| And.intro @eLS.eq_1 <| And.intro @V_k <| And.intro @V_n <| And.intro @V_s <| And.intro @V_l <| And.intro @encL_nil <| And.intro @encL_cons <| And.intro @encL_app <| And.intro @List.map_cons.{0,0} <| And.intro @List.map_nil.{0,0} <| And.intro @List.map_append.{0,0} <| And.intro @ePart.eq_1 <| And.intro @eNode.eq_1 <| And.intro @eAttr.eq_1 <| And.intro @eParsed.eq_1 <| And.intro @eRead.eq_1 <| And.intro @eToken.eq_1 <| And.intro @ePTokens.eq_1 <| And.intro @ePExprs.eq_1 <| And.intro @ePBlocks.eq_1 <| And.intro @eSWriter.eq_1 <| And.intro @eTokens.eq_1 <| And.intro @ereader.eq_1 <| And.intro @eSBlocks.eq_1 <| And.intro @eLText.eq_1 <| And.intro @eLTokens.eq_1 <| @eBlock_eq
/-- A goal that is reckoned with facts. -/
theorem aa {p q : Prop} (a : p) (b : q) : p ∧ q := ⟨a, b⟩
theorem fi {p F : Prop} (f : F) (h : F → p := by intro f; simp only [f, lw, lx, le, Nat.reduceMul, UInt8.reduceToNat, reduceIte, reduceCtorEq, Nat.reduceEqDiff, Nat.reduceAdd, Nat.reduceLeDiff, Nat.reduceSub, Nat.reduceLT, Int.reduceEq, Int.reduceLT, Int.reduceLE, Int.reduceToNat, Int.reduceAdd, Int.reduceSub, Int.reduceMul, Int.reduceNeg]) : p := h f
end Go.Proofs.YtfbcnpbhhooapaaGreatDoor.M

/- Functions that recover. Printed by a program of this session (rcv.py). -/
namespace Go.Proofs.YtfbcnpbhhooapaaGreatDoor.M
open Go
noncomputable section
def rcv_parse_reading : RecF := ⟨2, (.seq (.reg [ ⟨(some 4), none, (.alloc [(.int .i64 0)])⟩]) (.seq (.reg [ ⟨(some 7), none, (.v (.mov (.t 0)))⟩, ⟨(some 8), none, (.call (.c (.func 60 [])) [(.t 7)])⟩, ⟨(some 6), none, (.v (.mov (.t 8)))⟩, ⟨(some 9), none, (.v (.extract 0 (.t 6)))⟩, ⟨(some 10), none, (.v (.extract 1 (.t 6)))⟩, ⟨(some 5), none, (.v (.mov (.t 9)))⟩, ⟨none, none, (.store 1 (.t 4) (.t 10))⟩]) (.seq (.seq (.reg [ ⟨(some 11), none, (.v (.load none (.t 4)))⟩, ⟨(some 12), none, (.v (.bin .neq (.t 11) (.c (.int .i64 0))))⟩]) (.cond (.t 12) (.seq (.reg [ ⟨(some 13), none, (.v (.load none (.t 4)))⟩, ⟨none, none, (.store 1 (.t 4) (.t 13))⟩]) .ret) .skip)) .skip))), 14, 4, [⟨(some 15), none, (.v (.mov (.t 1)))⟩, ⟨(some 16), none, (.v (.mov (.t 5)))⟩, ⟨(some 17), none, (.v (.build [(.nils 5), (.int .i64 0)] [(0, 1, (.t 16))]))⟩, ⟨(some 18), none, (.v (.build [(.nils 5), (.int .i64 0), (.nils 5), (.int .i64 0)] [(0, 2, (.t 17))]))⟩, ⟨(some 19), none, (.v (.build [(.nils 5), (.int .i64 0), (.nils 5), (.int .i64 0)] [(0, 4, (.t 18))]))⟩, ⟨(some 20), none, (.box (.t 19))⟩, ⟨(some 21), none, (.call (.t 15) [(.t 20)])⟩], (.seq (.reg [ ⟨none, none, (.store 1 (.t 4) (.c (.int .i64 0)))⟩]) .ret), [(.cell 4 none)], 116⟩
def pre_parse_reading_0 : SC := (.reg [⟨(some 4), none, (.alloc [(.int .i64 0)])⟩])
def pre_parse_reading_1 : SC := (.reg [⟨(some 7), none, (.v (.mov (.t 0)))⟩, ⟨(some 8), none, (.call (.c (.func 60 [])) [(.t 7)])⟩, ⟨(some 6), none, (.v (.mov (.t 8)))⟩, ⟨(some 9), none, (.v (.extract 0 (.t 6)))⟩, ⟨(some 10), none, (.v (.extract 1 (.t 6)))⟩, ⟨(some 5), none, (.v (.mov (.t 9)))⟩, ⟨none, none, (.store 1 (.t 4) (.t 10))⟩])
def pre_parse_reading_2 : SC := (.seq (.reg [⟨(some 11), none, (.v (.load none (.t 4)))⟩, ⟨(some 12), none, (.v (.bin .neq (.t 11) (.c (.int .i64 0))))⟩]) (.cond (.t 12) (.seq (.reg [⟨(some 13), none, (.v (.load none (.t 4)))⟩, ⟨none, none, (.store 1 (.t 4) (.t 13))⟩]) .ret) .skip))
def hd_parse_reading : Code → Code | .seq a _ => a | c => c
def tl_parse_reading : Code → Code | .seq _ b => b | c => c
def rg_parse_reading : Code → Array Oper | .region _ o _ => o | _ => #[]
def ri_parse_reading : Code → Nat | .region i _ _ => i | _ => 0
noncomputable def b_parse_reading : Code := (Tryz.f36.body).getD .skip
noncomputable def o1_parse_reading : Oper := (rg_parse_reading (hd_parse_reading (tl_parse_reading (tl_parse_reading (tl_parse_reading b_parse_reading)))))[0]!
noncomputable def o2_parse_reading : Oper := (rg_parse_reading (hd_parse_reading (tl_parse_reading (tl_parse_reading (tl_parse_reading b_parse_reading)))))[1]!
theorem ta_parse_reading (v : Value) (w : World) : (Instr.typeAssert (.iface 116 v) 20 116 true).run Tryz.prog w = .ok (.tuple #[v, .bool true]) w := by
  have hu : Tryz.prog.underlying 116 = some (.int .i64) := by kernel_rfl
  simp [Instr.typeAssert, run_underlying hu, go_sem, Result.andThen]
theorem idle_parse_reading (v : Value) (w : World) : CallsD Tryz.prog 61 #[v] .returning w fun e u' w' => (∃ v, e = .returned v) ∧ u' = .returning ∧ w' = w := by
  refine callsD_of_wpS Tryz.func61 rfl fun c₀ cs hu => ?_
  apply wpS_seq
  apply wpS_region
  simp [wpOpsS, go_sem, recoverD, hu, Tryz.ntmps61, Exit.thenS]
  apply wpS_seq
  apply wpS_region
  simp [wpOpsS, go_sem, Exit.thenS]
  refine wpS_cond (t := false) (by simp [Act.eval, Array.replicate]) ?_
  simp only [Bool.false_eq_true, if_false]
  refine wpS_of_wp (wp_skip ?_)
  cases c₀
  simp_all [bodyPostS, results, Tryz.results61]
theorem takes_parse_reading (v : Value) (k : IntKind) (m : Int) (w w' : World) (h : (Instr.storeAt 27 v (.int k m)).run Tryz.prog w = .ok () w') :
    CallsD Tryz.prog 61 #[v] (.panicking [{ v := .iface 116 (.int k m), recovered := false }]) w fun e u' w'' => (∃ v, e = .returned v) ∧ u' = .panicking [{ v := .iface 116 (.int k m), recovered := true }] ∧ w'' = w' := by
  refine callsD_of_wpS Tryz.func61 rfl fun c₀ cs hu => ?_
  apply wpS_seq
  apply wpS_region
  simp [wpOpsS, go_sem, recoverD, hu, Tryz.ntmps61, Exit.thenS]
  apply wpS_seq
  apply wpS_region
  simp [wpOpsS, go_sem, Exit.thenS]
  refine wpS_cond (t := true) (by simp [Act.eval, Array.replicate]) ?_
  simp only [if_true]
  apply wpS_seq
  apply wpS_region
  simp [wpOpsS, go_sem, Exit.thenS, ta_parse_reading]
  apply wpS_seq
  apply wpS_seq
  apply wpS_region
  simp [wpOpsS, go_sem, Exit.thenS]
  refine wpS_cond (t := false) (by simp [Act.eval, Array.replicate]) ?_
  simp only [Bool.false_eq_true, if_false]
  refine wpS_of_wp (wp_skip ?_)
  simp only [Exit.thenS]
  apply wpS_region
  simp [wpOpsS, Region.wanted, show List.range.loop 2 [] = [0, 1] from rfl, List.range, execOp, Act.eval, Act.put, Oper.upon, h, bodyPostS, results, Tryz.results61]
noncomputable def b2_parse_reading : Code := (Tryz.f61.body).getD .skip
theorem rcvOk_parse_reading [Base] : RecOk Tryz.prog 36 rcv_parse_reading := rec_ok (fk := 61) (fn := Tryz.f36) (l := [(hd_parse_reading b_parse_reading, pre_parse_reading_0), (hd_parse_reading (tl_parse_reading b_parse_reading), pre_parse_reading_1), (hd_parse_reading (tl_parse_reading (tl_parse_reading b_parse_reading)), pre_parse_reading_2)]) (i4 := ri_parse_reading (hd_parse_reading (tl_parse_reading (tl_parse_reading (tl_parse_reading b_parse_reading))))) (i5 := ri_parse_reading (hd_parse_reading (tl_parse_reading (tl_parse_reading (tl_parse_reading (tl_parse_reading b_parse_reading)))))) (o1 := o1_parse_reading) (o2 := o2_parse_reading) (ops := (rg_parse_reading (hd_parse_reading (tl_parse_reading (tl_parse_reading (tl_parse_reading (tl_parse_reading b_parse_reading))))))) (cz := (tl_parse_reading (tl_parse_reading (tl_parse_reading (tl_parse_reading (tl_parse_reading b_parse_reading)))))) (ty := 27)
  { func := Tryz.func36
    name := by decide
    body := by rfl
    mk_ := by rfl
    mkd := by rfl
    mkg := by rfl
    df := ⟨_, by rfl⟩
    dfd := by rfl
    dfg := by rfl
    pre := by rfl
    cpre := by
      intro p hp
      simp only [List.mem_cons, List.not_mem_nil, or_false] at hp
      rcases hp with rfl | rfl | rfl
      all_goals kernel_rfl
    cops := by kernel_rfl
    cpost := by kernel_rfl
    cres := by kernel_rfl
    nargs := by decide
    dn := by decide
    tn := by decide
    dst := by decide
    kty := ⟨none, by kernel_rfl, rfl⟩
    enter := fun v w => by unfold callFunc; simp [Tryz.func61, show Tryz.f61.body = some b2_parse_reading from rfl, show ¬ Tryz.f61.name = "runtime.NumGoroutine" from by decide]
    idle := idle_parse_reading
    takes := takes_parse_reading }
end
end Go.Proofs.YtfbcnpbhhooapaaGreatDoor.M

/- Functions of Go's library that are told by contracts; and all functions, as the machine has them. Printed by a program of this session (lift.py). -/
namespace Go.Proofs.YtfbcnpbhhooapaaGreatDoor.M
set_option linter.unusedVariables false
open Go Classical
noncomputable def exts : Nat → Option XF := fun f => if f = 106 then some (.fn (itoaX)) else if f = 108 then some (.fn (boolX)) else if f = 94 then some (.fn (repeatX)) else if f = 112 then some (.fn (cutX)) else if f = 179 then some (.fn (indexX)) else if f = 129 then some (.fn (prefixX)) else if f = 162 then some (.fn (containsX)) else if f = 120 then some (.fn (replaceX)) else if f = 163 then some (.fn (atoiX 218)) else if f = 144 then some (.fn (cloneX 1 8)) else if f = 36 then some (.rcv rcv_parse_reading) else  none
noncomputable def SP : Prg := SPof Tryz.prog exts
theorem sp_strconv_Itoa : SP 106 = some (.ext (itoaX)) := rfl
theorem sp_strings_Cut : SP 112 = some (.ext (cutX)) := rfl
theorem sp_strings_IndexByte : SP 179 = some (.ext (indexX)) := rfl
theorem sp_strings_HasPrefix : SP 129 = some (.ext (prefixX)) := rfl
theorem sp_strings_Contains : SP 162 = some (.ext (containsX)) := rfl
theorem sp_strings_ReplaceAll : SP 120 = some (.ext (replaceX)) := rfl
theorem sp_strconv_Atoi : SP 163 = some (.ext (atoiX 218)) := rfl
theorem sp_slices_Clone_int_int : SP 144 = some (.ext (cloneX 1 8)) := rfl
theorem sp_parse_reading : SP 36 = some (.rcv rcv_parse_reading) := rfl
end Go.Proofs.YtfbcnpbhhooapaaGreatDoor.M

/- What a call of a function yields, over plain data: a name for each. Printed by a program of this session (lift.py). -/
namespace Go.Proofs.YtfbcnpbhhooapaaGreatDoor.M
open Go Classical
def R_law2_ParseBlocks (x0 : List UInt8) (x1 : UInt8) (x2 : Bool) (r0 : Bool) : Prop := ∀ (S : Sto), call SP 3 [.list 1 (x0.map eB) false, .int .u8 ((x1.toNat : Nat) : Int), .bool x2] S = .ok (.v (.bool r0)) S
def R_law2_awake (r0 : Bool) : Prop := ∀ (S : Sto), call SP 15 [] S = .ok (.v (.bool r0)) S
def R_ref1_Digits (x0 : Int) (r0 : List UInt8) : Prop := ∀ (S : Sto), call SP 16 [.int .i64 x0] S = .ok (.v (.str r0)) S
def R_parse_Parse (x0 : List UInt8) (r0 : List Block) (r1 : Int) : Prop := ∀ (S : Sto), call SP 17 [.str x0] S = .ok (.v (.tup [.list 4 (r0.map eBlock) false, .int .i64 r1])) S
def R_law1_Num (x0 : Int) (r0 : Int) : Prop := ∀ (S : Sto), call SP 18 [.int .i64 x0] S = .ok (.v (.int .i64 r0)) S
def R_ref1_SameBlocks (x0 : List Block) (x1 : List Block) (r0 : Bool) : Prop := ∀ (S : Sto), call SP 19 [.list 4 (x0.map eBlock) false, .list 4 (x1.map eBlock) false] S = .ok (.v (.bool r0)) S
def R_ref1_SameNodes (x0 : List Node) (x1 : List Node) (r0 : Bool) : Prop := ∀ (S : Sto), call SP 21 [.list 5 (x0.map eNode) false, .list 5 (x1.map eNode) false] S = .ok (.v (.bool r0)) S
def R_parse_Parse_1 (x0 : PBlocks) (x0_g2 : Nat) (x0_z2 : Bool) (x1 : List Block) (x1_g0 : Nat) (x1_z0 : Bool) (o : Option Int) (x0' : PBlocks) (x0'_g2 : Nat) (x0'_z2 : Bool) (x1' : List Block) (x1'_g0 : Nat) (x1'_z0 : Bool) : Prop := ∀ (S : Sto) (n0 : Nat) (t0 : Nat) (n1 : Nat) (t1 : Nat), (getBox S n0 t0).map (List.take 4) = some [.list 5 (x0.exprs.tokens.l.map eToken) false, .int .i64 x0.exprs.tokens.pos, .sl 0 (.cell t0 2) 0 x0.exprs.out.length x0.exprs.out.length x0_g2 false, .int .i64 x0.exprs.deep] ∧ getArr S n0 (.cell t0 2) = some ⟨5, x0.exprs.out.map eNode, x0_z2, x0_g2⟩ → (getBox S n1 t1).map (List.take 1) = some [.sl 0 (.cell t1 0) 0 x1.length x1.length x1_g0 false] ∧ getArr S n1 (.cell t1 0) = some ⟨4, x1.map eBlock, x1_z0, x1_g0⟩ → n0 ≠ n1 → call SP 37 [.ptr n0 t0 0, .ptr n1 t1 0] S = po 116 o (.v (.tup [])) (setArr (setBox (setArr (setBox S n0 t0 ([.list 5 (x0'.exprs.tokens.l.map eToken) false, .int .i64 x0'.exprs.tokens.pos, .sl 0 (.cell t0 2) 0 x0'.exprs.out.length x0'.exprs.out.length x0'_g2 false, .int .i64 x0'.exprs.deep] ++ ((getBox S n0 t0).getD []).drop 4)) n0 (.cell t0 2) ⟨5, x0'.exprs.out.map eNode, x0'_z2, x0'_g2⟩) n1 t1 ([.sl 0 (.cell t1 0) 0 x1'.length x1'.length x1'_g0 false] ++ ((getBox (setArr (setBox S n0 t0 ([.list 5 (x0'.exprs.tokens.l.map eToken) false, .int .i64 x0'.exprs.tokens.pos, .sl 0 (.cell t0 2) 0 x0'.exprs.out.length x0'.exprs.out.length x0'_g2 false, .int .i64 x0'.exprs.deep] ++ ((getBox S n0 t0).getD []).drop 4)) n0 (.cell t0 2) ⟨5, x0'.exprs.out.map eNode, x0'_z2, x0'_g2⟩) n1 t1).getD []).drop 1)) n1 (.cell t1 0) ⟨4, x1'.map eBlock, x1'_z0, x1'_g0⟩)
def R_ref1_SameParts (x0 : List Part) (x1 : List Part) (r0 : Bool) : Prop := ∀ (S : Sto), call SP 43 [.list 2 (x0.map ePart) false, .list 2 (x1.map ePart) false] S = .ok (.v (.bool r0)) S
def R_ref1_Ints (x0 : List Int) (x1 : List Int) (r0 : Bool) : Prop := ∀ (S : Sto), call SP 44 [.list 1 (x0.map eI) false, .list 1 (x1.map eI) false] S = .ok (.v (.bool r0)) S
def R_lex_Lex (x0 : List UInt8) (r0 : List Token) (r1 : Int) : Prop := ∀ (S : Sto), call SP 60 [.str x0] S = .ok (.v (.tup [.list 5 (r0.map eToken) false, .int .i64 r1])) S
def R_slices_Index_string_string (x0 : List (List UInt8)) (x1 : List UInt8) (r0 : Int) : Prop := ∀ (S : Sto), call SP 62 [.list 1 (x0.map eS) false, .str x1] S = .ok (.v (.int .i64 r0)) S
def R_parse_words (r0 : List (List UInt8)) : Prop := ∀ (S : Sto), call SP 63 [] S = .ok (.v (.list 1 (r0.map eS) false)) S
def R_lex_Label (x0 : List UInt8) (r0 : Bool) : Prop := ∀ (S : Sto), call SP 81 [.str x0] S = .ok (.v (.bool r0)) S
def R_strconv_Itoa (x0 : Int) (r0 : List UInt8) : Prop := ∀ (S : Sto), call SP 106 [.int .i64 x0] S = .ok (.v (.str r0)) S
def R_strings_Cut (x0 : List UInt8) (x1 : List UInt8) (r0 : List UInt8) (r1 : List UInt8) (r2 : Bool) : Prop := ∀ (S : Sto), call SP 112 [.str x0, .str x1] S = .ok (.v (.tup [.str r0, .str r1, .bool r2])) S
def R_lex_Name (x0 : List UInt8) (r0 : Bool) : Prop := ∀ (S : Sto), call SP 115 [.str x0] S = .ok (.v (.bool r0)) S
def R_strings_ReplaceAll (x0 : List UInt8) (x1 : List UInt8) (x2 : List UInt8) (r0 : List UInt8) : Prop := ∀ (S : Sto), call SP 120 [.str x0, .str x1, .str x2] S = .ok (.v (.str r0)) S
def R_strings_HasPrefix (x0 : List UInt8) (x1 : List UInt8) (r0 : Bool) : Prop := ∀ (S : Sto), call SP 129 [.str x0, .str x1] S = .ok (.v (.bool r0)) S
def R_lex_class (x0 : UInt8) (r0 : Int) : Prop := ∀ (S : Sto), call SP 137 [.int .u8 ((x0.toNat : Nat) : Int)] S = .ok (.v (.int .i64 r0)) S
def R_parse_two (x0 : Int) (x1 : List UInt8) (r0 : Int) (r1 : Bool) : Prop := ∀ (S : Sto), call SP 143 [.int .i64 x0, .str x1] S = .ok (.v (.tup [.int .i64 r0, .bool r1])) S
def R_slices_Clone_int_int (x0 : List Int) (r0 : List Int) : Prop := ∀ (S : Sto), call SP 144 [.list 1 (x0.map eI) false] S = .ok (.v (.list 1 (r0.map eI) false)) S
def R_lex_span (x0 : List UInt8) (x1 : List Int) (r0 : Int) : Prop := ∀ (S : Sto), call SP 151 [.str x0, .list 1 (x1.map eI) false] S = .ok (.v (.int .i64 r0)) S
def R_slices_Contains_string_string (x0 : List (List UInt8)) (x1 : List UInt8) (r0 : Bool) : Prop := ∀ (S : Sto), call SP 161 [.list 1 (x0.map eS) false, .str x1] S = .ok (.v (.bool r0)) S
def R_strings_Contains (x0 : List UInt8) (x1 : List UInt8) (r0 : Bool) : Prop := ∀ (S : Sto), call SP 162 [.str x0, .str x1] S = .ok (.v (.bool r0)) S
def R_strconv_Atoi (x0 : List UInt8) (r0 : Int) (r1 : Bool) : Prop := ∀ (S : Sto), call SP 163 [.str x0] S = .ok (.v (.tup [.int .i64 r0, eE 218 r1])) S
def R_lex_escaped (x0 : List UInt8) (r0 : UInt8) (r1 : Bool) : Prop := ∀ (S : Sto), call SP 164 [.str x0] S = .ok (.v (.tup [.int .u8 ((r0.toNat : Nat) : Int), .bool r1])) S
def R_lex_reference (x0 : List UInt8) (r0 : List UInt8) (r1 : Bool) : Prop := ∀ (S : Sto), call SP 166 [.str x0] S = .ok (.v (.tup [.str r0, .bool r1])) S
def R_slices_Contains_int_int (x0 : List Int) (x1 : Int) (r0 : Bool) : Prop := ∀ (S : Sto), call SP 170 [.list 1 (x0.map eI) false, .int .i64 x1] S = .ok (.v (.bool r0)) S
def R_strings_IndexByte (x0 : List UInt8) (x1 : UInt8) (r0 : Int) : Prop := ∀ (S : Sto), call SP 179 [.str x0, .int .u8 ((x1.toNat : Nat) : Int)] S = .ok (.v (.int .i64 r0)) S
def R_slices_Index_int_int (x0 : List Int) (x1 : Int) (r0 : Int) : Prop := ∀ (S : Sto), call SP 190 [.list 1 (x0.map eI) false, .int .i64 x1] S = .ok (.v (.int .i64 r0)) S
end Go.Proofs.YtfbcnpbhhooapaaGreatDoor.M

/- What a call of a function yields, over plain data: a name for each. Printed by a program of this session (lift.py). -/
namespace Go.Proofs.YtfbcnpbhhooapaaGreatDoor.M
open Go Classical
def R_parse_tokens_now (x0 : PTokens) (r0 : Token) (x0' : PTokens) : Prop := ∀ (S : Sto) (n0 : Nat) (t0 : Nat), (getBox S n0 t0).map (List.take 2) = some [.list 5 (x0.l.map eToken) false, .int .i64 x0.pos] → call SP 38 [.ptr n0 t0 0] S = .ok (.v (.agg [.int .i64 r0.Kind, .str r0.Text, .int .i64 r0.Num, .list 2 (r0.Parts.map ePart) false, .int .i64 r0.At])) (setBox S n0 t0 ([.list 5 (x0'.l.map eToken) false, .int .i64 x0'.pos] ++ ((getBox S n0 t0).getD []).drop 2))
def R_parse_blocks_block (x0 : PBlocks) (x0_g2 : Nat) (x0_z2 : Bool) (x1 : Bool) (o : Option Int) (r0 : Block) (x0' : PBlocks) (x0'_g2 : Nat) (x0'_z2 : Bool) : Prop := ∀ (S : Sto) (n0 : Nat) (t0 : Nat), (getBox S n0 t0).map (List.take 4) = some [.list 5 (x0.exprs.tokens.l.map eToken) false, .int .i64 x0.exprs.tokens.pos, .sl 0 (.cell t0 2) 0 x0.exprs.out.length x0.exprs.out.length x0_g2 false, .int .i64 x0.exprs.deep] ∧ getArr S n0 (.cell t0 2) = some ⟨5, x0.exprs.out.map eNode, x0_z2, x0_g2⟩ → call SP 39 [.ptr n0 t0 0, .bool x1] S = po 116 o (.v (.agg [.int .i64 r0.Kind, .str r0.Label, .list 2 (r0.Attrs.map eAttr) false, .list 4 (r0.Blocks.map eBlock) false])) (setArr (setBox S n0 t0 ([.list 5 (x0'.exprs.tokens.l.map eToken) false, .int .i64 x0'.exprs.tokens.pos, .sl 0 (.cell t0 2) 0 x0'.exprs.out.length x0'.exprs.out.length x0'_g2 false, .int .i64 x0'.exprs.deep] ++ ((getBox S n0 t0).getD []).drop 4)) n0 (.cell t0 2) ⟨5, x0'.exprs.out.map eNode, x0'_z2, x0'_g2⟩)
def R_parse_exprs_whole (x0 : PExprs) (x0_g2 : Nat) (x0_z2 : Bool) (o : Option Int) (r0 : List Node) (x0' : PExprs) (x0'_g2 : Nat) (x0'_z2 : Bool) : Prop := ∀ (S : Sto) (n0 : Nat) (t0 : Nat), (getBox S n0 t0).map (List.take 4) = some [.list 5 (x0.tokens.l.map eToken) false, .int .i64 x0.tokens.pos, .sl 0 (.cell t0 2) 0 x0.out.length x0.out.length x0_g2 false, .int .i64 x0.deep] ∧ getArr S n0 (.cell t0 2) = some ⟨5, x0.out.map eNode, x0_z2, x0_g2⟩ → call SP 41 [.ptr n0 t0 0] S = po 116 o (.v (.list 5 (r0.map eNode) false)) (setArr (setBox S n0 t0 ([.list 5 (x0'.tokens.l.map eToken) false, .int .i64 x0'.tokens.pos, .sl 0 (.cell t0 2) 0 x0'.out.length x0'.out.length x0'_g2 false, .int .i64 x0'.deep] ++ ((getBox S n0 t0).getD []).drop 4)) n0 (.cell t0 2) ⟨5, x0'.out.map eNode, x0'_z2, x0'_g2⟩)
def R_parse_tokens_fail (x0 : PTokens) (x1 : Int) (o : Option Int) (x0' : PTokens) : Prop := ∀ (S : Sto) (n0 : Nat) (t0 : Nat), (getBox S n0 t0).map (List.take 2) = some [.list 5 (x0.l.map eToken) false, .int .i64 x0.pos] → call SP 42 [.ptr n0 t0 0, .int .i64 x1] S = po 116 o (.v (.tup [])) (setBox S n0 t0 ([.list 5 (x0'.l.map eToken) false, .int .i64 x0'.pos] ++ ((getBox S n0 t0).getD []).drop 2))
def R_parse_blocks_label (x0 : PBlocks) (x0_g2 : Nat) (x0_z2 : Bool) (o : Option Int) (r0 : List UInt8) (x0' : PBlocks) (x0'_g2 : Nat) (x0'_z2 : Bool) : Prop := ∀ (S : Sto) (n0 : Nat) (t0 : Nat), (getBox S n0 t0).map (List.take 4) = some [.list 5 (x0.exprs.tokens.l.map eToken) false, .int .i64 x0.exprs.tokens.pos, .sl 0 (.cell t0 2) 0 x0.exprs.out.length x0.exprs.out.length x0_g2 false, .int .i64 x0.exprs.deep] ∧ getArr S n0 (.cell t0 2) = some ⟨5, x0.exprs.out.map eNode, x0_z2, x0_g2⟩ → call SP 64 [.ptr n0 t0 0] S = po 116 o (.v (.str r0)) (setArr (setBox S n0 t0 ([.list 5 (x0'.exprs.tokens.l.map eToken) false, .int .i64 x0'.exprs.tokens.pos, .sl 0 (.cell t0 2) 0 x0'.exprs.out.length x0'.exprs.out.length x0'_g2 false, .int .i64 x0'.exprs.deep] ++ ((getBox S n0 t0).getD []).drop 4)) n0 (.cell t0 2) ⟨5, x0'.exprs.out.map eNode, x0'_z2, x0'_g2⟩)
def R_parse_blocks_body (x0 : PBlocks) (x0_g2 : Nat) (x0_z2 : Bool) (o : Option Int) (r0 : List Attr) (x0' : PBlocks) (x0'_g2 : Nat) (x0'_z2 : Bool) : Prop := (∀ (S : Sto) (n0 : Nat) (t0 : Nat), (getBox S n0 t0).map (List.take 4) = some [.list 5 (x0.exprs.tokens.l.map eToken) false, .int .i64 x0.exprs.tokens.pos, .sl 0 (.cell t0 2) 0 x0.exprs.out.length x0.exprs.out.length x0_g2 false, .int .i64 x0.exprs.deep] ∧ getArr S n0 (.cell t0 2) = some ⟨5, x0.exprs.out.map eNode, x0_z2, x0_g2⟩ → call SP 65 [.ptr n0 t0 0] S = po 116 o (.v (.list 2 (r0.map eAttr) false)) (setArr (setBox S n0 t0 ([.list 5 (x0'.exprs.tokens.l.map eToken) false, .int .i64 x0'.exprs.tokens.pos, .sl 0 (.cell t0 2) 0 x0'.exprs.out.length x0'.exprs.out.length x0'_g2 false, .int .i64 x0'.exprs.deep] ++ ((getBox S n0 t0).getD []).drop 4)) n0 (.cell t0 2) ⟨5, x0'.exprs.out.map eNode, x0'_z2, x0'_g2⟩)) ∨ (∀ (S : Sto) (n0 : Nat) (t0 : Nat), (getBox S n0 t0).map (List.take 4) = some [.list 5 (x0.exprs.tokens.l.map eToken) false, .int .i64 x0.exprs.tokens.pos, .sl 0 (.cell t0 2) 0 x0.exprs.out.length x0.exprs.out.length x0_g2 false, .int .i64 x0.exprs.deep] ∧ getArr S n0 (.cell t0 2) = some ⟨5, x0.exprs.out.map eNode, x0_z2, x0_g2⟩ → call SP 65 [.ptr n0 t0 0] S = po 116 o (.arr 2 (r0.map eAttr) false) (setArr (setBox S n0 t0 ([.list 5 (x0'.exprs.tokens.l.map eToken) false, .int .i64 x0'.exprs.tokens.pos, .sl 0 (.cell t0 2) 0 x0'.exprs.out.length x0'.exprs.out.length x0'_g2 false, .int .i64 x0'.exprs.deep] ++ ((getBox S n0 t0).getD []).drop 4)) n0 (.cell t0 2) ⟨5, x0'.exprs.out.map eNode, x0'_z2, x0'_g2⟩))
def R_parse_tokens_need (x0 : PTokens) (x1 : List UInt8) (o : Option Int) (x0' : PTokens) : Prop := ∀ (S : Sto) (n0 : Nat) (t0 : Nat), (getBox S n0 t0).map (List.take 2) = some [.list 5 (x0.l.map eToken) false, .int .i64 x0.pos] → call SP 66 [.ptr n0 t0 0, .str x1] S = po 116 o (.v (.tup [])) (setBox S n0 t0 ([.list 5 (x0'.l.map eToken) false, .int .i64 x0'.pos] ++ ((getBox S n0 t0).getD []).drop 2))
def R_parse_tokens_may (x0 : PTokens) (x1 : List UInt8) (r0 : Bool) (x0' : PTokens) : Prop := ∀ (S : Sto) (n0 : Nat) (t0 : Nat), (getBox S n0 t0).map (List.take 2) = some [.list 5 (x0.l.map eToken) false, .int .i64 x0.pos] → call SP 67 [.ptr n0 t0 0, .str x1] S = .ok (.v (.bool r0)) (setBox S n0 t0 ([.list 5 (x0'.l.map eToken) false, .int .i64 x0'.pos] ++ ((getBox S n0 t0).getD []).drop 2))
def R_parse_exprs_expr (x0 : PExprs) (x0_g2 : Nat) (x0_z2 : Bool) (o : Option Int) (r0 : Int) (x0' : PExprs) (x0'_g2 : Nat) (x0'_z2 : Bool) : Prop := ∀ (S : Sto) (n0 : Nat) (t0 : Nat), (getBox S n0 t0).map (List.take 4) = some [.list 5 (x0.tokens.l.map eToken) false, .int .i64 x0.tokens.pos, .sl 0 (.cell t0 2) 0 x0.out.length x0.out.length x0_g2 false, .int .i64 x0.deep] ∧ getArr S n0 (.cell t0 2) = some ⟨5, x0.out.map eNode, x0_z2, x0_g2⟩ → call SP 68 [.ptr n0 t0 0] S = po 116 o (.v (.int .i64 r0)) (setArr (setBox S n0 t0 ([.list 5 (x0'.tokens.l.map eToken) false, .int .i64 x0'.tokens.pos, .sl 0 (.cell t0 2) 0 x0'.out.length x0'.out.length x0'_g2 false, .int .i64 x0'.deep] ++ ((getBox S n0 t0).getD []).drop 4)) n0 (.cell t0 2) ⟨5, x0'.out.map eNode, x0'_z2, x0'_g2⟩)
def R_lex_tokens_skip (x0 : LTokens) (x0_g2 : Nat) (x0_z2 : Bool) (x0' : LTokens) (x0'_g2 : Nat) (x0'_z2 : Bool) : Prop := ∀ (S : Sto) (n0 : Nat) (t0 : Nat), (getBox S n0 t0).map (List.take 3) = some [.str x0.text.left, .int .i64 x0.text.pos, .sl 0 (.cell t0 2) 0 x0.out.length x0.out.length x0_g2 false] ∧ getArr S n0 (.cell t0 2) = some ⟨5, x0.out.map eToken, x0_z2, x0_g2⟩ → call SP 97 [.ptr n0 t0 0] S = .ok (.v (.tup [])) (setArr (setBox S n0 t0 ([.str x0'.text.left, .int .i64 x0'.text.pos, .sl 0 (.cell t0 2) 0 x0'.out.length x0'.out.length x0'_g2 false] ++ ((getBox S n0 t0).getD []).drop 3)) n0 (.cell t0 2) ⟨5, x0'.out.map eToken, x0'_z2, x0'_g2⟩)
def R_lex_tokens_next (x0 : LTokens) (x0_g2 : Nat) (x0_z2 : Bool) (r0 : Bool) (x0' : LTokens) (x0'_g2 : Nat) (x0'_z2 : Bool) : Prop := ∀ (S : Sto) (n0 : Nat) (t0 : Nat), (getBox S n0 t0).map (List.take 3) = some [.str x0.text.left, .int .i64 x0.text.pos, .sl 0 (.cell t0 2) 0 x0.out.length x0.out.length x0_g2 false] ∧ getArr S n0 (.cell t0 2) = some ⟨5, x0.out.map eToken, x0_z2, x0_g2⟩ → call SP 98 [.ptr n0 t0 0] S = .ok (.v (.bool r0)) (setArr (setBox S n0 t0 ([.str x0'.text.left, .int .i64 x0'.text.pos, .sl 0 (.cell t0 2) 0 x0'.out.length x0'.out.length x0'_g2 false] ++ ((getBox S n0 t0).getD []).drop 3)) n0 (.cell t0 2) ⟨5, x0'.out.map eToken, x0'_z2, x0'_g2⟩)
def R_parse_blocks_body_1 (x0 : Attr) (x1 : List UInt8) (r0 : Bool) : Prop := ∀ (S : Sto) (n1 : Nat) (t1 : Nat), (getBox S n1 t1).map (List.take 1) = some [.str x1] → call SP 100 [.agg (eAttr x0), .ptr n1 t1 0] S = .ok (.v (.bool r0)) S
def R_parse_tokens_name (x0 : PTokens) (o : Option Int) (r0 : List UInt8) (x0' : PTokens) : Prop := ∀ (S : Sto) (n0 : Nat) (t0 : Nat), (getBox S n0 t0).map (List.take 2) = some [.list 5 (x0.l.map eToken) false, .int .i64 x0.pos] → call SP 101 [.ptr n0 t0 0] S = po 116 o (.v (.str r0)) (setBox S n0 t0 ([.list 5 (x0'.l.map eToken) false, .int .i64 x0'.pos] ++ ((getBox S n0 t0).getD []).drop 2))
def R_parse_tokens_is (x0 : PTokens) (x1 : List UInt8) (r0 : Bool) (x0' : PTokens) : Prop := ∀ (S : Sto) (n0 : Nat) (t0 : Nat), (getBox S n0 t0).map (List.take 2) = some [.list 5 (x0.l.map eToken) false, .int .i64 x0.pos] → call SP 102 [.ptr n0 t0 0, .str x1] S = .ok (.v (.bool r0)) (setBox S n0 t0 ([.list 5 (x0'.l.map eToken) false, .int .i64 x0'.pos] ++ ((getBox S n0 t0).getD []).drop 2))
def R_parse_exprs_chain (x0 : PExprs) (x0_g2 : Nat) (x0_z2 : Bool) (x1 : Int) (o : Option Int) (r0 : Int) (x0' : PExprs) (x0'_g2 : Nat) (x0'_z2 : Bool) : Prop := ∀ (S : Sto) (n0 : Nat) (t0 : Nat), (getBox S n0 t0).map (List.take 4) = some [.list 5 (x0.tokens.l.map eToken) false, .int .i64 x0.tokens.pos, .sl 0 (.cell t0 2) 0 x0.out.length x0.out.length x0_g2 false, .int .i64 x0.deep] ∧ getArr S n0 (.cell t0 2) = some ⟨5, x0.out.map eNode, x0_z2, x0_g2⟩ → call SP 103 [.ptr n0 t0 0, .int .i64 x1] S = po 116 o (.v (.int .i64 r0)) (setArr (setBox S n0 t0 ([.list 5 (x0'.tokens.l.map eToken) false, .int .i64 x0'.tokens.pos, .sl 0 (.cell t0 2) 0 x0'.out.length x0'.out.length x0'_g2 false, .int .i64 x0'.deep] ++ ((getBox S n0 t0).getD []).drop 4)) n0 (.cell t0 2) ⟨5, x0'.out.map eNode, x0'_z2, x0'_g2⟩)
def R_parse_exprs_open (x0 : PExprs) (x0_g2 : Nat) (x0_z2 : Bool) (x1 : List UInt8) (o : Option Int) (x0' : PExprs) (x0'_g2 : Nat) (x0'_z2 : Bool) : Prop := ∀ (S : Sto) (n0 : Nat) (t0 : Nat), (getBox S n0 t0).map (List.take 4) = some [.list 5 (x0.tokens.l.map eToken) false, .int .i64 x0.tokens.pos, .sl 0 (.cell t0 2) 0 x0.out.length x0.out.length x0_g2 false, .int .i64 x0.deep] ∧ getArr S n0 (.cell t0 2) = some ⟨5, x0.out.map eNode, x0_z2, x0_g2⟩ → call SP 104 [.ptr n0 t0 0, .str x1] S = po 116 o (.v (.tup [])) (setArr (setBox S n0 t0 ([.list 5 (x0'.tokens.l.map eToken) false, .int .i64 x0'.tokens.pos, .sl 0 (.cell t0 2) 0 x0'.out.length x0'.out.length x0'_g2 false, .int .i64 x0'.deep] ++ ((getBox S n0 t0).getD []).drop 4)) n0 (.cell t0 2) ⟨5, x0'.out.map eNode, x0'_z2, x0'_g2⟩)
def R_parse_exprs_put (x0 : PExprs) (x0_g2 : Nat) (x0_z2 : Bool) (x1 : Int) (x2 : List UInt8) (x3 : List Int) (r0 : Int) (x0' : PExprs) (x0'_g2 : Nat) (x0'_z2 : Bool) : Prop := ∀ (S : Sto) (n0 : Nat) (t0 : Nat), (getBox S n0 t0).map (List.take 4) = some [.list 5 (x0.tokens.l.map eToken) false, .int .i64 x0.tokens.pos, .sl 0 (.cell t0 2) 0 x0.out.length x0.out.length x0_g2 false, .int .i64 x0.deep] ∧ getArr S n0 (.cell t0 2) = some ⟨5, x0.out.map eNode, x0_z2, x0_g2⟩ → call SP 105 [.ptr n0 t0 0, .int .i64 x1, .str x2, .list 1 (x3.map eI) false] S = .ok (.v (.int .i64 r0)) (setArr (setBox S n0 t0 ([.list 5 (x0'.tokens.l.map eToken) false, .int .i64 x0'.tokens.pos, .sl 0 (.cell t0 2) 0 x0'.out.length x0'.out.length x0'_g2 false, .int .i64 x0'.deep] ++ ((getBox S n0 t0).getD []).drop 4)) n0 (.cell t0 2) ⟨5, x0'.out.map eNode, x0'_z2, x0'_g2⟩)
def R_lex_text_word (x0 : LText) (x1 : List Int) (r0 : List UInt8) (x0' : LText) : Prop := ∀ (S : Sto) (n0 : Nat) (t0 : Nat), (getBox S n0 t0).map (List.take 2) = some [.str x0.left, .int .i64 x0.pos] → call SP 134 [.ptr n0 t0 0, .list 1 (x1.map eI) false] S = .ok (.v (.str r0)) (setBox S n0 t0 ([.str x0'.left, .int .i64 x0'.pos] ++ ((getBox S n0 t0).getD []).drop 2))
def R_lex_text_take (x0 : LText) (x1 : Int) (r0 : List UInt8) (x0' : LText) : Prop := ∀ (S : Sto) (n0 : Nat) (t0 : Nat), (getBox S n0 t0).map (List.take 2) = some [.str x0.left, .int .i64 x0.pos] → call SP 135 [.ptr n0 t0 0, .int .i64 x1] S = .ok (.v (.str r0)) (setBox S n0 t0 ([.str x0'.left, .int .i64 x0'.pos] ++ ((getBox S n0 t0).getD []).drop 2))
def R_lex_tokens_sign (x0 : LTokens) (x0_g2 : Nat) (x0_z2 : Bool) (r0 : Token) (r1 : Bool) (x0' : LTokens) (x0'_g2 : Nat) (x0'_z2 : Bool) : Prop := ∀ (S : Sto) (n0 : Nat) (t0 : Nat), (getBox S n0 t0).map (List.take 3) = some [.str x0.text.left, .int .i64 x0.text.pos, .sl 0 (.cell t0 2) 0 x0.out.length x0.out.length x0_g2 false] ∧ getArr S n0 (.cell t0 2) = some ⟨5, x0.out.map eToken, x0_z2, x0_g2⟩ → call SP 136 [.ptr n0 t0 0] S = .ok (.v (.tup [.agg [.int .i64 r0.Kind, .str r0.Text, .int .i64 r0.Num, .list 2 (r0.Parts.map ePart) false, .int .i64 r0.At], .bool r1])) (setArr (setBox S n0 t0 ([.str x0'.text.left, .int .i64 x0'.text.pos, .sl 0 (.cell t0 2) 0 x0'.out.length x0'.out.length x0'_g2 false] ++ ((getBox S n0 t0).getD []).drop 3)) n0 (.cell t0 2) ⟨5, x0'.out.map eToken, x0'_z2, x0'_g2⟩)
def R_lex_tokens_name (x0 : LTokens) (x0_g2 : Nat) (x0_z2 : Bool) (r0 : Token) (r1 : Bool) (x0' : LTokens) (x0'_g2 : Nat) (x0'_z2 : Bool) : Prop := ∀ (S : Sto) (n0 : Nat) (t0 : Nat), (getBox S n0 t0).map (List.take 3) = some [.str x0.text.left, .int .i64 x0.text.pos, .sl 0 (.cell t0 2) 0 x0.out.length x0.out.length x0_g2 false] ∧ getArr S n0 (.cell t0 2) = some ⟨5, x0.out.map eToken, x0_z2, x0_g2⟩ → call SP 138 [.ptr n0 t0 0] S = .ok (.v (.tup [.agg [.int .i64 r0.Kind, .str r0.Text, .int .i64 r0.Num, .list 2 (r0.Parts.map ePart) false, .int .i64 r0.At], .bool r1])) (setArr (setBox S n0 t0 ([.str x0'.text.left, .int .i64 x0'.text.pos, .sl 0 (.cell t0 2) 0 x0'.out.length x0'.out.length x0'_g2 false] ++ ((getBox S n0 t0).getD []).drop 3)) n0 (.cell t0 2) ⟨5, x0'.out.map eToken, x0'_z2, x0'_g2⟩)
def R_lex_tokens_number (x0 : LTokens) (x0_g2 : Nat) (x0_z2 : Bool) (r0 : Token) (r1 : Bool) (x0' : LTokens) (x0'_g2 : Nat) (x0'_z2 : Bool) : Prop := ∀ (S : Sto) (n0 : Nat) (t0 : Nat), (getBox S n0 t0).map (List.take 3) = some [.str x0.text.left, .int .i64 x0.text.pos, .sl 0 (.cell t0 2) 0 x0.out.length x0.out.length x0_g2 false] ∧ getArr S n0 (.cell t0 2) = some ⟨5, x0.out.map eToken, x0_z2, x0_g2⟩ → call SP 139 [.ptr n0 t0 0] S = .ok (.v (.tup [.agg [.int .i64 r0.Kind, .str r0.Text, .int .i64 r0.Num, .list 2 (r0.Parts.map ePart) false, .int .i64 r0.At], .bool r1])) (setArr (setBox S n0 t0 ([.str x0'.text.left, .int .i64 x0'.text.pos, .sl 0 (.cell t0 2) 0 x0'.out.length x0'.out.length x0'_g2 false] ++ ((getBox S n0 t0).getD []).drop 3)) n0 (.cell t0 2) ⟨5, x0'.out.map eToken, x0'_z2, x0'_g2⟩)
def R_lex_tokens_quoted (x0 : LTokens) (x0_g2 : Nat) (x0_z2 : Bool) (r0 : Token) (r1 : Bool) (x0' : LTokens) (x0'_g2 : Nat) (x0'_z2 : Bool) : Prop := ∀ (S : Sto) (n0 : Nat) (t0 : Nat), (getBox S n0 t0).map (List.take 3) = some [.str x0.text.left, .int .i64 x0.text.pos, .sl 0 (.cell t0 2) 0 x0.out.length x0.out.length x0_g2 false] ∧ getArr S n0 (.cell t0 2) = some ⟨5, x0.out.map eToken, x0_z2, x0_g2⟩ → call SP 140 [.ptr n0 t0 0] S = .ok (.v (.tup [.agg [.int .i64 r0.Kind, .str r0.Text, .int .i64 r0.Num, .list 2 (r0.Parts.map ePart) false, .int .i64 r0.At], .bool r1])) (setArr (setBox S n0 t0 ([.str x0'.text.left, .int .i64 x0'.text.pos, .sl 0 (.cell t0 2) 0 x0'.out.length x0'.out.length x0'_g2 false] ++ ((getBox S n0 t0).getD []).drop 3)) n0 (.cell t0 2) ⟨5, x0'.out.map eToken, x0'_z2, x0'_g2⟩)
def R_parse_exprs_un (x0 : PExprs) (x0_g2 : Nat) (x0_z2 : Bool) (o : Option Int) (r0 : Int) (x0' : PExprs) (x0'_g2 : Nat) (x0'_z2 : Bool) : Prop := ∀ (S : Sto) (n0 : Nat) (t0 : Nat), (getBox S n0 t0).map (List.take 4) = some [.list 5 (x0.tokens.l.map eToken) false, .int .i64 x0.tokens.pos, .sl 0 (.cell t0 2) 0 x0.out.length x0.out.length x0_g2 false, .int .i64 x0.deep] ∧ getArr S n0 (.cell t0 2) = some ⟨5, x0.out.map eNode, x0_z2, x0_g2⟩ → call SP 142 [.ptr n0 t0 0] S = po 116 o (.v (.int .i64 r0)) (setArr (setBox S n0 t0 ([.list 5 (x0'.tokens.l.map eToken) false, .int .i64 x0'.tokens.pos, .sl 0 (.cell t0 2) 0 x0'.out.length x0'.out.length x0'_g2 false, .int .i64 x0'.deep] ++ ((getBox S n0 t0).getD []).drop 4)) n0 (.cell t0 2) ⟨5, x0'.out.map eNode, x0'_z2, x0'_g2⟩)
def R_lex_parts_plain (x0 : List Part) (x0_g0 : Nat) (x0_z0 : Bool) (x1 : UInt8) (x0' : List Part) (x0'_g0 : Nat) (x0'_z0 : Bool) : Prop := ∀ (S : Sto) (n0 : Nat) (t0 : Nat), (getBox S n0 t0).map (List.take 1) = some [.sl 0 (.cell t0 0) 0 x0.length x0.length x0_g0 false] ∧ getArr S n0 (.cell t0 0) = some ⟨2, x0.map ePart, x0_z0, x0_g0⟩ → call SP 165 [.ptr n0 t0 0, .int .u8 ((x1.toNat : Nat) : Int)] S = .ok (.v (.tup [])) (setArr (setBox S n0 t0 ([.sl 0 (.cell t0 0) 0 x0'.length x0'.length x0'_g0 false] ++ ((getBox S n0 t0).getD []).drop 1)) n0 (.cell t0 0) ⟨2, x0'.map ePart, x0'_z0, x0'_g0⟩)
def R_parse_exprs_post (x0 : PExprs) (x0_g2 : Nat) (x0_z2 : Bool) (o : Option Int) (r0 : Int) (x0' : PExprs) (x0'_g2 : Nat) (x0'_z2 : Bool) : Prop := ∀ (S : Sto) (n0 : Nat) (t0 : Nat), (getBox S n0 t0).map (List.take 4) = some [.list 5 (x0.tokens.l.map eToken) false, .int .i64 x0.tokens.pos, .sl 0 (.cell t0 2) 0 x0.out.length x0.out.length x0_g2 false, .int .i64 x0.deep] ∧ getArr S n0 (.cell t0 2) = some ⟨5, x0.out.map eNode, x0_z2, x0_g2⟩ → call SP 167 [.ptr n0 t0 0] S = po 116 o (.v (.int .i64 r0)) (setArr (setBox S n0 t0 ([.list 5 (x0'.tokens.l.map eToken) false, .int .i64 x0'.tokens.pos, .sl 0 (.cell t0 2) 0 x0'.out.length x0'.out.length x0'_g2 false, .int .i64 x0'.deep] ++ ((getBox S n0 t0).getD []).drop 4)) n0 (.cell t0 2) ⟨5, x0'.out.map eNode, x0'_z2, x0'_g2⟩)
def R_parse_exprs_prim (x0 : PExprs) (x0_g2 : Nat) (x0_z2 : Bool) (o : Option Int) (r0 : Int) (x0' : PExprs) (x0'_g2 : Nat) (x0'_z2 : Bool) : Prop := ∀ (S : Sto) (n0 : Nat) (t0 : Nat), (getBox S n0 t0).map (List.take 4) = some [.list 5 (x0.tokens.l.map eToken) false, .int .i64 x0.tokens.pos, .sl 0 (.cell t0 2) 0 x0.out.length x0.out.length x0_g2 false, .int .i64 x0.deep] ∧ getArr S n0 (.cell t0 2) = some ⟨5, x0.out.map eNode, x0_z2, x0_g2⟩ → call SP 180 [.ptr n0 t0 0] S = po 116 o (.v (.int .i64 r0)) (setArr (setBox S n0 t0 ([.list 5 (x0'.tokens.l.map eToken) false, .int .i64 x0'.tokens.pos, .sl 0 (.cell t0 2) 0 x0'.out.length x0'.out.length x0'_g2 false, .int .i64 x0'.deep] ++ ((getBox S n0 t0).getD []).drop 4)) n0 (.cell t0 2) ⟨5, x0'.out.map eNode, x0'_z2, x0'_g2⟩)
def R_parse_exprs_shut (x0 : PExprs) (x0_g2 : Nat) (x0_z2 : Bool) (x1 : List UInt8) (o : Option Int) (x0' : PExprs) (x0'_g2 : Nat) (x0'_z2 : Bool) : Prop := ∀ (S : Sto) (n0 : Nat) (t0 : Nat), (getBox S n0 t0).map (List.take 4) = some [.list 5 (x0.tokens.l.map eToken) false, .int .i64 x0.tokens.pos, .sl 0 (.cell t0 2) 0 x0.out.length x0.out.length x0_g2 false, .int .i64 x0.deep] ∧ getArr S n0 (.cell t0 2) = some ⟨5, x0.out.map eNode, x0_z2, x0_g2⟩ → call SP 181 [.ptr n0 t0 0, .str x1] S = po 116 o (.v (.tup [])) (setArr (setBox S n0 t0 ([.list 5 (x0'.tokens.l.map eToken) false, .int .i64 x0'.tokens.pos, .sl 0 (.cell t0 2) 0 x0'.out.length x0'.out.length x0'_g2 false, .int .i64 x0'.deep] ++ ((getBox S n0 t0).getD []).drop 4)) n0 (.cell t0 2) ⟨5, x0'.out.map eNode, x0'_z2, x0'_g2⟩)
def R_parse_exprs_word (x0 : PExprs) (x0_g2 : Nat) (x0_z2 : Bool) (o : Option Int) (r0 : Int) (x0' : PExprs) (x0'_g2 : Nat) (x0'_z2 : Bool) : Prop := ∀ (S : Sto) (n0 : Nat) (t0 : Nat), (getBox S n0 t0).map (List.take 4) = some [.list 5 (x0.tokens.l.map eToken) false, .int .i64 x0.tokens.pos, .sl 0 (.cell t0 2) 0 x0.out.length x0.out.length x0_g2 false, .int .i64 x0.deep] ∧ getArr S n0 (.cell t0 2) = some ⟨5, x0.out.map eNode, x0_z2, x0_g2⟩ → call SP 201 [.ptr n0 t0 0] S = po 116 o (.v (.int .i64 r0)) (setArr (setBox S n0 t0 ([.list 5 (x0'.tokens.l.map eToken) false, .int .i64 x0'.tokens.pos, .sl 0 (.cell t0 2) 0 x0'.out.length x0'.out.length x0'_g2 false, .int .i64 x0'.deep] ++ ((getBox S n0 t0).getD []).drop 4)) n0 (.cell t0 2) ⟨5, x0'.out.map eNode, x0'_z2, x0'_g2⟩)
def R_parse_exprs_num (x0 : PExprs) (x0_g2 : Nat) (x0_z2 : Bool) (x1 : Int) (x2 : Int) (r0 : Int) (x0' : PExprs) (x0'_g2 : Nat) (x0'_z2 : Bool) : Prop := ∀ (S : Sto) (n0 : Nat) (t0 : Nat), (getBox S n0 t0).map (List.take 4) = some [.list 5 (x0.tokens.l.map eToken) false, .int .i64 x0.tokens.pos, .sl 0 (.cell t0 2) 0 x0.out.length x0.out.length x0_g2 false, .int .i64 x0.deep] ∧ getArr S n0 (.cell t0 2) = some ⟨5, x0.out.map eNode, x0_z2, x0_g2⟩ → call SP 202 [.ptr n0 t0 0, .int .i64 x1, .int .i64 x2] S = .ok (.v (.int .i64 r0)) (setArr (setBox S n0 t0 ([.list 5 (x0'.tokens.l.map eToken) false, .int .i64 x0'.tokens.pos, .sl 0 (.cell t0 2) 0 x0'.out.length x0'.out.length x0'_g2 false, .int .i64 x0'.deep] ++ ((getBox S n0 t0).getD []).drop 4)) n0 (.cell t0 2) ⟨5, x0'.out.map eNode, x0'_z2, x0'_g2⟩)
def R_parse_exprs_many (x0 : PExprs) (x0_g2 : Nat) (x0_z2 : Bool) (x1 : List UInt8) (o : Option Int) (r0 : List Int) (x0' : PExprs) (x0'_g2 : Nat) (x0'_z2 : Bool) : Prop := ∀ (S : Sto) (n0 : Nat) (t0 : Nat), (getBox S n0 t0).map (List.take 4) = some [.list 5 (x0.tokens.l.map eToken) false, .int .i64 x0.tokens.pos, .sl 0 (.cell t0 2) 0 x0.out.length x0.out.length x0_g2 false, .int .i64 x0.deep] ∧ getArr S n0 (.cell t0 2) = some ⟨5, x0.out.map eNode, x0_z2, x0_g2⟩ → call SP 203 [.ptr n0 t0 0, .str x1] S = po 116 o (.arr 1 (r0.map eI) false) (setArr (setBox S n0 t0 ([.list 5 (x0'.tokens.l.map eToken) false, .int .i64 x0'.tokens.pos, .sl 0 (.cell t0 2) 0 x0'.out.length x0'.out.length x0'_g2 false, .int .i64 x0'.deep] ++ ((getBox S n0 t0).getD []).drop 4)) n0 (.cell t0 2) ⟨5, x0'.out.map eNode, x0'_z2, x0'_g2⟩)
end Go.Proofs.YtfbcnpbhhooapaaGreatDoor.M

/- The machine's code of the functions, printed by a program of this session (sc2.py) out of the translation. Not trusted: Lean checks each by its own computation. -/
namespace Go.Proofs.YtfbcnpbhhooapaaGreatDoor.M
open Go
set_option linter.unusedVariables false
/-- (doorkeeper/parse.tokens).now -/
def sc_parse_tokens_now : SFunc := ⟨1, 13, .seq (.reg [⟨(some 2), none, (.alloc [(.int .i64 0), (.str []), (.int .i64 0), (.nils 2), (.int .i64 0)])⟩]) (.seq (.dreg [⟨(some 3), none, (.v (.mov (.t 0)))⟩, ⟨(some 4), none, (.v (.nchk (.t 3)))⟩, ⟨(some 5), none, (.v (.faddr 0 (.t 4)))⟩, ⟨(some 6), none, (.v (.load none (.t 5)))⟩, ⟨(some 7), none, (.v (.mov (.t 0)))⟩, ⟨(some 8), none, (.v (.nchk (.t 7)))⟩, ⟨(some 9), none, (.v (.faddr 1 (.t 8)))⟩, ⟨(some 10), none, (.v (.load none (.t 9)))⟩, ⟨(some 11), none, (.v (.iaddr 5 (.t 6) (.t 10)))⟩, ⟨(some 12), none, (.v (.load (some 5) (.t 11)))⟩, ⟨none, none, (.store 5 (.t 2) (.t 12))⟩] [false, false, false, false, false, false, false, false, true, true, true]) .ret), [(.cell 2 (some 5))]⟩
theorem U_parse_tokens_now : type_of% (sc_parse_tokens_now.eq_1) := sc_parse_tokens_now.eq_1
theorem comp_parse_tokens_now : comp Tryz.prog Tryz.f38 = some sc_parse_tokens_now := by kernel_rfl
/-- (doorkeeper/parse.tokens).fail -/
def sc_parse_tokens_fail : SFunc := ⟨2, 6, .reg [⟨(some 4), none, (.v (.mov (.t 1)))⟩, ⟨(some 5), none, (.v (.mkif 116 (.t 4)))⟩, ⟨none, none, (.panic (.t 5))⟩], []⟩
theorem U_parse_tokens_fail : type_of% (sc_parse_tokens_fail.eq_1) := sc_parse_tokens_fail.eq_1
theorem comp_parse_tokens_fail : comp Tryz.prog Tryz.f42 = some sc_parse_tokens_fail := by kernel_rfl
/-- (doorkeeper/parse.tokens).is -/
def sc_parse_tokens_is : SFunc := ⟨2, 16, .seq (.reg [⟨(some 4), none, (.v (.mov (.c (.bool false))))⟩]) (.seq (.reg [⟨(some 5), none, (.v (.mov (.t 0)))⟩, ⟨(some 6), none, (.call (.c (.func 38 [])) [(.t 5)])⟩, ⟨(some 7), none, (.v (.field 0 none (.t 6)))⟩, ⟨(some 8), none, (.v (.bin .eql (.t 7) (.c (.int .i64 4))))⟩, ⟨(some 9), none, (.v (.mov (.t 8)))⟩, ⟨(some 10), (some (9, true)), (.v (.mov (.t 0)))⟩, ⟨(some 11), (some (9, true)), (.call (.c (.func 38 [])) [(.t 10)])⟩, ⟨(some 12), (some (9, true)), (.v (.field 1 none (.t 11)))⟩, ⟨(some 13), (some (9, true)), (.v (.mov (.t 1)))⟩, ⟨(some 14), (some (9, true)), (.v (.bin .eql (.t 12) (.t 13)))⟩, ⟨(some 15), none, (.v (.pick (.t 9) (.t 14) (.c (.bool false))))⟩, ⟨(some 4), none, (.v (.mov (.t 15)))⟩]) .ret), [(.t 4)]⟩
theorem U_parse_tokens_is : type_of% (sc_parse_tokens_is.eq_1) := sc_parse_tokens_is.eq_1
theorem comp_parse_tokens_is : comp Tryz.prog Tryz.f102 = some sc_parse_tokens_is := by kernel_rfl
/-- (doorkeeper/parse.tokens).may -/
def sc_parse_tokens_may : SFunc := ⟨2, 16, .seq (.reg [⟨(some 4), none, (.v (.mov (.c (.bool false))))⟩]) (.seq (.seq (.reg [⟨(some 5), none, (.v (.mov (.t 0)))⟩, ⟨(some 6), none, (.v (.mov (.t 1)))⟩, ⟨(some 7), none, (.call (.c (.func 102 [])) [(.t 5), (.t 6)])⟩, ⟨(some 8), none, (.v (.un .not (.t 7)))⟩]) (.cond (.t 8) (.seq (.reg [⟨(some 4), none, (.v (.mov (.c (.bool false))))⟩]) .ret) .skip)) (.seq (.reg [⟨(some 9), none, (.v (.mov (.t 0)))⟩, ⟨(some 10), none, (.v (.nchk (.t 9)))⟩, ⟨(some 11), none, (.v (.faddr 1 (.t 10)))⟩, ⟨(some 12), none, (.v (.load none (.t 11)))⟩, ⟨(some 13), none, (.v (.bin .add (.t 12) (.c (.int .i64 1))))⟩, ⟨(some 14), none, (.v (.nchk (.t 9)))⟩, ⟨(some 15), none, (.v (.faddr 1 (.t 14)))⟩, ⟨none, none, (.store 1 (.t 15) (.t 13))⟩]) (.seq (.reg [⟨(some 4), none, (.v (.mov (.c (.bool true))))⟩]) .ret))), [(.t 4)]⟩
theorem U_parse_tokens_may : type_of% (sc_parse_tokens_may.eq_1) := sc_parse_tokens_may.eq_1
theorem comp_parse_tokens_may : comp Tryz.prog Tryz.f67 = some sc_parse_tokens_may := by kernel_rfl
/-- (doorkeeper/parse.tokens).need -/
def sc_parse_tokens_need : SFunc := ⟨2, 10, .seq (.reg [⟨(some 4), none, (.v (.mov (.t 0)))⟩, ⟨(some 5), none, (.v (.mov (.t 1)))⟩, ⟨(some 6), none, (.call (.c (.func 67 [])) [(.t 4), (.t 5)])⟩, ⟨(some 7), none, (.v (.un .not (.t 6)))⟩]) (.cond (.t 7) (.reg [⟨(some 8), none, (.v (.mov (.t 0)))⟩, ⟨(some 9), none, (.call (.c (.func 42 [])) [(.t 8), (.c (.int .i64 5))])⟩]) .skip), []⟩
theorem U_parse_tokens_need : type_of% (sc_parse_tokens_need.eq_1) := sc_parse_tokens_need.eq_1
theorem comp_parse_tokens_need : comp Tryz.prog Tryz.f66 = some sc_parse_tokens_need := by kernel_rfl
/-- (doorkeeper/parse.tokens).name -/
def sc_parse_tokens_name : SFunc := ⟨1, 20, .seq (.reg [⟨(some 2), none, (.v (.mov (.c (.str []))))⟩]) (.seq (.reg [⟨(some 4), none, (.v (.mov (.t 0)))⟩, ⟨(some 5), none, (.call (.c (.func 38 [])) [(.t 4)])⟩, ⟨(some 3), none, (.alloc [(.int .i64 0), (.str []), (.int .i64 0), (.nils 2), (.int .i64 0)])⟩, ⟨none, none, (.store 5 (.t 3) (.t 5))⟩]) (.seq (.seq (.reg [⟨(some 6), none, (.v (.faddr 0 (.t 3)))⟩, ⟨(some 7), none, (.v (.load none (.t 6)))⟩, ⟨(some 8), none, (.v (.bin .neq (.t 7) (.c (.int .i64 3))))⟩]) (.cond (.t 8) (.reg [⟨(some 9), none, (.v (.mov (.t 0)))⟩, ⟨(some 10), none, (.call (.c (.func 42 [])) [(.t 9), (.c (.int .i64 5))])⟩]) .skip)) (.seq (.reg [⟨(some 11), none, (.v (.mov (.t 0)))⟩, ⟨(some 12), none, (.v (.nchk (.t 11)))⟩, ⟨(some 13), none, (.v (.faddr 1 (.t 12)))⟩, ⟨(some 14), none, (.v (.load none (.t 13)))⟩, ⟨(some 15), none, (.v (.bin .add (.t 14) (.c (.int .i64 1))))⟩, ⟨(some 16), none, (.v (.nchk (.t 11)))⟩, ⟨(some 17), none, (.v (.faddr 1 (.t 16)))⟩, ⟨none, none, (.store 1 (.t 17) (.t 15))⟩]) (.seq (.reg [⟨(some 18), none, (.v (.faddr 1 (.t 3)))⟩, ⟨(some 19), none, (.v (.load none (.t 18)))⟩, ⟨(some 2), none, (.v (.mov (.t 19)))⟩]) .ret)))), [(.t 2)]⟩
theorem U_parse_tokens_name : type_of% (sc_parse_tokens_name.eq_1) := sc_parse_tokens_name.eq_1
theorem comp_parse_tokens_name : comp Tryz.prog Tryz.f101 = some sc_parse_tokens_name := by kernel_rfl
/-- (doorkeeper/parse.exprs).open -/
def sc_parse_exprs_open : SFunc := ⟨2, 32, .seq (.seq (.reg [⟨(some 4), none, (.v (.mov (.t 0)))⟩, ⟨(some 5), none, (.v (.nchk (.t 4)))⟩, ⟨(some 6), none, (.v (.faddr 0 (.t 5)))⟩, ⟨(some 7), none, (.v (.mov (.t 1)))⟩, ⟨(some 8), none, (.call (.c (.func 102 [])) [(.t 6), (.t 7)])⟩, ⟨(some 9), none, (.v (.mov (.t 8)))⟩, ⟨(some 10), (some (9, true)), (.v (.mov (.t 0)))⟩, ⟨(some 11), (some (9, true)), (.v (.nchk (.t 10)))⟩, ⟨(some 12), (some (9, true)), (.v (.faddr 3 (.t 11)))⟩, ⟨(some 13), (some (9, true)), (.v (.load none (.t 12)))⟩, ⟨(some 14), (some (9, true)), (.v (.bin .geq (.t 13) (.c (.int .i64 64))))⟩, ⟨(some 15), none, (.v (.pick (.t 9) (.t 14) (.c (.bool false))))⟩]) (.cond (.t 15) (.reg [⟨(some 16), none, (.v (.mov (.t 0)))⟩, ⟨(some 17), none, (.v (.nchk (.t 16)))⟩, ⟨(some 18), none, (.v (.faddr 0 (.t 17)))⟩, ⟨(some 19), none, (.call (.c (.func 42 [])) [(.t 18), (.c (.int .i64 6))])⟩]) .skip)) (.seq (.reg [⟨(some 20), none, (.v (.mov (.t 0)))⟩, ⟨(some 21), none, (.v (.nchk (.t 20)))⟩, ⟨(some 22), none, (.v (.faddr 0 (.t 21)))⟩, ⟨(some 23), none, (.v (.mov (.t 1)))⟩, ⟨(some 24), none, (.call (.c (.func 66 [])) [(.t 22), (.t 23)])⟩]) (.reg [⟨(some 25), none, (.v (.mov (.t 0)))⟩, ⟨(some 26), none, (.v (.nchk (.t 25)))⟩, ⟨(some 27), none, (.v (.faddr 3 (.t 26)))⟩, ⟨(some 28), none, (.v (.load none (.t 27)))⟩, ⟨(some 29), none, (.v (.bin .add (.t 28) (.c (.int .i64 1))))⟩, ⟨(some 30), none, (.v (.nchk (.t 25)))⟩, ⟨(some 31), none, (.v (.faddr 3 (.t 30)))⟩, ⟨none, none, (.store 1 (.t 31) (.t 29))⟩])), []⟩
theorem U_parse_exprs_open : type_of% (sc_parse_exprs_open.eq_1) := sc_parse_exprs_open.eq_1
theorem comp_parse_exprs_open : comp Tryz.prog Tryz.f104 = some sc_parse_exprs_open := by kernel_rfl
/-- (doorkeeper/parse.exprs).shut -/
def sc_parse_exprs_shut : SFunc := ⟨2, 16, .seq (.reg [⟨(some 4), none, (.v (.mov (.t 0)))⟩, ⟨(some 5), none, (.v (.nchk (.t 4)))⟩, ⟨(some 6), none, (.v (.faddr 0 (.t 5)))⟩, ⟨(some 7), none, (.v (.mov (.t 1)))⟩, ⟨(some 8), none, (.call (.c (.func 66 [])) [(.t 6), (.t 7)])⟩]) (.reg [⟨(some 9), none, (.v (.mov (.t 0)))⟩, ⟨(some 10), none, (.v (.nchk (.t 9)))⟩, ⟨(some 11), none, (.v (.faddr 3 (.t 10)))⟩, ⟨(some 12), none, (.v (.load none (.t 11)))⟩, ⟨(some 13), none, (.v (.bin .sub (.t 12) (.c (.int .i64 1))))⟩, ⟨(some 14), none, (.v (.nchk (.t 9)))⟩, ⟨(some 15), none, (.v (.faddr 3 (.t 14)))⟩, ⟨none, none, (.store 1 (.t 15) (.t 13))⟩]), []⟩
theorem U_parse_exprs_shut : type_of% (sc_parse_exprs_shut.eq_1) := sc_parse_exprs_shut.eq_1
theorem comp_parse_exprs_shut : comp Tryz.prog Tryz.f181 = some sc_parse_exprs_shut := by kernel_rfl
/-- (doorkeeper/parse.exprs).put -/
def sc_parse_exprs_put : SFunc := ⟨4, 29, .seq (.reg [⟨(some 8), none, (.v (.mov (.c (.int .i64 0))))⟩]) (.seq (.dreg [⟨(some 9), none, (.v (.mov (.t 0)))⟩, ⟨(some 10), none, (.v (.mov (.t 0)))⟩, ⟨(some 11), none, (.v (.nchk (.t 10)))⟩, ⟨(some 12), none, (.v (.faddr 2 (.t 11)))⟩, ⟨(some 13), none, (.v (.load none (.t 12)))⟩, ⟨(some 14), none, (.v (.mov (.t 1)))⟩, ⟨(some 15), none, (.v (.mov (.t 2)))⟩, ⟨(some 16), none, (.v (.mov (.t 3)))⟩, ⟨(some 17), none, (.call (.c (.func 144 [])) [(.t 16)])⟩, ⟨(some 18), none, (.v (.build [(.int .i64 0), (.int .i64 0), (.str []), (.nils 2), (.nils 1)] [(0, 1, (.t 14)), (2, 1, (.t 15)), (4, 1, (.t 17))]))⟩, ⟨(some 19), none, (.bslice 5 1 [(.int .i64 0), (.int .i64 0), (.str []), (.nils 2), (.nils 1)] [(0, (.t 18))])⟩, ⟨(some 20), none, (.append 5 80 (.t 13) (.t 19))⟩, ⟨(some 21), none, (.v (.nchk (.t 9)))⟩, ⟨(some 22), none, (.v (.faddr 2 (.t 21)))⟩, ⟨none, none, (.store 1 (.t 22) (.t 20))⟩] [false, false, false, false, false, false, false, false, false, false, false, true, true, true, true]) (.seq (.reg [⟨(some 23), none, (.v (.mov (.t 0)))⟩, ⟨(some 24), none, (.v (.nchk (.t 23)))⟩, ⟨(some 25), none, (.v (.faddr 2 (.t 24)))⟩, ⟨(some 26), none, (.v (.load none (.t 25)))⟩, ⟨(some 27), none, (.v (.len false (.t 26)))⟩, ⟨(some 28), none, (.v (.bin .sub (.t 27) (.c (.int .i64 1))))⟩, ⟨(some 8), none, (.v (.mov (.t 28)))⟩]) .ret)), [(.t 8)]⟩
theorem U_parse_exprs_put : type_of% (sc_parse_exprs_put.eq_1) := sc_parse_exprs_put.eq_1
theorem comp_parse_exprs_put : comp Tryz.prog Tryz.f105 = some sc_parse_exprs_put := by kernel_rfl
/-- doorkeeper/parse.two -/
def c_parse_two_1 : SC := .seq (.reg [⟨(some 15), none, (.bslice 1 5 [(.int .i64 0)] [(0, (.c (.int .i64 11))), (1, (.c (.int .i64 12))), (2, (.c (.int .i64 13))), (3, (.c (.int .i64 19))), (4, (.c (.int .i64 21)))])⟩, ⟨(some 7), none, (.v (.mov (.t 15)))⟩]) (.seq (.reg [⟨(some 16), none, (.v (.mov (.t 6)))⟩, ⟨(some 17), none, (.v (.mov (.t 0)))⟩, ⟨(some 18), none, (.v (.iaddr 1 (.t 16) (.t 17)))⟩, ⟨(some 19), none, (.v (.load none (.t 18)))⟩, ⟨(some 20), none, (.v (.mov (.t 1)))⟩, ⟨(some 21), none, (.call (.c (.func 62 [])) [(.t 19), (.t 20)])⟩, ⟨(some 8), none, (.v (.mov (.t 21)))⟩]) (.seq (.reg [⟨(some 22), none, (.v (.mov (.t 7)))⟩, ⟨(some 23), none, (.v (.mov (.t 0)))⟩, ⟨(some 24), none, (.v (.iaddr 1 (.t 22) (.t 23)))⟩, ⟨(some 25), none, (.v (.load none (.t 24)))⟩, ⟨(some 26), none, (.v (.mov (.t 8)))⟩, ⟨(some 27), none, (.v (.bin .add (.t 25) (.t 26)))⟩, ⟨(some 28), none, (.v (.mov (.t 8)))⟩, ⟨(some 29), none, (.v (.bin .geq (.t 28) (.c (.int .i64 0))))⟩, ⟨(some 4), none, (.v (.mov (.t 27)))⟩, ⟨(some 5), none, (.v (.mov (.t 29)))⟩]) .ret))
def c_parse_two_2 : SC := .seq (.reg [⟨(some 9), none, (.bslice 1 1 [(.str [])] [(0, (.c (.str [124, 124])))])⟩, ⟨(some 10), none, (.bslice 1 1 [(.str [])] [(0, (.c (.str [38, 38])))])⟩, ⟨(some 11), none, (.bslice 1 6 [(.str [])] [(0, (.c (.str [61, 61]))), (1, (.c (.str [33, 61]))), (2, (.c (.str [60]))), (3, (.c (.str [60, 61]))), (4, (.c (.str [62]))), (5, (.c (.str [62, 61])))])⟩, ⟨(some 12), none, (.bslice 1 2 [(.str [])] [(0, (.c (.str [43]))), (1, (.c (.str [45])))])⟩, ⟨(some 13), none, (.bslice 1 3 [(.str [])] [(0, (.c (.str [42]))), (1, (.c (.str [47]))), (2, (.c (.str [37])))])⟩, ⟨(some 14), none, (.bslice 1 5 [(.nils 1)] [(0, (.t 9)), (1, (.t 10)), (2, (.t 11)), (3, (.t 12)), (4, (.t 13))])⟩, ⟨(some 6), none, (.v (.mov (.t 14)))⟩]) c_parse_two_1
def sc_parse_two : SFunc := ⟨2, 30, .seq (.reg [⟨(some 4), none, (.v (.mov (.c (.int .i64 0))))⟩, ⟨(some 5), none, (.v (.mov (.c (.bool false))))⟩]) c_parse_two_2, [(.t 4), (.t 5)]⟩
theorem U_parse_two : type_of% (And.intro (fun (SP : Prg) (ac : Ac) => congrFun (congrArg (E SP) c_parse_two_1.eq_1) ac) <| And.intro (fun (SP : Prg) (ac : Ac) => congrFun (congrArg (E SP) c_parse_two_2.eq_1) ac) <| sc_parse_two.eq_1) := And.intro (fun (SP : Prg) (ac : Ac) => congrFun (congrArg (E SP) c_parse_two_1.eq_1) ac) <| And.intro (fun (SP : Prg) (ac : Ac) => congrFun (congrArg (E SP) c_parse_two_2.eq_1) ac) <| sc_parse_two.eq_1
theorem comp_parse_two : comp Tryz.prog Tryz.f143 = some sc_parse_two := by kernel_rfl
/-- slices.Index[[]string,string] -/
def c_slices_Index_string_string_1 : SC := .seq (.reg [⟨(some 4), none, (.v (.mov (.c (.int .i64 (-1)))))⟩]) .ret
def b_slices_Index_string_string_1 : SC := .seq (.reg [⟨(some 9), none, (.v (.bin .lss (.t 8) (.t 7)))⟩]) (.seq (.cond (.t 9) .skip (.exit 0)) (.seq (.block 1 (.seq (.reg [⟨(some 10), none, (.v (.mov (.t 8)))⟩, ⟨(some 5), none, (.v (.mov (.t 10)))⟩]) (.seq (.reg [⟨(some 11), none, (.v (.mov (.t 1)))⟩, ⟨(some 12), none, (.v (.mov (.t 0)))⟩, ⟨(some 13), none, (.v (.mov (.t 5)))⟩, ⟨(some 14), none, (.v (.iaddr 1 (.t 12) (.t 13)))⟩, ⟨(some 15), none, (.v (.load none (.t 14)))⟩, ⟨(some 16), none, (.v (.bin .eql (.t 11) (.t 15)))⟩]) (.cond (.t 16) (.seq (.reg [⟨(some 17), none, (.v (.mov (.t 5)))⟩, ⟨(some 4), none, (.v (.mov (.t 17)))⟩]) .ret) .skip)))) (.reg [⟨(some 18), none, (.v (.bin .add (.t 8) (.c (.int .i64 1))))⟩, ⟨(some 8), none, (.v (.mov (.t 18)))⟩])))
def sc_slices_Index_string_string : SFunc := ⟨2, 19, .seq (.reg [⟨(some 4), none, (.v (.mov (.c (.int .i64 0))))⟩]) (.seq (.seq (.reg [⟨(some 6), none, (.v (.mov (.t 0)))⟩, ⟨(some 7), none, (.v (.len false (.t 6)))⟩, ⟨(some 8), none, (.v (.mov (.c (.int .i64 0))))⟩]) (.block 0 (.loop b_slices_Index_string_string_1))) c_slices_Index_string_string_1), [(.t 4)]⟩
noncomputable def k_slices_Index_string_string_1 (SP : Prg) (x : EO) : CO := fin [(.t 4)] (thC SP (inBlk 0 (x)) c_slices_Index_string_string_1)
theorem U_slices_Index_string_string : type_of% (And.intro (fun (SP : Prg) (ac : Ac) => congrFun (congrArg (E SP) c_slices_Index_string_string_1.eq_1) ac) <| And.intro (fun (SP : Prg) (ac : Ac) => congrFun (congrArg (E SP) b_slices_Index_string_string_1.eq_1) ac) <| sc_slices_Index_string_string.eq_1) := And.intro (fun (SP : Prg) (ac : Ac) => congrFun (congrArg (E SP) c_slices_Index_string_string_1.eq_1) ac) <| And.intro (fun (SP : Prg) (ac : Ac) => congrFun (congrArg (E SP) b_slices_Index_string_string_1.eq_1) ac) <| sc_slices_Index_string_string.eq_1
theorem comp_slices_Index_string_string : comp Tryz.prog Tryz.f62 = some sc_slices_Index_string_string := by kernel_rfl
/-- (doorkeeper/parse.exprs).num -/
def sc_parse_exprs_num : SFunc := ⟨3, 20, .seq (.reg [⟨(some 6), none, (.v (.mov (.c (.int .i64 0))))⟩]) (.seq (.reg [⟨(some 8), none, (.v (.mov (.t 0)))⟩, ⟨(some 9), none, (.v (.mov (.t 1)))⟩, ⟨(some 10), none, (.call (.c (.func 105 [])) [(.t 8), (.t 9), (.c (.str [])), (.c (.nils 1))])⟩, ⟨(some 7), none, (.v (.mov (.t 10)))⟩]) (.seq (.reg [⟨(some 11), none, (.v (.mov (.t 0)))⟩, ⟨(some 12), none, (.v (.nchk (.t 11)))⟩, ⟨(some 13), none, (.v (.faddr 2 (.t 12)))⟩, ⟨(some 14), none, (.v (.load none (.t 13)))⟩, ⟨(some 15), none, (.v (.mov (.t 7)))⟩, ⟨(some 16), none, (.v (.mov (.t 2)))⟩, ⟨(some 17), none, (.v (.iaddr 5 (.t 14) (.t 15)))⟩, ⟨(some 18), none, (.v (.faddr 1 (.t 17)))⟩, ⟨none, none, (.store 1 (.t 18) (.t 16))⟩]) (.seq (.reg [⟨(some 19), none, (.v (.mov (.t 7)))⟩, ⟨(some 6), none, (.v (.mov (.t 19)))⟩]) .ret))), [(.t 6)]⟩
theorem U_parse_exprs_num : type_of% (sc_parse_exprs_num.eq_1) := sc_parse_exprs_num.eq_1
theorem comp_parse_exprs_num : comp Tryz.prog Tryz.f202 = some sc_parse_exprs_num := by kernel_rfl
/-- (doorkeeper/parse.exprs).word -/
def c_parse_exprs_word_1 : SC := .seq (.reg [⟨(some 32), none, (.v (.mov (.t 0)))⟩, ⟨(some 33), none, (.call (.c (.func 104 [])) [(.t 32), (.c (.str [40]))])⟩]) (.seq (.reg [⟨(some 34), none, (.v (.mov (.t 0)))⟩, ⟨(some 35), none, (.v (.mov (.t 3)))⟩, ⟨(some 36), none, (.v (.mov (.t 0)))⟩, ⟨(some 37), none, (.call (.c (.func 203 [])) [(.t 36), (.c (.str [41]))])⟩, ⟨(some 38), none, (.call (.c (.func 105 [])) [(.t 34), (.c (.int .i64 5)), (.t 35), (.t 37)])⟩, ⟨(some 2), none, (.v (.mov (.t 38)))⟩]) .ret)
def c_parse_exprs_word_2 : SC := .cond (.t 8) (.seq (.reg [⟨(some 11), none, (.v (.mov (.t 0)))⟩, ⟨(some 12), none, (.call (.c (.func 202 [])) [(.t 11), (.c (.int .i64 3)), (.c (.int .i64 1))])⟩, ⟨(some 2), none, (.v (.mov (.t 12)))⟩]) .ret) (.seq (.reg [⟨(some 14), none, (.v (.mov (.t 3)))⟩, ⟨(some 15), none, (.v (.bin .eql (.t 14) (.c (.str [102, 97, 108, 115, 101]))))⟩, ⟨(some 13), none, (.v (.mov (.t 15)))⟩]) (.cond (.t 13) (.seq (.reg [⟨(some 16), none, (.v (.mov (.t 0)))⟩, ⟨(some 17), none, (.call (.c (.func 202 [])) [(.t 16), (.c (.int .i64 3)), (.c (.int .i64 0))])⟩, ⟨(some 2), none, (.v (.mov (.t 17)))⟩]) .ret) (.seq (.reg [⟨(some 19), none, (.v (.mov (.t 0)))⟩, ⟨(some 20), none, (.v (.nchk (.t 19)))⟩, ⟨(some 21), none, (.v (.faddr 0 (.t 20)))⟩, ⟨(some 22), none, (.call (.c (.func 67 [])) [(.t 21), (.c (.str [46]))])⟩, ⟨(some 18), none, (.v (.mov (.t 22)))⟩]) (.cond (.t 18) (.seq (.reg [⟨(some 23), none, (.v (.mov (.t 0)))⟩, ⟨(some 24), none, (.v (.mov (.t 3)))⟩, ⟨(some 25), none, (.v (.bin .add (.t 24) (.c (.str [46]))))⟩, ⟨(some 26), none, (.v (.mov (.t 0)))⟩, ⟨(some 27), none, (.v (.nchk (.t 26)))⟩, ⟨(some 28), none, (.v (.faddr 0 (.t 27)))⟩, ⟨(some 29), none, (.call (.c (.func 101 [])) [(.t 28)])⟩, ⟨(some 30), none, (.v (.bin .add (.t 25) (.t 29)))⟩, ⟨(some 31), none, (.call (.c (.func 105 [])) [(.t 23), (.c (.int .i64 4)), (.t 30), (.c (.nils 1))])⟩, ⟨(some 2), none, (.v (.mov (.t 31)))⟩]) .ret) .skip))))
def c_parse_exprs_word_3 : SC := .seq (.block 0 (.seq (.reg [⟨(some 9), none, (.v (.mov (.t 3)))⟩, ⟨(some 10), none, (.v (.bin .eql (.t 9) (.c (.str [116, 114, 117, 101]))))⟩, ⟨(some 8), none, (.v (.mov (.t 10)))⟩]) c_parse_exprs_word_2)) c_parse_exprs_word_1
def c_parse_exprs_word_4 : SC := .seq (.reg [⟨(some 4), none, (.v (.mov (.t 0)))⟩, ⟨(some 5), none, (.v (.nchk (.t 4)))⟩, ⟨(some 6), none, (.v (.faddr 0 (.t 5)))⟩, ⟨(some 7), none, (.call (.c (.func 101 [])) [(.t 6)])⟩, ⟨(some 3), none, (.v (.mov (.t 7)))⟩]) c_parse_exprs_word_3
def sc_parse_exprs_word : SFunc := ⟨1, 39, .seq (.reg [⟨(some 2), none, (.v (.mov (.c (.int .i64 0))))⟩]) c_parse_exprs_word_4, [(.t 2)]⟩
theorem U_parse_exprs_word : type_of% (And.intro (fun (SP : Prg) (ac : Ac) => congrFun (congrArg (E SP) c_parse_exprs_word_1.eq_1) ac) <| And.intro (fun (SP : Prg) (ac : Ac) => congrFun (congrArg (E SP) c_parse_exprs_word_2.eq_1) ac) <| And.intro (fun (SP : Prg) (ac : Ac) => congrFun (congrArg (E SP) c_parse_exprs_word_3.eq_1) ac) <| And.intro (fun (SP : Prg) (ac : Ac) => congrFun (congrArg (E SP) c_parse_exprs_word_4.eq_1) ac) <| sc_parse_exprs_word.eq_1) := And.intro (fun (SP : Prg) (ac : Ac) => congrFun (congrArg (E SP) c_parse_exprs_word_1.eq_1) ac) <| And.intro (fun (SP : Prg) (ac : Ac) => congrFun (congrArg (E SP) c_parse_exprs_word_2.eq_1) ac) <| And.intro (fun (SP : Prg) (ac : Ac) => congrFun (congrArg (E SP) c_parse_exprs_word_3.eq_1) ac) <| And.intro (fun (SP : Prg) (ac : Ac) => congrFun (congrArg (E SP) c_parse_exprs_word_4.eq_1) ac) <| sc_parse_exprs_word.eq_1
theorem comp_parse_exprs_word : comp Tryz.prog Tryz.f201 = some sc_parse_exprs_word := by kernel_rfl
/-- (doorkeeper/parse.exprs).prim -/
def c_parse_exprs_prim_1 : SC := .seq (.reg [⟨(some 69), none, (.v (.mov (.t 0)))⟩, ⟨(some 70), none, (.call (.c (.func 104 [])) [(.t 69), (.c (.str [40]))])⟩]) (.seq (.reg [⟨(some 71), none, (.v (.mov (.t 0)))⟩, ⟨(some 72), none, (.call (.c (.func 68 [])) [(.t 71)])⟩, ⟨(some 5), none, (.v (.mov (.t 72)))⟩]) (.seq (.reg [⟨(some 73), none, (.v (.mov (.t 0)))⟩, ⟨(some 74), none, (.call (.c (.func 181 [])) [(.t 73), (.c (.str [41]))])⟩]) (.seq (.reg [⟨(some 75), none, (.v (.mov (.t 5)))⟩, ⟨(some 2), none, (.v (.mov (.t 75)))⟩]) .ret)))
def c_parse_exprs_prim_2 : SC := .cond (.t 33) (.seq (.reg [⟨(some 37), none, (.v (.mov (.t 0)))⟩, ⟨(some 38), none, (.v (.nchk (.t 37)))⟩, ⟨(some 39), none, (.v (.faddr 0 (.t 38)))⟩, ⟨(some 40), none, (.v (.faddr 1 (.t 39)))⟩, ⟨(some 41), none, (.v (.load none (.t 40)))⟩, ⟨(some 42), none, (.v (.bin .add (.t 41) (.c (.int .i64 1))))⟩, ⟨(some 43), none, (.v (.nchk (.t 37)))⟩, ⟨(some 44), none, (.v (.faddr 0 (.t 43)))⟩, ⟨(some 45), none, (.v (.faddr 1 (.t 44)))⟩, ⟨none, none, (.store 1 (.t 45) (.t 42))⟩]) (.seq (.reg [⟨(some 46), none, (.v (.mov (.t 0)))⟩, ⟨(some 47), none, (.call (.c (.func 105 [])) [(.t 46), (.c (.int .i64 2)), (.c (.str [])), (.c (.nils 1))])⟩, ⟨(some 4), none, (.v (.mov (.t 47)))⟩]) (.seq (.dreg [⟨(some 48), none, (.v (.mov (.t 0)))⟩, ⟨(some 49), none, (.v (.nchk (.t 48)))⟩, ⟨(some 50), none, (.v (.faddr 2 (.t 49)))⟩, ⟨(some 51), none, (.v (.load none (.t 50)))⟩, ⟨(some 52), none, (.v (.mov (.t 4)))⟩, ⟨(some 53), none, (.v (.faddr 3 (.t 3)))⟩, ⟨(some 54), none, (.v (.load none (.t 53)))⟩, ⟨(some 55), none, (.v (.iaddr 5 (.t 51) (.t 52)))⟩, ⟨(some 56), none, (.v (.faddr 3 (.t 55)))⟩, ⟨none, none, (.store 1 (.t 56) (.t 54))⟩] [false, false, false, false, false, false, false, true, true, true]) (.seq (.reg [⟨(some 57), none, (.v (.mov (.t 4)))⟩, ⟨(some 2), none, (.v (.mov (.t 57)))⟩]) .ret)))) (.seq (.reg [⟨(some 59), none, (.v (.mov (.t 0)))⟩, ⟨(some 60), none, (.v (.nchk (.t 59)))⟩, ⟨(some 61), none, (.v (.faddr 0 (.t 60)))⟩, ⟨(some 62), none, (.call (.c (.func 102 [])) [(.t 61), (.c (.str [91]))])⟩, ⟨(some 58), none, (.v (.mov (.t 62)))⟩]) (.cond (.t 58) (.seq (.reg [⟨(some 63), none, (.v (.mov (.t 0)))⟩, ⟨(some 64), none, (.call (.c (.func 104 [])) [(.t 63), (.c (.str [91]))])⟩]) (.seq (.reg [⟨(some 65), none, (.v (.mov (.t 0)))⟩, ⟨(some 66), none, (.v (.mov (.t 0)))⟩, ⟨(some 67), none, (.call (.c (.func 203 [])) [(.t 66), (.c (.str [93]))])⟩, ⟨(some 68), none, (.call (.c (.func 105 [])) [(.t 65), (.c (.int .i64 6)), (.c (.str [])), (.t 67)])⟩, ⟨(some 2), none, (.v (.mov (.t 68)))⟩]) .ret)) .skip))
def c_parse_exprs_prim_3 : SC := .cond (.t 16) (.seq (.reg [⟨(some 20), none, (.v (.mov (.t 0)))⟩, ⟨(some 21), none, (.v (.nchk (.t 20)))⟩, ⟨(some 22), none, (.v (.faddr 0 (.t 21)))⟩, ⟨(some 23), none, (.v (.faddr 1 (.t 22)))⟩, ⟨(some 24), none, (.v (.load none (.t 23)))⟩, ⟨(some 25), none, (.v (.bin .add (.t 24) (.c (.int .i64 1))))⟩, ⟨(some 26), none, (.v (.nchk (.t 20)))⟩, ⟨(some 27), none, (.v (.faddr 0 (.t 26)))⟩, ⟨(some 28), none, (.v (.faddr 1 (.t 27)))⟩, ⟨none, none, (.store 1 (.t 28) (.t 25))⟩]) (.seq (.reg [⟨(some 29), none, (.v (.mov (.t 0)))⟩, ⟨(some 30), none, (.v (.faddr 2 (.t 3)))⟩, ⟨(some 31), none, (.v (.load none (.t 30)))⟩, ⟨(some 32), none, (.call (.c (.func 202 [])) [(.t 29), (.c (.int .i64 1)), (.t 31)])⟩, ⟨(some 2), none, (.v (.mov (.t 32)))⟩]) .ret)) (.seq (.reg [⟨(some 34), none, (.v (.faddr 0 (.t 3)))⟩, ⟨(some 35), none, (.v (.load none (.t 34)))⟩, ⟨(some 36), none, (.v (.bin .eql (.t 35) (.c (.int .i64 2))))⟩, ⟨(some 33), none, (.v (.mov (.t 36)))⟩]) c_parse_exprs_prim_2)
def c_parse_exprs_prim_4 : SC := .cond (.t 10) (.seq (.reg [⟨(some 14), none, (.v (.mov (.t 0)))⟩, ⟨(some 15), none, (.call (.c (.func 201 [])) [(.t 14)])⟩, ⟨(some 2), none, (.v (.mov (.t 15)))⟩]) .ret) (.seq (.reg [⟨(some 17), none, (.v (.faddr 0 (.t 3)))⟩, ⟨(some 18), none, (.v (.load none (.t 17)))⟩, ⟨(some 19), none, (.v (.bin .eql (.t 18) (.c (.int .i64 1))))⟩, ⟨(some 16), none, (.v (.mov (.t 19)))⟩]) c_parse_exprs_prim_3)
def c_parse_exprs_prim_5 : SC := .seq (.block 0 (.seq (.reg [⟨(some 11), none, (.v (.faddr 0 (.t 3)))⟩, ⟨(some 12), none, (.v (.load none (.t 11)))⟩, ⟨(some 13), none, (.v (.bin .eql (.t 12) (.c (.int .i64 3))))⟩, ⟨(some 10), none, (.v (.mov (.t 13)))⟩]) c_parse_exprs_prim_4)) c_parse_exprs_prim_1
def c_parse_exprs_prim_6 : SC := .seq (.reg [⟨(some 6), none, (.v (.mov (.t 0)))⟩, ⟨(some 7), none, (.v (.nchk (.t 6)))⟩, ⟨(some 8), none, (.v (.faddr 0 (.t 7)))⟩, ⟨(some 9), none, (.call (.c (.func 38 [])) [(.t 8)])⟩, ⟨(some 3), none, (.alloc [(.int .i64 0), (.str []), (.int .i64 0), (.nils 2), (.int .i64 0)])⟩, ⟨none, none, (.store 5 (.t 3) (.t 9))⟩]) c_parse_exprs_prim_5
def sc_parse_exprs_prim : SFunc := ⟨1, 76, .seq (.reg [⟨(some 2), none, (.v (.mov (.c (.int .i64 0))))⟩]) c_parse_exprs_prim_6, [(.t 2)]⟩
theorem U_parse_exprs_prim : type_of% (And.intro (fun (SP : Prg) (ac : Ac) => congrFun (congrArg (E SP) c_parse_exprs_prim_1.eq_1) ac) <| And.intro (fun (SP : Prg) (ac : Ac) => congrFun (congrArg (E SP) c_parse_exprs_prim_2.eq_1) ac) <| And.intro (fun (SP : Prg) (ac : Ac) => congrFun (congrArg (E SP) c_parse_exprs_prim_3.eq_1) ac) <| And.intro (fun (SP : Prg) (ac : Ac) => congrFun (congrArg (E SP) c_parse_exprs_prim_4.eq_1) ac) <| And.intro (fun (SP : Prg) (ac : Ac) => congrFun (congrArg (E SP) c_parse_exprs_prim_5.eq_1) ac) <| And.intro (fun (SP : Prg) (ac : Ac) => congrFun (congrArg (E SP) c_parse_exprs_prim_6.eq_1) ac) <| sc_parse_exprs_prim.eq_1) := And.intro (fun (SP : Prg) (ac : Ac) => congrFun (congrArg (E SP) c_parse_exprs_prim_1.eq_1) ac) <| And.intro (fun (SP : Prg) (ac : Ac) => congrFun (congrArg (E SP) c_parse_exprs_prim_2.eq_1) ac) <| And.intro (fun (SP : Prg) (ac : Ac) => congrFun (congrArg (E SP) c_parse_exprs_prim_3.eq_1) ac) <| And.intro (fun (SP : Prg) (ac : Ac) => congrFun (congrArg (E SP) c_parse_exprs_prim_4.eq_1) ac) <| And.intro (fun (SP : Prg) (ac : Ac) => congrFun (congrArg (E SP) c_parse_exprs_prim_5.eq_1) ac) <| And.intro (fun (SP : Prg) (ac : Ac) => congrFun (congrArg (E SP) c_parse_exprs_prim_6.eq_1) ac) <| sc_parse_exprs_prim.eq_1
theorem comp_parse_exprs_prim : comp Tryz.prog Tryz.f180 = some sc_parse_exprs_prim := by kernel_rfl
/-- (doorkeeper/parse.exprs).whole -/
def sc_parse_exprs_whole : SFunc := ⟨1, 12, .seq (.reg [⟨(some 2), none, (.nilv 5)⟩]) (.seq (.reg [⟨(some 3), none, (.v (.mov (.t 0)))⟩, ⟨(some 4), none, (.v (.nchk (.t 3)))⟩, ⟨(some 5), none, (.v (.faddr 2 (.t 4)))⟩, ⟨none, none, (.store 1 (.t 5) (.c (.nils 5)))⟩]) (.seq (.reg [⟨(some 6), none, (.v (.mov (.t 0)))⟩, ⟨(some 7), none, (.call (.c (.func 68 [])) [(.t 6)])⟩]) (.seq (.reg [⟨(some 8), none, (.v (.mov (.t 0)))⟩, ⟨(some 9), none, (.v (.nchk (.t 8)))⟩, ⟨(some 10), none, (.v (.faddr 2 (.t 9)))⟩, ⟨(some 11), none, (.v (.load none (.t 10)))⟩, ⟨(some 2), none, (.v (.mov (.t 11)))⟩]) .ret))), [(.t 2)]⟩
theorem U_parse_exprs_whole : type_of% (sc_parse_exprs_whole.eq_1) := sc_parse_exprs_whole.eq_1
theorem comp_parse_exprs_whole : comp Tryz.prog Tryz.f41 = some sc_parse_exprs_whole := by kernel_rfl
/-- (doorkeeper/parse.exprs).chain -/
def c_parse_exprs_chain_1 : SC := .seq (.reg [⟨(some 54), none, (.v (.mov (.t 5)))⟩, ⟨(some 4), none, (.v (.mov (.t 54)))⟩]) .ret
def c_parse_exprs_chain_2 : SC := .seq (.seq (.reg [⟨(some 32), none, (.v (.mov (.t 7)))⟩, ⟨(some 33), none, (.v (.un .not (.t 32)))⟩]) (.cond (.t 33) (.exit 0) .skip)) (.seq (.reg [⟨(some 34), none, (.v (.mov (.t 0)))⟩, ⟨(some 35), none, (.v (.nchk (.t 34)))⟩, ⟨(some 36), none, (.v (.faddr 0 (.t 35)))⟩, ⟨(some 37), none, (.v (.faddr 1 (.t 36)))⟩, ⟨(some 38), none, (.v (.load none (.t 37)))⟩, ⟨(some 39), none, (.v (.bin .add (.t 38) (.c (.int .i64 1))))⟩, ⟨(some 40), none, (.v (.nchk (.t 34)))⟩, ⟨(some 41), none, (.v (.faddr 0 (.t 40)))⟩, ⟨(some 42), none, (.v (.faddr 1 (.t 41)))⟩, ⟨none, none, (.store 1 (.t 42) (.t 39))⟩]) (.seq (.reg [⟨(some 43), none, (.v (.mov (.t 0)))⟩, ⟨(some 44), none, (.v (.mov (.t 6)))⟩, ⟨(some 45), none, (.v (.mov (.t 5)))⟩, ⟨(some 46), none, (.v (.mov (.t 0)))⟩, ⟨(some 47), none, (.v (.mov (.t 1)))⟩, ⟨(some 48), none, (.v (.bin .add (.t 47) (.c (.int .i64 1))))⟩, ⟨(some 49), none, (.call (.c (.func 103 [])) [(.t 46), (.t 48)])⟩, ⟨(some 50), none, (.bslice 1 2 [(.int .i64 0)] [(0, (.t 45)), (1, (.t 49))])⟩, ⟨(some 51), none, (.call (.c (.func 105 [])) [(.t 43), (.t 44), (.c (.str [])), (.t 50)])⟩, ⟨(some 5), none, (.v (.mov (.t 51)))⟩]) (.seq (.reg [⟨(some 52), none, (.v (.mov (.t 1)))⟩, ⟨(some 53), none, (.v (.bin .eql (.t 52) (.c (.int .i64 2))))⟩]) (.cond (.t 53) (.exit 0) .skip))))
def c_parse_exprs_chain_3 : SC := .block 1 (.seq (.reg [⟨(some 23), none, (.v (.mov (.t 1)))⟩, ⟨(some 24), none, (.v (.mov (.t 0)))⟩, ⟨(some 25), none, (.v (.nchk (.t 24)))⟩, ⟨(some 26), none, (.v (.faddr 0 (.t 25)))⟩, ⟨(some 27), none, (.call (.c (.func 38 [])) [(.t 26)])⟩, ⟨(some 28), none, (.v (.field 1 none (.t 27)))⟩, ⟨(some 29), none, (.call (.c (.func 143 [])) [(.t 23), (.t 28)])⟩, ⟨(some 22), none, (.v (.mov (.t 29)))⟩, ⟨(some 30), none, (.v (.extract 0 (.t 22)))⟩, ⟨(some 31), none, (.v (.extract 1 (.t 22)))⟩, ⟨(some 6), none, (.v (.mov (.t 30)))⟩, ⟨(some 7), none, (.v (.mov (.t 31)))⟩]) c_parse_exprs_chain_2)
def b_parse_exprs_chain_1 : SC := .seq (.seq (.reg [⟨(some 16), none, (.v (.mov (.t 0)))⟩, ⟨(some 17), none, (.v (.nchk (.t 16)))⟩, ⟨(some 18), none, (.v (.faddr 0 (.t 17)))⟩, ⟨(some 19), none, (.call (.c (.func 38 [])) [(.t 18)])⟩, ⟨(some 20), none, (.v (.field 0 none (.t 19)))⟩, ⟨(some 21), none, (.v (.bin .eql (.t 20) (.c (.int .i64 4))))⟩]) (.cond (.t 21) .skip (.exit 0))) c_parse_exprs_chain_3
def c_parse_exprs_chain_4 : SC := .seq (.block 0 (.loop b_parse_exprs_chain_1)) c_parse_exprs_chain_1
def c_parse_exprs_chain_5 : SC := .seq (.reg [⟨(some 12), none, (.v (.mov (.t 0)))⟩, ⟨(some 13), none, (.v (.mov (.t 1)))⟩, ⟨(some 14), none, (.v (.bin .add (.t 13) (.c (.int .i64 1))))⟩, ⟨(some 15), none, (.call (.c (.func 103 [])) [(.t 12), (.t 14)])⟩, ⟨(some 5), none, (.v (.mov (.t 15)))⟩]) c_parse_exprs_chain_4
def c_parse_exprs_chain_6 : SC := .seq (.seq (.reg [⟨(some 8), none, (.v (.mov (.t 1)))⟩, ⟨(some 9), none, (.v (.bin .eql (.t 8) (.c (.int .i64 5))))⟩]) (.cond (.t 9) (.seq (.reg [⟨(some 10), none, (.v (.mov (.t 0)))⟩, ⟨(some 11), none, (.call (.c (.func 142 [])) [(.t 10)])⟩, ⟨(some 4), none, (.v (.mov (.t 11)))⟩]) .ret) .skip)) c_parse_exprs_chain_5
def sc_parse_exprs_chain : SFunc := ⟨2, 55, .seq (.reg [⟨(some 4), none, (.v (.mov (.c (.int .i64 0))))⟩]) c_parse_exprs_chain_6, [(.t 4)]⟩
noncomputable def k_parse_exprs_chain_1 (SP : Prg) (x : EO) : CO := fin [(.t 4)] (thC SP (inBlk 0 (x)) c_parse_exprs_chain_1)
theorem U_parse_exprs_chain : type_of% (And.intro (fun (SP : Prg) (ac : Ac) => congrFun (congrArg (E SP) c_parse_exprs_chain_1.eq_1) ac) <| And.intro (fun (SP : Prg) (ac : Ac) => congrFun (congrArg (E SP) c_parse_exprs_chain_2.eq_1) ac) <| And.intro (fun (SP : Prg) (ac : Ac) => congrFun (congrArg (E SP) c_parse_exprs_chain_3.eq_1) ac) <| And.intro (fun (SP : Prg) (ac : Ac) => congrFun (congrArg (E SP) b_parse_exprs_chain_1.eq_1) ac) <| And.intro (fun (SP : Prg) (ac : Ac) => congrFun (congrArg (E SP) c_parse_exprs_chain_4.eq_1) ac) <| And.intro (fun (SP : Prg) (ac : Ac) => congrFun (congrArg (E SP) c_parse_exprs_chain_5.eq_1) ac) <| And.intro (fun (SP : Prg) (ac : Ac) => congrFun (congrArg (E SP) c_parse_exprs_chain_6.eq_1) ac) <| sc_parse_exprs_chain.eq_1) := And.intro (fun (SP : Prg) (ac : Ac) => congrFun (congrArg (E SP) c_parse_exprs_chain_1.eq_1) ac) <| And.intro (fun (SP : Prg) (ac : Ac) => congrFun (congrArg (E SP) c_parse_exprs_chain_2.eq_1) ac) <| And.intro (fun (SP : Prg) (ac : Ac) => congrFun (congrArg (E SP) c_parse_exprs_chain_3.eq_1) ac) <| And.intro (fun (SP : Prg) (ac : Ac) => congrFun (congrArg (E SP) b_parse_exprs_chain_1.eq_1) ac) <| And.intro (fun (SP : Prg) (ac : Ac) => congrFun (congrArg (E SP) c_parse_exprs_chain_4.eq_1) ac) <| And.intro (fun (SP : Prg) (ac : Ac) => congrFun (congrArg (E SP) c_parse_exprs_chain_5.eq_1) ac) <| And.intro (fun (SP : Prg) (ac : Ac) => congrFun (congrArg (E SP) c_parse_exprs_chain_6.eq_1) ac) <| sc_parse_exprs_chain.eq_1
theorem comp_parse_exprs_chain : comp Tryz.prog Tryz.f103 = some sc_parse_exprs_chain := by kernel_rfl
/-- (doorkeeper/parse.exprs).expr -/
def c_parse_exprs_expr_1 : SC := .seq (.reg [⟨(some 14), none, (.v (.mov (.t 0)))⟩, ⟨(some 15), none, (.call (.c (.func 104 [])) [(.t 14), (.c (.str [63]))])⟩]) (.seq (.reg [⟨(some 16), none, (.v (.mov (.t 0)))⟩, ⟨(some 17), none, (.call (.c (.func 68 [])) [(.t 16)])⟩, ⟨(some 4), none, (.v (.mov (.t 17)))⟩]) (.seq (.reg [⟨(some 18), none, (.v (.mov (.t 0)))⟩, ⟨(some 19), none, (.v (.nchk (.t 18)))⟩, ⟨(some 20), none, (.v (.faddr 0 (.t 19)))⟩, ⟨(some 21), none, (.call (.c (.func 66 [])) [(.t 20), (.c (.str [58]))])⟩]) (.seq (.reg [⟨(some 22), none, (.v (.mov (.t 0)))⟩, ⟨(some 23), none, (.call (.c (.func 68 [])) [(.t 22)])⟩, ⟨(some 5), none, (.v (.mov (.t 23)))⟩]) (.seq (.reg [⟨(some 24), none, (.v (.mov (.t 0)))⟩, ⟨(some 25), none, (.v (.nchk (.t 24)))⟩, ⟨(some 26), none, (.v (.faddr 3 (.t 25)))⟩, ⟨(some 27), none, (.v (.load none (.t 26)))⟩, ⟨(some 28), none, (.v (.bin .sub (.t 27) (.c (.int .i64 1))))⟩, ⟨(some 29), none, (.v (.nchk (.t 24)))⟩, ⟨(some 30), none, (.v (.faddr 3 (.t 29)))⟩, ⟨none, none, (.store 1 (.t 30) (.t 28))⟩]) (.seq (.reg [⟨(some 31), none, (.v (.mov (.t 0)))⟩, ⟨(some 32), none, (.v (.mov (.t 3)))⟩, ⟨(some 33), none, (.v (.mov (.t 4)))⟩, ⟨(some 34), none, (.v (.mov (.t 5)))⟩, ⟨(some 35), none, (.bslice 1 3 [(.int .i64 0)] [(0, (.t 32)), (1, (.t 33)), (2, (.t 34))])⟩, ⟨(some 36), none, (.call (.c (.func 105 [])) [(.t 31), (.c (.int .i64 10)), (.c (.str [])), (.t 35)])⟩, ⟨(some 2), none, (.v (.mov (.t 36)))⟩]) .ret)))))
def c_parse_exprs_expr_2 : SC := .seq (.seq (.reg [⟨(some 8), none, (.v (.mov (.t 0)))⟩, ⟨(some 9), none, (.v (.nchk (.t 8)))⟩, ⟨(some 10), none, (.v (.faddr 0 (.t 9)))⟩, ⟨(some 11), none, (.call (.c (.func 102 [])) [(.t 10), (.c (.str [63]))])⟩, ⟨(some 12), none, (.v (.un .not (.t 11)))⟩]) (.cond (.t 12) (.seq (.reg [⟨(some 13), none, (.v (.mov (.t 3)))⟩, ⟨(some 2), none, (.v (.mov (.t 13)))⟩]) .ret) .skip)) c_parse_exprs_expr_1
def c_parse_exprs_expr_3 : SC := .seq (.reg [⟨(some 6), none, (.v (.mov (.t 0)))⟩, ⟨(some 7), none, (.call (.c (.func 103 [])) [(.t 6), (.c (.int .i64 0))])⟩, ⟨(some 3), none, (.v (.mov (.t 7)))⟩]) c_parse_exprs_expr_2
def sc_parse_exprs_expr : SFunc := ⟨1, 37, .seq (.reg [⟨(some 2), none, (.v (.mov (.c (.int .i64 0))))⟩]) c_parse_exprs_expr_3, [(.t 2)]⟩
theorem U_parse_exprs_expr : type_of% (And.intro (fun (SP : Prg) (ac : Ac) => congrFun (congrArg (E SP) c_parse_exprs_expr_1.eq_1) ac) <| And.intro (fun (SP : Prg) (ac : Ac) => congrFun (congrArg (E SP) c_parse_exprs_expr_2.eq_1) ac) <| And.intro (fun (SP : Prg) (ac : Ac) => congrFun (congrArg (E SP) c_parse_exprs_expr_3.eq_1) ac) <| sc_parse_exprs_expr.eq_1) := And.intro (fun (SP : Prg) (ac : Ac) => congrFun (congrArg (E SP) c_parse_exprs_expr_1.eq_1) ac) <| And.intro (fun (SP : Prg) (ac : Ac) => congrFun (congrArg (E SP) c_parse_exprs_expr_2.eq_1) ac) <| And.intro (fun (SP : Prg) (ac : Ac) => congrFun (congrArg (E SP) c_parse_exprs_expr_3.eq_1) ac) <| sc_parse_exprs_expr.eq_1
theorem comp_parse_exprs_expr : comp Tryz.prog Tryz.f68 = some sc_parse_exprs_expr := by kernel_rfl
/-- (doorkeeper/parse.exprs).un -/
def c_parse_exprs_un_1 : SC := .seq (.reg [⟨(some 21), none, (.v (.mov (.t 0)))⟩, ⟨(some 22), none, (.call (.c (.func 142 [])) [(.t 21)])⟩, ⟨(some 4), none, (.v (.mov (.t 22)))⟩]) (.seq (.reg [⟨(some 23), none, (.v (.mov (.t 0)))⟩, ⟨(some 24), none, (.v (.nchk (.t 23)))⟩, ⟨(some 25), none, (.v (.faddr 3 (.t 24)))⟩, ⟨(some 26), none, (.v (.load none (.t 25)))⟩, ⟨(some 27), none, (.v (.bin .sub (.t 26) (.c (.int .i64 1))))⟩, ⟨(some 28), none, (.v (.nchk (.t 23)))⟩, ⟨(some 29), none, (.v (.faddr 3 (.t 28)))⟩, ⟨none, none, (.store 1 (.t 29) (.t 27))⟩]) (.seq (.reg [⟨(some 30), none, (.v (.mov (.t 0)))⟩, ⟨(some 31), none, (.v (.mov (.t 3)))⟩, ⟨(some 32), none, (.v (.mov (.t 4)))⟩, ⟨(some 33), none, (.bslice 1 1 [(.int .i64 0)] [(0, (.t 32))])⟩, ⟨(some 34), none, (.call (.c (.func 105 [])) [(.t 30), (.t 31), (.c (.str [])), (.t 33)])⟩, ⟨(some 2), none, (.v (.mov (.t 34)))⟩]) .ret))
def c_parse_exprs_un_2 : SC := .seq (.block 0 (.seq (.reg [⟨(some 8), none, (.v (.mov (.t 0)))⟩, ⟨(some 9), none, (.v (.nchk (.t 8)))⟩, ⟨(some 10), none, (.v (.faddr 0 (.t 9)))⟩, ⟨(some 11), none, (.call (.c (.func 102 [])) [(.t 10), (.c (.str [45]))])⟩, ⟨(some 7), none, (.v (.mov (.t 11)))⟩]) (.cond (.t 7) (.reg [⟨(some 12), none, (.v (.mov (.t 0)))⟩, ⟨(some 13), none, (.call (.c (.func 104 [])) [(.t 12), (.c (.str [45]))])⟩]) (.seq (.reg [⟨(some 15), none, (.v (.mov (.t 0)))⟩, ⟨(some 16), none, (.v (.nchk (.t 15)))⟩, ⟨(some 17), none, (.v (.faddr 0 (.t 16)))⟩, ⟨(some 18), none, (.call (.c (.func 102 [])) [(.t 17), (.c (.str [33]))])⟩, ⟨(some 14), none, (.v (.mov (.t 18)))⟩]) (.cond (.t 14) (.seq (.reg [⟨(some 19), none, (.v (.mov (.t 0)))⟩, ⟨(some 20), none, (.call (.c (.func 104 [])) [(.t 19), (.c (.str [33]))])⟩]) (.reg [⟨(some 3), none, (.v (.mov (.c (.int .i64 8))))⟩])) (.seq (.reg [⟨(some 5), none, (.v (.mov (.t 0)))⟩, ⟨(some 6), none, (.call (.c (.func 167 [])) [(.t 5)])⟩, ⟨(some 2), none, (.v (.mov (.t 6)))⟩]) .ret)))))) c_parse_exprs_un_1
def c_parse_exprs_un_3 : SC := .seq (.reg [⟨(some 3), none, (.v (.mov (.c (.int .i64 9))))⟩]) c_parse_exprs_un_2
def sc_parse_exprs_un : SFunc := ⟨1, 35, .seq (.reg [⟨(some 2), none, (.v (.mov (.c (.int .i64 0))))⟩]) c_parse_exprs_un_3, [(.t 2)]⟩
theorem U_parse_exprs_un : type_of% (And.intro (fun (SP : Prg) (ac : Ac) => congrFun (congrArg (E SP) c_parse_exprs_un_1.eq_1) ac) <| And.intro (fun (SP : Prg) (ac : Ac) => congrFun (congrArg (E SP) c_parse_exprs_un_2.eq_1) ac) <| And.intro (fun (SP : Prg) (ac : Ac) => congrFun (congrArg (E SP) c_parse_exprs_un_3.eq_1) ac) <| sc_parse_exprs_un.eq_1) := And.intro (fun (SP : Prg) (ac : Ac) => congrFun (congrArg (E SP) c_parse_exprs_un_1.eq_1) ac) <| And.intro (fun (SP : Prg) (ac : Ac) => congrFun (congrArg (E SP) c_parse_exprs_un_2.eq_1) ac) <| And.intro (fun (SP : Prg) (ac : Ac) => congrFun (congrArg (E SP) c_parse_exprs_un_3.eq_1) ac) <| sc_parse_exprs_un.eq_1
theorem comp_parse_exprs_un : comp Tryz.prog Tryz.f142 = some sc_parse_exprs_un := by kernel_rfl
/-- (doorkeeper/parse.exprs).post -/
def c_parse_exprs_post_1 : SC := .seq (.reg [⟨(some 22), none, (.v (.mov (.t 3)))⟩, ⟨(some 2), none, (.v (.mov (.t 22)))⟩]) .ret
def b_parse_exprs_post_1 : SC := .seq (.seq (.reg [⟨(some 7), none, (.v (.mov (.t 0)))⟩, ⟨(some 8), none, (.v (.nchk (.t 7)))⟩, ⟨(some 9), none, (.v (.faddr 0 (.t 8)))⟩, ⟨(some 10), none, (.call (.c (.func 102 [])) [(.t 9), (.c (.str [91]))])⟩]) (.cond (.t 10) .skip (.exit 0))) (.block 1 (.seq (.reg [⟨(some 11), none, (.v (.mov (.t 0)))⟩, ⟨(some 12), none, (.call (.c (.func 104 [])) [(.t 11), (.c (.str [91]))])⟩]) (.seq (.reg [⟨(some 13), none, (.v (.mov (.t 0)))⟩, ⟨(some 14), none, (.call (.c (.func 68 [])) [(.t 13)])⟩, ⟨(some 4), none, (.v (.mov (.t 14)))⟩]) (.seq (.reg [⟨(some 15), none, (.v (.mov (.t 0)))⟩, ⟨(some 16), none, (.call (.c (.func 181 [])) [(.t 15), (.c (.str [93]))])⟩]) (.reg [⟨(some 17), none, (.v (.mov (.t 0)))⟩, ⟨(some 18), none, (.v (.mov (.t 3)))⟩, ⟨(some 19), none, (.v (.mov (.t 4)))⟩, ⟨(some 20), none, (.bslice 1 2 [(.int .i64 0)] [(0, (.t 18)), (1, (.t 19))])⟩, ⟨(some 21), none, (.call (.c (.func 105 [])) [(.t 17), (.c (.int .i64 7)), (.c (.str [])), (.t 20)])⟩, ⟨(some 3), none, (.v (.mov (.t 21)))⟩])))))
def sc_parse_exprs_post : SFunc := ⟨1, 23, .seq (.reg [⟨(some 2), none, (.v (.mov (.c (.int .i64 0))))⟩]) (.seq (.reg [⟨(some 5), none, (.v (.mov (.t 0)))⟩, ⟨(some 6), none, (.call (.c (.func 180 [])) [(.t 5)])⟩, ⟨(some 3), none, (.v (.mov (.t 6)))⟩]) (.seq (.block 0 (.loop b_parse_exprs_post_1)) c_parse_exprs_post_1)), [(.t 2)]⟩
noncomputable def k_parse_exprs_post_1 (SP : Prg) (x : EO) : CO := fin [(.t 2)] (thC SP (inBlk 0 (x)) c_parse_exprs_post_1)
theorem U_parse_exprs_post : type_of% (And.intro (fun (SP : Prg) (ac : Ac) => congrFun (congrArg (E SP) c_parse_exprs_post_1.eq_1) ac) <| And.intro (fun (SP : Prg) (ac : Ac) => congrFun (congrArg (E SP) b_parse_exprs_post_1.eq_1) ac) <| sc_parse_exprs_post.eq_1) := And.intro (fun (SP : Prg) (ac : Ac) => congrFun (congrArg (E SP) c_parse_exprs_post_1.eq_1) ac) <| And.intro (fun (SP : Prg) (ac : Ac) => congrFun (congrArg (E SP) b_parse_exprs_post_1.eq_1) ac) <| sc_parse_exprs_post.eq_1
theorem comp_parse_exprs_post : comp Tryz.prog Tryz.f167 = some sc_parse_exprs_post := by kernel_rfl
/-- (doorkeeper/parse.exprs).many -/
def c_parse_exprs_many_1 : SC := .seq (.reg [⟨(some 26), none, (.v (.mov (.t 0)))⟩, ⟨(some 27), none, (.v (.mov (.t 1)))⟩, ⟨(some 28), none, (.call (.c (.func 181 [])) [(.t 26), (.t 27)])⟩]) (.seq (.reg [⟨(some 29), none, (.v (.mov (.t 5)))⟩, ⟨(some 4), none, (.v (.mov (.t 29)))⟩]) .ret)
def b_parse_exprs_many_1 : SC := .seq (.seq (.reg [⟨(some 17), none, (.v (.mov (.t 0)))⟩, ⟨(some 18), none, (.v (.nchk (.t 17)))⟩, ⟨(some 19), none, (.v (.faddr 0 (.t 18)))⟩, ⟨(some 20), none, (.call (.c (.func 67 [])) [(.t 19), (.c (.str [44]))])⟩]) (.cond (.t 20) .skip (.exit 0))) (.block 1 (.reg [⟨(some 21), none, (.v (.mov (.t 5)))⟩, ⟨(some 22), none, (.v (.mov (.t 0)))⟩, ⟨(some 23), none, (.call (.c (.func 68 [])) [(.t 22)])⟩, ⟨(some 24), none, (.bslice 1 1 [(.int .i64 0)] [(0, (.t 23))])⟩, ⟨(some 25), none, (.append 1 8 (.t 21) (.t 24))⟩, ⟨(some 5), none, (.v (.mov (.t 25)))⟩]))
def c_parse_exprs_many_2 : SC := .seq (.reg [⟨(some 5), none, (.nilv 1)⟩]) (.seq (.seq (.reg [⟨(some 6), none, (.v (.mov (.t 0)))⟩, ⟨(some 7), none, (.v (.nchk (.t 6)))⟩, ⟨(some 8), none, (.v (.faddr 0 (.t 7)))⟩, ⟨(some 9), none, (.v (.mov (.t 1)))⟩, ⟨(some 10), none, (.call (.c (.func 102 [])) [(.t 8), (.t 9)])⟩, ⟨(some 11), none, (.v (.un .not (.t 10)))⟩]) (.cond (.t 11) (.seq (.reg [⟨(some 12), none, (.v (.mov (.t 5)))⟩, ⟨(some 13), none, (.v (.mov (.t 0)))⟩, ⟨(some 14), none, (.call (.c (.func 68 [])) [(.t 13)])⟩, ⟨(some 15), none, (.bslice 1 1 [(.int .i64 0)] [(0, (.t 14))])⟩, ⟨(some 16), none, (.append 1 8 (.t 12) (.t 15))⟩, ⟨(some 5), none, (.v (.mov (.t 16)))⟩]) (.block 0 (.loop b_parse_exprs_many_1))) .skip)) c_parse_exprs_many_1)
def sc_parse_exprs_many : SFunc := ⟨2, 30, .seq (.reg [⟨(some 4), none, (.nilv 1)⟩]) c_parse_exprs_many_2, [(.t 4)]⟩
noncomputable def k_parse_exprs_many_1 (SP : Prg) (x : EO) : CO := fin [(.t 4)] (thC SP (inBlk 0 (x)) c_parse_exprs_many_1)
theorem U_parse_exprs_many : type_of% (And.intro (fun (SP : Prg) (ac : Ac) => congrFun (congrArg (E SP) c_parse_exprs_many_1.eq_1) ac) <| And.intro (fun (SP : Prg) (ac : Ac) => congrFun (congrArg (E SP) b_parse_exprs_many_1.eq_1) ac) <| And.intro (fun (SP : Prg) (ac : Ac) => congrFun (congrArg (E SP) c_parse_exprs_many_2.eq_1) ac) <| sc_parse_exprs_many.eq_1) := And.intro (fun (SP : Prg) (ac : Ac) => congrFun (congrArg (E SP) c_parse_exprs_many_1.eq_1) ac) <| And.intro (fun (SP : Prg) (ac : Ac) => congrFun (congrArg (E SP) b_parse_exprs_many_1.eq_1) ac) <| And.intro (fun (SP : Prg) (ac : Ac) => congrFun (congrArg (E SP) c_parse_exprs_many_2.eq_1) ac) <| sc_parse_exprs_many.eq_1
theorem comp_parse_exprs_many : comp Tryz.prog Tryz.f203 = some sc_parse_exprs_many := by kernel_rfl
/-- (doorkeeper/parse.blocks).label -/
def c_parse_blocks_label_1 : SC := .seq (.reg [⟨(some 39), none, (.v (.mov (.t 0)))⟩, ⟨(some 40), none, (.v (.nchk (.t 39)))⟩, ⟨(some 41), none, (.v (.faddr 0 (.t 40)))⟩, ⟨(some 42), none, (.v (.faddr 0 (.t 41)))⟩, ⟨(some 43), none, (.v (.faddr 1 (.t 42)))⟩, ⟨(some 44), none, (.v (.load none (.t 43)))⟩, ⟨(some 45), none, (.v (.bin .add (.t 44) (.c (.int .i64 1))))⟩, ⟨(some 46), none, (.v (.nchk (.t 39)))⟩, ⟨(some 47), none, (.v (.faddr 0 (.t 46)))⟩, ⟨(some 48), none, (.v (.faddr 0 (.t 47)))⟩, ⟨(some 49), none, (.v (.faddr 1 (.t 48)))⟩, ⟨none, none, (.store 1 (.t 49) (.t 45))⟩]) (.seq (.reg [⟨(some 50), none, (.v (.faddr 3 (.t 3)))⟩, ⟨(some 51), none, (.v (.load none (.t 50)))⟩, ⟨(some 52), none, (.v (.iaddr 2 (.t 51) (.c (.int .i64 0))))⟩, ⟨(some 53), none, (.v (.faddr 1 (.t 52)))⟩, ⟨(some 54), none, (.v (.load none (.t 53)))⟩, ⟨(some 2), none, (.v (.mov (.t 54)))⟩]) .ret)
def c_parse_blocks_label_2 : SC := .cond (.t 33) (.reg [⟨(some 34), none, (.v (.mov (.t 0)))⟩, ⟨(some 35), none, (.v (.nchk (.t 34)))⟩, ⟨(some 36), none, (.v (.faddr 0 (.t 35)))⟩, ⟨(some 37), none, (.v (.faddr 0 (.t 36)))⟩, ⟨(some 38), none, (.call (.c (.func 42 [])) [(.t 37), (.c (.int .i64 5))])⟩]) .skip
def c_parse_blocks_label_3 : SC := .seq (.seq (.reg [⟨(some 9), none, (.v (.faddr 0 (.t 3)))⟩, ⟨(some 10), none, (.v (.load none (.t 9)))⟩, ⟨(some 11), none, (.v (.bin .neq (.t 10) (.c (.int .i64 2))))⟩, ⟨(some 12), none, (.v (.mov (.t 11)))⟩, ⟨(some 13), (some (12, false)), (.v (.faddr 3 (.t 3)))⟩, ⟨(some 14), (some (12, false)), (.v (.load none (.t 13)))⟩, ⟨(some 15), (some (12, false)), (.v (.len false (.t 14)))⟩, ⟨(some 16), (some (12, false)), (.v (.bin .neq (.t 15) (.c (.int .i64 1))))⟩, ⟨(some 17), none, (.v (.pick (.t 12) (.c (.bool true)) (.t 16)))⟩, ⟨(some 18), none, (.v (.mov (.t 17)))⟩, ⟨(some 19), (some (18, false)), (.v (.faddr 3 (.t 3)))⟩, ⟨(some 20), (some (18, false)), (.v (.load none (.t 19)))⟩, ⟨(some 21), (some (18, false)), (.v (.iaddr 2 (.t 20) (.c (.int .i64 0))))⟩, ⟨(some 22), (some (18, false)), (.v (.faddr 0 (.t 21)))⟩, ⟨(some 23), (some (18, false)), (.v (.load none (.t 22)))⟩, ⟨(some 24), none, (.v (.pick (.t 18) (.c (.bool true)) (.t 23)))⟩, ⟨(some 25), none, (.v (.mov (.t 24)))⟩, ⟨(some 26), (some (25, false)), (.v (.faddr 3 (.t 3)))⟩, ⟨(some 27), (some (25, false)), (.v (.load none (.t 26)))⟩, ⟨(some 28), (some (25, false)), (.v (.iaddr 2 (.t 27) (.c (.int .i64 0))))⟩, ⟨(some 29), (some (25, false)), (.v (.faddr 1 (.t 28)))⟩, ⟨(some 30), (some (25, false)), (.v (.load none (.t 29)))⟩, ⟨(some 31), (some (25, false)), (.call (.c (.func 81 [])) [(.t 30)])⟩, ⟨(some 32), (some (25, false)), (.v (.un .not (.t 31)))⟩, ⟨(some 33), none, (.v (.pick (.t 25) (.c (.bool true)) (.t 32)))⟩]) c_parse_blocks_label_2) c_parse_blocks_label_1
def c_parse_blocks_label_4 : SC := .seq (.reg [⟨(some 4), none, (.v (.mov (.t 0)))⟩, ⟨(some 5), none, (.v (.nchk (.t 4)))⟩, ⟨(some 6), none, (.v (.faddr 0 (.t 5)))⟩, ⟨(some 7), none, (.v (.faddr 0 (.t 6)))⟩, ⟨(some 8), none, (.call (.c (.func 38 [])) [(.t 7)])⟩, ⟨(some 3), none, (.alloc [(.int .i64 0), (.str []), (.int .i64 0), (.nils 2), (.int .i64 0)])⟩, ⟨none, none, (.store 5 (.t 3) (.t 8))⟩]) c_parse_blocks_label_3
def sc_parse_blocks_label : SFunc := ⟨1, 55, .seq (.reg [⟨(some 2), none, (.v (.mov (.c (.str []))))⟩]) c_parse_blocks_label_4, [(.t 2)]⟩
theorem U_parse_blocks_label : type_of% (And.intro (fun (SP : Prg) (ac : Ac) => congrFun (congrArg (E SP) c_parse_blocks_label_1.eq_1) ac) <| And.intro (fun (SP : Prg) (ac : Ac) => congrFun (congrArg (E SP) c_parse_blocks_label_2.eq_1) ac) <| And.intro (fun (SP : Prg) (ac : Ac) => congrFun (congrArg (E SP) c_parse_blocks_label_3.eq_1) ac) <| And.intro (fun (SP : Prg) (ac : Ac) => congrFun (congrArg (E SP) c_parse_blocks_label_4.eq_1) ac) <| sc_parse_blocks_label.eq_1) := And.intro (fun (SP : Prg) (ac : Ac) => congrFun (congrArg (E SP) c_parse_blocks_label_1.eq_1) ac) <| And.intro (fun (SP : Prg) (ac : Ac) => congrFun (congrArg (E SP) c_parse_blocks_label_2.eq_1) ac) <| And.intro (fun (SP : Prg) (ac : Ac) => congrFun (congrArg (E SP) c_parse_blocks_label_3.eq_1) ac) <| And.intro (fun (SP : Prg) (ac : Ac) => congrFun (congrArg (E SP) c_parse_blocks_label_4.eq_1) ac) <| sc_parse_blocks_label.eq_1
theorem comp_parse_blocks_label : comp Tryz.prog Tryz.f64 = some sc_parse_blocks_label := by kernel_rfl
/-- (doorkeeper/parse.blocks).body$1 -/
def sc_parse_blocks_body_1 : SFunc := ⟨2, 8, .seq (.reg [⟨(some 2), none, (.box (.t 0))⟩, ⟨(some 3), none, (.v (.mov (.c (.bool false))))⟩]) (.seq (.reg [⟨(some 4), none, (.v (.faddr 0 (.t 2)))⟩, ⟨(some 5), none, (.v (.load none (.t 4)))⟩, ⟨(some 6), none, (.v (.load none (.t 1)))⟩, ⟨(some 7), none, (.v (.bin .eql (.t 5) (.t 6)))⟩, ⟨(some 3), none, (.v (.mov (.t 7)))⟩]) .ret), [(.t 3)]⟩
theorem U_parse_blocks_body_1 : type_of% (sc_parse_blocks_body_1.eq_1) := sc_parse_blocks_body_1.eq_1
theorem comp_parse_blocks_body_1 : comp Tryz.prog Tryz.f100 = some sc_parse_blocks_body_1 := by kernel_rfl
/-- (doorkeeper/parse.blocks).body -/
def c_parse_blocks_body_1 : SC := .seq (.reg [⟨(some 60), none, (.v (.mov (.t 3)))⟩, ⟨(some 2), none, (.v (.mov (.t 60)))⟩]) .ret
def c_parse_blocks_body_2 : SC := .seq (.reg [⟨(some 40), none, (.v (.mov (.t 0)))⟩, ⟨(some 41), none, (.v (.nchk (.t 40)))⟩, ⟨(some 42), none, (.v (.faddr 0 (.t 41)))⟩, ⟨(some 43), none, (.v (.faddr 0 (.t 42)))⟩, ⟨(some 44), none, (.call (.c (.func 101 [])) [(.t 43)])⟩, ⟨(some 45), none, (.v (.build [(.str []), (.nils 5)] [(0, 1, (.t 44))]))⟩, ⟨(some 5), none, (.alloc [(.str []), (.nils 5)])⟩, ⟨none, none, (.store 2 (.t 5) (.t 45))⟩]) (.seq (.reg [⟨(some 46), none, (.v (.mov (.t 0)))⟩, ⟨(some 47), none, (.v (.nchk (.t 46)))⟩, ⟨(some 48), none, (.v (.faddr 0 (.t 47)))⟩, ⟨(some 49), none, (.v (.faddr 0 (.t 48)))⟩, ⟨(some 50), none, (.call (.c (.func 66 [])) [(.t 49), (.c (.str [61]))])⟩]) (.seq (.reg [⟨(some 51), none, (.v (.mov (.t 0)))⟩, ⟨(some 52), none, (.v (.nchk (.t 51)))⟩, ⟨(some 53), none, (.v (.faddr 0 (.t 52)))⟩, ⟨(some 54), none, (.call (.c (.func 41 [])) [(.t 53)])⟩, ⟨(some 55), none, (.v (.faddr 1 (.t 5)))⟩, ⟨none, none, (.store 1 (.t 55) (.t 54))⟩]) (.reg [⟨(some 56), none, (.v (.mov (.t 3)))⟩, ⟨(some 57), none, (.v (.load (some 2) (.t 5)))⟩, ⟨(some 58), none, (.bslice 2 1 [(.str []), (.nils 5)] [(0, (.t 57))])⟩, ⟨(some 59), none, (.append 2 40 (.t 56) (.t 58))⟩, ⟨(some 3), none, (.v (.mov (.t 59)))⟩])))
def c_parse_blocks_body_3 : SC := .seq (.seq (.reg [⟨(some 23), none, (.v (.mov (.t 0)))⟩, ⟨(some 24), none, (.v (.nchk (.t 23)))⟩, ⟨(some 25), none, (.v (.faddr 0 (.t 24)))⟩, ⟨(some 26), none, (.v (.faddr 0 (.t 25)))⟩, ⟨(some 27), none, (.call (.c (.func 38 [])) [(.t 26)])⟩, ⟨(some 28), none, (.v (.field 0 none (.t 27)))⟩, ⟨(some 29), none, (.v (.bin .eql (.t 28) (.c (.int .i64 3))))⟩, ⟨(some 30), none, (.v (.mov (.t 29)))⟩, ⟨(some 31), (some (30, true)), (.v (.mov (.t 3)))⟩, ⟨(some 32), (some (30, true)), (.v (.func 100 [(.t 4)]))⟩, ⟨(some 33), (some (30, true)), (.call (.c (.func 99 [])) [(.t 31), (.t 32)])⟩, ⟨(some 34), none, (.v (.pick (.t 30) (.t 33) (.c (.bool false))))⟩]) (.cond (.t 34) (.reg [⟨(some 35), none, (.v (.mov (.t 0)))⟩, ⟨(some 36), none, (.v (.nchk (.t 35)))⟩, ⟨(some 37), none, (.v (.faddr 0 (.t 36)))⟩, ⟨(some 38), none, (.v (.faddr 0 (.t 37)))⟩, ⟨(some 39), none, (.call (.c (.func 42 [])) [(.t 38), (.c (.int .i64 3))])⟩]) .skip)) c_parse_blocks_body_2
def c_parse_blocks_body_4 : SC := .block 1 (.seq (.reg [⟨(some 17), none, (.v (.mov (.t 0)))⟩, ⟨(some 18), none, (.v (.nchk (.t 17)))⟩, ⟨(some 19), none, (.v (.faddr 0 (.t 18)))⟩, ⟨(some 20), none, (.v (.faddr 0 (.t 19)))⟩, ⟨(some 21), none, (.call (.c (.func 38 [])) [(.t 20)])⟩, ⟨(some 22), none, (.v (.field 1 none (.t 21)))⟩, ⟨(some 4), none, (.alloc [(.str [])])⟩, ⟨none, none, (.store 1 (.t 4) (.t 22))⟩]) c_parse_blocks_body_3)
def b_parse_blocks_body_1 : SC := .seq (.seq (.reg [⟨(some 11), none, (.v (.mov (.t 0)))⟩, ⟨(some 12), none, (.v (.nchk (.t 11)))⟩, ⟨(some 13), none, (.v (.faddr 0 (.t 12)))⟩, ⟨(some 14), none, (.v (.faddr 0 (.t 13)))⟩, ⟨(some 15), none, (.call (.c (.func 67 [])) [(.t 14), (.c (.str [125]))])⟩, ⟨(some 16), none, (.v (.un .not (.t 15)))⟩]) (.cond (.t 16) .skip (.exit 0))) c_parse_blocks_body_4
def c_parse_blocks_body_5 : SC := .seq (.block 0 (.loop b_parse_blocks_body_1)) c_parse_blocks_body_1
def c_parse_blocks_body_6 : SC := .seq (.reg [⟨(some 6), none, (.v (.mov (.t 0)))⟩, ⟨(some 7), none, (.v (.nchk (.t 6)))⟩, ⟨(some 8), none, (.v (.faddr 0 (.t 7)))⟩, ⟨(some 9), none, (.v (.faddr 0 (.t 8)))⟩, ⟨(some 10), none, (.call (.c (.func 66 [])) [(.t 9), (.c (.str [123]))])⟩]) c_parse_blocks_body_5
def c_parse_blocks_body_7 : SC := .seq (.reg [⟨(some 3), none, (.nilv 2)⟩]) c_parse_blocks_body_6
def sc_parse_blocks_body : SFunc := ⟨1, 61, .seq (.reg [⟨(some 2), none, (.nilv 2)⟩]) c_parse_blocks_body_7, [(.t 2)]⟩
noncomputable def k_parse_blocks_body_1 (SP : Prg) (x : EO) : CO := fin [(.t 2)] (thC SP (inBlk 0 (x)) c_parse_blocks_body_1)
theorem U_parse_blocks_body : type_of% (And.intro (fun (SP : Prg) (ac : Ac) => congrFun (congrArg (E SP) c_parse_blocks_body_1.eq_1) ac) <| And.intro (fun (SP : Prg) (ac : Ac) => congrFun (congrArg (E SP) c_parse_blocks_body_2.eq_1) ac) <| And.intro (fun (SP : Prg) (ac : Ac) => congrFun (congrArg (E SP) c_parse_blocks_body_3.eq_1) ac) <| And.intro (fun (SP : Prg) (ac : Ac) => congrFun (congrArg (E SP) c_parse_blocks_body_4.eq_1) ac) <| And.intro (fun (SP : Prg) (ac : Ac) => congrFun (congrArg (E SP) b_parse_blocks_body_1.eq_1) ac) <| And.intro (fun (SP : Prg) (ac : Ac) => congrFun (congrArg (E SP) c_parse_blocks_body_5.eq_1) ac) <| And.intro (fun (SP : Prg) (ac : Ac) => congrFun (congrArg (E SP) c_parse_blocks_body_6.eq_1) ac) <| And.intro (fun (SP : Prg) (ac : Ac) => congrFun (congrArg (E SP) c_parse_blocks_body_7.eq_1) ac) <| sc_parse_blocks_body.eq_1) := And.intro (fun (SP : Prg) (ac : Ac) => congrFun (congrArg (E SP) c_parse_blocks_body_1.eq_1) ac) <| And.intro (fun (SP : Prg) (ac : Ac) => congrFun (congrArg (E SP) c_parse_blocks_body_2.eq_1) ac) <| And.intro (fun (SP : Prg) (ac : Ac) => congrFun (congrArg (E SP) c_parse_blocks_body_3.eq_1) ac) <| And.intro (fun (SP : Prg) (ac : Ac) => congrFun (congrArg (E SP) c_parse_blocks_body_4.eq_1) ac) <| And.intro (fun (SP : Prg) (ac : Ac) => congrFun (congrArg (E SP) b_parse_blocks_body_1.eq_1) ac) <| And.intro (fun (SP : Prg) (ac : Ac) => congrFun (congrArg (E SP) c_parse_blocks_body_5.eq_1) ac) <| And.intro (fun (SP : Prg) (ac : Ac) => congrFun (congrArg (E SP) c_parse_blocks_body_6.eq_1) ac) <| And.intro (fun (SP : Prg) (ac : Ac) => congrFun (congrArg (E SP) c_parse_blocks_body_7.eq_1) ac) <| sc_parse_blocks_body.eq_1
theorem comp_parse_blocks_body : comp Tryz.prog Tryz.f65 = some sc_parse_blocks_body := by kernel_rfl
/-- doorkeeper/parse.words -/
def sc_parse_words : SFunc := ⟨0, 2, .seq (.reg [⟨(some 0), none, (.nilv 1)⟩]) (.seq (.reg [⟨(some 1), none, (.bslice 1 5 [(.str [])] [(0, (.c (.str [118, 97, 114, 105, 97, 98, 108, 101]))), (1, (.c (.str [108, 111, 99, 97, 108, 115]))), (2, (.c (.str [110, 111, 100, 101]))), (3, (.c (.str [109, 111, 100, 117, 108, 101]))), (4, (.c (.str [100, 101, 102, 105, 110, 101])))])⟩, ⟨(some 0), none, (.v (.mov (.t 1)))⟩]) .ret), [(.t 0)]⟩
theorem U_parse_words : type_of% (sc_parse_words.eq_1) := sc_parse_words.eq_1
theorem comp_parse_words : comp Tryz.prog Tryz.f63 = some sc_parse_words := by kernel_rfl
/-- (doorkeeper/parse.blocks).block -/
def o_parse_blocks_block_1 : List SOper := [⟨(some 72), none, (.v (.faddr 3 (.t 7)))⟩, ⟨(some 73), none, (.v (.load none (.t 72)))⟩, ⟨(some 74), none, (.v (.mov (.t 0)))⟩, ⟨(some 75), none, (.call (.c (.func 39 [])) [(.t 74), (.c (.bool true))])⟩, ⟨(some 76), none, (.bslice 4 1 [(.int .i64 0), (.str []), (.nils 2), (.nils 4)] [(0, (.t 75))])⟩, ⟨(some 77), none, (.append 4 72 (.t 73) (.t 76))⟩, ⟨(some 78), none, (.v (.faddr 3 (.t 7)))⟩, ⟨none, none, (.store 1 (.t 78) (.t 77))⟩]
def t_parse_blocks_block_1 : BT := (.n 0 (.n 1 (.n 2 (.n 3 (.n 4 (.n 5 (.n 6 (.n 7 .e .e) .e) .e) .e) .e) .e) (.n 2 (.n 1 (.n 3 (.n 4 (.n 5 (.n 6 (.n 7 .e .e) .e) .e) .e) .e) (.n 3 (.n 1 (.n 4 (.n 5 (.n 6 (.n 7 .e .e) .e) .e) .e) (.n 4 (.n 1 (.n 5 (.n 6 (.n 7 .e .e) .e) .e) .e) .e)) .e)) .e)) (.n 2 (.n 0 (.n 1 (.n 3 (.n 4 (.n 5 (.n 6 (.n 7 .e .e) .e) .e) .e) .e) (.n 3 (.n 1 (.n 4 (.n 5 (.n 6 (.n 7 .e .e) .e) .e) .e) (.n 4 (.n 1 (.n 5 (.n 6 (.n 7 .e .e) .e) .e) .e) .e)) .e)) (.n 3 (.n 0 (.n 1 (.n 4 (.n 5 (.n 6 (.n 7 .e .e) .e) .e) .e) (.n 4 (.n 1 (.n 5 (.n 6 (.n 7 .e .e) .e) .e) .e) .e)) (.n 4 (.n 0 (.n 1 (.n 5 (.n 6 (.n 7 .e .e) .e) .e) .e) .e) .e)) .e)) .e))
theorem pr_parse_blocks_block_1 (ac : Ac) : prep o_parse_blocks_block_1 ac = ((ac.kill 75).kill 77) := rfl
theorem og_parse_blocks_block_1 : o_parse_blocks_block_1[0]? = some (⟨(some 72), none, (.v (.faddr 3 (.t 7)))⟩) ∧ o_parse_blocks_block_1[1]? = some (⟨(some 73), none, (.v (.load none (.t 72)))⟩) ∧ o_parse_blocks_block_1[2]? = some (⟨(some 74), none, (.v (.mov (.t 0)))⟩) ∧ o_parse_blocks_block_1[3]? = some (⟨(some 75), none, (.call (.c (.func 39 [])) [(.t 74), (.c (.bool true))])⟩) ∧ o_parse_blocks_block_1[4]? = some (⟨(some 76), none, (.bslice 4 1 [(.int .i64 0), (.str []), (.nils 2), (.nils 4)] [(0, (.t 75))])⟩) ∧ o_parse_blocks_block_1[5]? = some (⟨(some 77), none, (.append 4 72 (.t 73) (.t 76))⟩) ∧ o_parse_blocks_block_1[6]? = some (⟨(some 78), none, (.v (.faddr 3 (.t 7)))⟩) ∧ o_parse_blocks_block_1[7]? = some (⟨none, none, (.store 1 (.t 78) (.t 77))⟩) := ⟨rfl, rfl, rfl, rfl, rfl, rfl, rfl, rfl⟩
def c_parse_blocks_block_1 : SC := .seq (.reg [⟨(some 79), none, (.v (.load (some 4) (.t 7)))⟩, ⟨none, none, (.store 4 (.t 4) (.t 79))⟩]) .ret
def b_parse_blocks_block_1 : SC := .seq (.seq (.reg [⟨(some 66), none, (.v (.mov (.t 0)))⟩, ⟨(some 67), none, (.v (.nchk (.t 66)))⟩, ⟨(some 68), none, (.v (.faddr 0 (.t 67)))⟩, ⟨(some 69), none, (.v (.faddr 0 (.t 68)))⟩, ⟨(some 70), none, (.call (.c (.func 67 [])) [(.t 69), (.c (.str [125]))])⟩, ⟨(some 71), none, (.v (.un .not (.t 70)))⟩]) (.cond (.t 71) .skip (.exit 0))) (.block 1 (.treg o_parse_blocks_block_1 [72, 73, 74, 75, 76, 77, 78] t_parse_blocks_block_1))
def c_parse_blocks_block_2 : SC := .seq (.block 0 (.loop b_parse_blocks_block_1)) c_parse_blocks_block_1
def c_parse_blocks_block_3 : SC := .seq (.reg [⟨(some 61), none, (.v (.mov (.t 0)))⟩, ⟨(some 62), none, (.v (.nchk (.t 61)))⟩, ⟨(some 63), none, (.v (.faddr 0 (.t 62)))⟩, ⟨(some 64), none, (.v (.faddr 0 (.t 63)))⟩, ⟨(some 65), none, (.call (.c (.func 66 [])) [(.t 64), (.c (.str [123]))])⟩]) c_parse_blocks_block_2
def c_parse_blocks_block_4 : SC := .seq (.seq (.reg [⟨(some 55), none, (.v (.mov (.t 6)))⟩, ⟨(some 56), none, (.v (.bin .neq (.t 55) (.c (.int .i64 5))))⟩]) (.cond (.t 56) (.seq (.reg [⟨(some 57), none, (.v (.mov (.t 0)))⟩, ⟨(some 58), none, (.call (.c (.func 65 [])) [(.t 57)])⟩, ⟨(some 59), none, (.v (.faddr 2 (.t 7)))⟩, ⟨none, none, (.store 1 (.t 59) (.t 58))⟩]) (.seq (.reg [⟨(some 60), none, (.v (.load (some 4) (.t 7)))⟩, ⟨none, none, (.store 4 (.t 4) (.t 60))⟩]) .ret)) .skip)) c_parse_blocks_block_3
def c_parse_blocks_block_5 : SC := .seq (.seq (.reg [⟨(some 50), none, (.v (.mov (.t 6)))⟩, ⟨(some 51), none, (.v (.bin .neq (.t 50) (.c (.int .i64 2))))⟩]) (.cond (.t 51) (.reg [⟨(some 52), none, (.v (.mov (.t 0)))⟩, ⟨(some 53), none, (.call (.c (.func 64 [])) [(.t 52)])⟩, ⟨(some 54), none, (.v (.faddr 1 (.t 7)))⟩, ⟨none, none, (.store 1 (.t 54) (.t 53))⟩]) .skip)) c_parse_blocks_block_4
def c_parse_blocks_block_6 : SC := .seq (.reg [⟨(some 48), none, (.v (.mov (.t 6)))⟩, ⟨(some 49), none, (.v (.build [(.int .i64 0), (.str []), (.nils 2), (.nils 4)] [(0, 1, (.t 48))]))⟩, ⟨(some 7), none, (.alloc [(.int .i64 0), (.str []), (.nils 2), (.nils 4)])⟩, ⟨none, none, (.store 4 (.t 7) (.t 49))⟩]) c_parse_blocks_block_5
def c_parse_blocks_block_7 : SC := .seq (.reg [⟨(some 37), none, (.v (.mov (.t 0)))⟩, ⟨(some 38), none, (.v (.nchk (.t 37)))⟩, ⟨(some 39), none, (.v (.faddr 0 (.t 38)))⟩, ⟨(some 40), none, (.v (.faddr 0 (.t 39)))⟩, ⟨(some 41), none, (.v (.faddr 1 (.t 40)))⟩, ⟨(some 42), none, (.v (.load none (.t 41)))⟩, ⟨(some 43), none, (.v (.bin .add (.t 42) (.c (.int .i64 1))))⟩, ⟨(some 44), none, (.v (.nchk (.t 37)))⟩, ⟨(some 45), none, (.v (.faddr 0 (.t 44)))⟩, ⟨(some 46), none, (.v (.faddr 0 (.t 45)))⟩, ⟨(some 47), none, (.v (.faddr 1 (.t 46)))⟩, ⟨none, none, (.store 1 (.t 47) (.t 43))⟩]) c_parse_blocks_block_6
def c_parse_blocks_block_8 : SC := .seq (.seq (.reg [⟨(some 18), none, (.v (.faddr 0 (.t 5)))⟩, ⟨(some 19), none, (.v (.load none (.t 18)))⟩, ⟨(some 20), none, (.v (.bin .neq (.t 19) (.c (.int .i64 3))))⟩, ⟨(some 21), none, (.v (.mov (.t 20)))⟩, ⟨(some 22), (some (21, false)), (.v (.mov (.t 6)))⟩, ⟨(some 23), (some (21, false)), (.v (.bin .eql (.t 22) (.c (.int .i64 0))))⟩, ⟨(some 24), none, (.v (.pick (.t 21) (.c (.bool true)) (.t 23)))⟩, ⟨(some 25), none, (.v (.mov (.t 24)))⟩, ⟨(some 26), (some (25, false)), (.v (.mov (.t 6)))⟩, ⟨(some 27), (some (25, false)), (.v (.bin .eql (.t 26) (.c (.int .i64 5))))⟩, ⟨(some 28), (some (25, false)), (.v (.mov (.t 27)))⟩, ⟨(some 29), (some (28, true)), (.v (.mov (.t 1)))⟩, ⟨(some 30), (some (25, false)), (.v (.pick (.t 28) (.t 29) (.c (.bool false))))⟩, ⟨(some 31), none, (.v (.pick (.t 25) (.c (.bool true)) (.t 30)))⟩]) (.cond (.t 31) (.reg [⟨(some 32), none, (.v (.mov (.t 0)))⟩, ⟨(some 33), none, (.v (.nchk (.t 32)))⟩, ⟨(some 34), none, (.v (.faddr 0 (.t 33)))⟩, ⟨(some 35), none, (.v (.faddr 0 (.t 34)))⟩, ⟨(some 36), none, (.call (.c (.func 42 [])) [(.t 35), (.c (.int .i64 5))])⟩]) .skip)) c_parse_blocks_block_7
def c_parse_blocks_block_9 : SC := .seq (.dreg [⟨(some 13), none, (.call (.c (.func 63 [])) [])⟩, ⟨(some 14), none, (.v (.faddr 1 (.t 5)))⟩, ⟨(some 15), none, (.v (.load none (.t 14)))⟩, ⟨(some 16), none, (.call (.c (.func 62 [])) [(.t 13), (.t 15)])⟩, ⟨(some 17), none, (.v (.bin .add (.c (.int .i64 1)) (.t 16)))⟩, ⟨(some 6), none, (.v (.mov (.t 17)))⟩] [false, false, false, true, true, true]) c_parse_blocks_block_8
def c_parse_blocks_block_10 : SC := .seq (.reg [⟨(some 8), none, (.v (.mov (.t 0)))⟩, ⟨(some 9), none, (.v (.nchk (.t 8)))⟩, ⟨(some 10), none, (.v (.faddr 0 (.t 9)))⟩, ⟨(some 11), none, (.v (.faddr 0 (.t 10)))⟩, ⟨(some 12), none, (.call (.c (.func 38 [])) [(.t 11)])⟩, ⟨(some 5), none, (.alloc [(.int .i64 0), (.str []), (.int .i64 0), (.nils 2), (.int .i64 0)])⟩, ⟨none, none, (.store 5 (.t 5) (.t 12))⟩]) c_parse_blocks_block_9
def sc_parse_blocks_block : SFunc := ⟨2, 80, .seq (.reg [⟨(some 4), none, (.alloc [(.int .i64 0), (.str []), (.nils 2), (.nils 4)])⟩]) c_parse_blocks_block_10, [(.cell 4 (some 4))]⟩
noncomputable def k_parse_blocks_block_1 (SP : Prg) (x : EO) : CO := fin [(.cell 4 (some 4))] (thC SP (inBlk 0 (x)) c_parse_blocks_block_1)
theorem U_parse_blocks_block : type_of% (And.intro (fun (SP : Prg) (ac : Ac) => congrFun (congrArg (E SP) c_parse_blocks_block_1.eq_1) ac) <| And.intro (fun (SP : Prg) (ac : Ac) => congrFun (congrArg (E SP) b_parse_blocks_block_1.eq_1) ac) <| And.intro (fun (SP : Prg) (ac : Ac) => congrFun (congrArg (E SP) c_parse_blocks_block_2.eq_1) ac) <| And.intro (fun (SP : Prg) (ac : Ac) => congrFun (congrArg (E SP) c_parse_blocks_block_3.eq_1) ac) <| And.intro (fun (SP : Prg) (ac : Ac) => congrFun (congrArg (E SP) c_parse_blocks_block_4.eq_1) ac) <| And.intro (fun (SP : Prg) (ac : Ac) => congrFun (congrArg (E SP) c_parse_blocks_block_5.eq_1) ac) <| And.intro (fun (SP : Prg) (ac : Ac) => congrFun (congrArg (E SP) c_parse_blocks_block_6.eq_1) ac) <| And.intro (fun (SP : Prg) (ac : Ac) => congrFun (congrArg (E SP) c_parse_blocks_block_7.eq_1) ac) <| And.intro (fun (SP : Prg) (ac : Ac) => congrFun (congrArg (E SP) c_parse_blocks_block_8.eq_1) ac) <| And.intro (fun (SP : Prg) (ac : Ac) => congrFun (congrArg (E SP) c_parse_blocks_block_9.eq_1) ac) <| And.intro (fun (SP : Prg) (ac : Ac) => congrFun (congrArg (E SP) c_parse_blocks_block_10.eq_1) ac) <| And.intro pr_parse_blocks_block_1 <| And.intro og_parse_blocks_block_1 <| And.intro t_parse_blocks_block_1.eq_1 <| sc_parse_blocks_block.eq_1) := And.intro (fun (SP : Prg) (ac : Ac) => congrFun (congrArg (E SP) c_parse_blocks_block_1.eq_1) ac) <| And.intro (fun (SP : Prg) (ac : Ac) => congrFun (congrArg (E SP) b_parse_blocks_block_1.eq_1) ac) <| And.intro (fun (SP : Prg) (ac : Ac) => congrFun (congrArg (E SP) c_parse_blocks_block_2.eq_1) ac) <| And.intro (fun (SP : Prg) (ac : Ac) => congrFun (congrArg (E SP) c_parse_blocks_block_3.eq_1) ac) <| And.intro (fun (SP : Prg) (ac : Ac) => congrFun (congrArg (E SP) c_parse_blocks_block_4.eq_1) ac) <| And.intro (fun (SP : Prg) (ac : Ac) => congrFun (congrArg (E SP) c_parse_blocks_block_5.eq_1) ac) <| And.intro (fun (SP : Prg) (ac : Ac) => congrFun (congrArg (E SP) c_parse_blocks_block_6.eq_1) ac) <| And.intro (fun (SP : Prg) (ac : Ac) => congrFun (congrArg (E SP) c_parse_blocks_block_7.eq_1) ac) <| And.intro (fun (SP : Prg) (ac : Ac) => congrFun (congrArg (E SP) c_parse_blocks_block_8.eq_1) ac) <| And.intro (fun (SP : Prg) (ac : Ac) => congrFun (congrArg (E SP) c_parse_blocks_block_9.eq_1) ac) <| And.intro (fun (SP : Prg) (ac : Ac) => congrFun (congrArg (E SP) c_parse_blocks_block_10.eq_1) ac) <| And.intro pr_parse_blocks_block_1 <| And.intro og_parse_blocks_block_1 <| And.intro t_parse_blocks_block_1.eq_1 <| sc_parse_blocks_block.eq_1
theorem comp_parse_blocks_block : comp Tryz.prog Tryz.f39 = some sc_parse_blocks_block := by kernel_rfl
/-- slices.IndexFunc[[]doorkeeper/api.Attr,doorkeeper/api.Attr] -/
def c_slices_IndexFunc_api_Attr_api_Attr_1 : SC := .seq (.reg [⟨(some 4), none, (.v (.mov (.c (.int .i64 (-1)))))⟩]) .ret
def b_slices_IndexFunc_api_Attr_api_Attr_1 : SC := .seq (.reg [⟨(some 9), none, (.v (.bin .lss (.t 8) (.t 7)))⟩]) (.seq (.cond (.t 9) .skip (.exit 0)) (.seq (.block 1 (.seq (.reg [⟨(some 10), none, (.v (.mov (.t 8)))⟩, ⟨(some 5), none, (.v (.mov (.t 10)))⟩]) (.seq (.reg [⟨(some 11), none, (.v (.mov (.t 1)))⟩, ⟨(some 12), none, (.v (.mov (.t 0)))⟩, ⟨(some 13), none, (.v (.mov (.t 5)))⟩, ⟨(some 14), none, (.v (.iaddr 2 (.t 12) (.t 13)))⟩, ⟨(some 15), none, (.v (.load (some 2) (.t 14)))⟩, ⟨(some 16), none, (.call (.t 11) [(.t 15)])⟩]) (.cond (.t 16) (.seq (.reg [⟨(some 17), none, (.v (.mov (.t 5)))⟩, ⟨(some 4), none, (.v (.mov (.t 17)))⟩]) .ret) .skip)))) (.reg [⟨(some 18), none, (.v (.bin .add (.t 8) (.c (.int .i64 1))))⟩, ⟨(some 8), none, (.v (.mov (.t 18)))⟩])))
def sc_slices_IndexFunc_api_Attr_api_Attr : SFunc := ⟨2, 19, .seq (.reg [⟨(some 4), none, (.v (.mov (.c (.int .i64 0))))⟩]) (.seq (.seq (.reg [⟨(some 6), none, (.v (.mov (.t 0)))⟩, ⟨(some 7), none, (.v (.len false (.t 6)))⟩, ⟨(some 8), none, (.v (.mov (.c (.int .i64 0))))⟩]) (.block 0 (.loop b_slices_IndexFunc_api_Attr_api_Attr_1))) c_slices_IndexFunc_api_Attr_api_Attr_1), [(.t 4)]⟩
noncomputable def k_slices_IndexFunc_api_Attr_api_Attr_1 (SP : Prg) (x : EO) : CO := fin [(.t 4)] (thC SP (inBlk 0 (x)) c_slices_IndexFunc_api_Attr_api_Attr_1)
theorem U_slices_IndexFunc_api_Attr_api_Attr : type_of% (And.intro (fun (SP : Prg) (ac : Ac) => congrFun (congrArg (E SP) c_slices_IndexFunc_api_Attr_api_Attr_1.eq_1) ac) <| And.intro (fun (SP : Prg) (ac : Ac) => congrFun (congrArg (E SP) b_slices_IndexFunc_api_Attr_api_Attr_1.eq_1) ac) <| sc_slices_IndexFunc_api_Attr_api_Attr.eq_1) := And.intro (fun (SP : Prg) (ac : Ac) => congrFun (congrArg (E SP) c_slices_IndexFunc_api_Attr_api_Attr_1.eq_1) ac) <| And.intro (fun (SP : Prg) (ac : Ac) => congrFun (congrArg (E SP) b_slices_IndexFunc_api_Attr_api_Attr_1.eq_1) ac) <| sc_slices_IndexFunc_api_Attr_api_Attr.eq_1
theorem comp_slices_IndexFunc_api_Attr_api_Attr : comp Tryz.prog Tryz.f141 = some sc_slices_IndexFunc_api_Attr_api_Attr := by kernel_rfl
/-- slices.ContainsFunc[[]doorkeeper/api.Attr,doorkeeper/api.Attr] -/
def sc_slices_ContainsFunc_api_Attr_api_Attr : SFunc := ⟨2, 9, .seq (.reg [⟨(some 4), none, (.v (.mov (.c (.bool false))))⟩]) (.seq (.reg [⟨(some 5), none, (.v (.mov (.t 0)))⟩, ⟨(some 6), none, (.v (.mov (.t 1)))⟩, ⟨(some 7), none, (.call (.c (.func 141 [])) [(.t 5), (.t 6)])⟩, ⟨(some 8), none, (.v (.bin .geq (.t 7) (.c (.int .i64 0))))⟩, ⟨(some 4), none, (.v (.mov (.t 8)))⟩]) .ret), [(.t 4)]⟩
theorem U_slices_ContainsFunc_api_Attr_api_Attr : type_of% (sc_slices_ContainsFunc_api_Attr_api_Attr.eq_1) := sc_slices_ContainsFunc_api_Attr_api_Attr.eq_1
theorem comp_slices_ContainsFunc_api_Attr_api_Attr : comp Tryz.prog Tryz.f99 = some sc_slices_ContainsFunc_api_Attr_api_Attr := by kernel_rfl
/-- doorkeeper/parse.Parse$1 -/
def o_parse_Parse_1_1 : List SOper := [⟨(some 10), none, (.v (.load none (.t 1)))⟩, ⟨(some 11), none, (.v (.mov (.t 0)))⟩, ⟨(some 12), none, (.call (.c (.func 39 [])) [(.t 11), (.c (.bool false))])⟩, ⟨(some 13), none, (.v (.len false (.t 10)))⟩, ⟨(some 14), none, (.bslice 4 1 [(.int .i64 0), (.str []), (.nils 2), (.nils 4)] [(0, (.c (.agg [(.int .i64 0), (.str []), (.nils 2), (.nils 4)])))])⟩, ⟨(some 15), none, (.append 4 72 (.t 10) (.t 14))⟩, ⟨(some 16), none, (.v (.iaddr 4 (.t 15) (.t 13)))⟩, ⟨none, none, (.store 4 (.t 16) (.t 12))⟩, ⟨none, none, (.store 1 (.t 1) (.t 15))⟩]
def t_parse_Parse_1_1 : BT := (.n 0 (.n 1 (.n 2 (.n 3 (.n 4 (.n 5 (.n 6 (.n 7 (.n 8 .e .e) (.n 8 (.n 7 .e .e) .e)) (.n 8 (.n 6 (.n 7 .e .e) .e) .e)) .e) .e) (.n 4 (.n 3 (.n 5 (.n 6 (.n 7 (.n 8 .e .e) (.n 8 (.n 7 .e .e) .e)) (.n 8 (.n 6 (.n 7 .e .e) .e) .e)) .e) .e) .e)) (.n 3 (.n 2 (.n 4 (.n 5 (.n 6 (.n 7 (.n 8 .e .e) (.n 8 (.n 7 .e .e) .e)) (.n 8 (.n 6 (.n 7 .e .e) .e) .e)) .e) .e) (.n 4 (.n 2 (.n 5 (.n 6 (.n 7 (.n 8 .e .e) (.n 8 (.n 7 .e .e) .e)) (.n 8 (.n 6 (.n 7 .e .e) .e) .e)) .e) .e) .e)) (.n 4 (.n 2 (.n 3 (.n 5 (.n 6 (.n 7 (.n 8 .e .e) (.n 8 (.n 7 .e .e) .e)) (.n 8 (.n 6 (.n 7 .e .e) .e) .e)) .e) .e) (.n 3 (.n 2 (.n 5 (.n 6 (.n 7 (.n 8 .e .e) (.n 8 (.n 7 .e .e) .e)) (.n 8 (.n 6 (.n 7 .e .e) .e) .e)) .e) .e) .e)) .e))) (.n 3 (.n 1 (.n 2 (.n 4 (.n 5 (.n 6 (.n 7 (.n 8 .e .e) (.n 8 (.n 7 .e .e) .e)) (.n 8 (.n 6 (.n 7 .e .e) .e) .e)) .e) .e) (.n 4 (.n 2 (.n 5 (.n 6 (.n 7 (.n 8 .e .e) (.n 8 (.n 7 .e .e) .e)) (.n 8 (.n 6 (.n 7 .e .e) .e) .e)) .e) .e) .e)) (.n 4 (.n 1 (.n 2 (.n 5 (.n 6 (.n 7 (.n 8 .e .e) (.n 8 (.n 7 .e .e) .e)) (.n 8 (.n 6 (.n 7 .e .e) .e) .e)) .e) .e) .e) .e)) (.n 4 (.n 1 (.n 2 (.n 3 (.n 5 (.n 6 (.n 7 (.n 8 .e .e) (.n 8 (.n 7 .e .e) .e)) (.n 8 (.n 6 (.n 7 .e .e) .e) .e)) .e) .e) (.n 3 (.n 2 (.n 5 (.n 6 (.n 7 (.n 8 .e .e) (.n 8 (.n 7 .e .e) .e)) (.n 8 (.n 6 (.n 7 .e .e) .e) .e)) .e) .e) .e)) (.n 3 (.n 1 (.n 2 (.n 5 (.n 6 (.n 7 (.n 8 .e .e) (.n 8 (.n 7 .e .e) .e)) (.n 8 (.n 6 (.n 7 .e .e) .e) .e)) .e) .e) .e) .e)) .e))) (.n 1 (.n 0 (.n 2 (.n 3 (.n 4 (.n 5 (.n 6 (.n 7 (.n 8 .e .e) (.n 8 (.n 7 .e .e) .e)) (.n 8 (.n 6 (.n 7 .e .e) .e) .e)) .e) .e) (.n 4 (.n 3 (.n 5 (.n 6 (.n 7 (.n 8 .e .e) (.n 8 (.n 7 .e .e) .e)) (.n 8 (.n 6 (.n 7 .e .e) .e) .e)) .e) .e) .e)) (.n 3 (.n 2 (.n 4 (.n 5 (.n 6 (.n 7 (.n 8 .e .e) (.n 8 (.n 7 .e .e) .e)) (.n 8 (.n 6 (.n 7 .e .e) .e) .e)) .e) .e) (.n 4 (.n 2 (.n 5 (.n 6 (.n 7 (.n 8 .e .e) (.n 8 (.n 7 .e .e) .e)) (.n 8 (.n 6 (.n 7 .e .e) .e) .e)) .e) .e) .e)) (.n 4 (.n 2 (.n 3 (.n 5 (.n 6 (.n 7 (.n 8 .e .e) (.n 8 (.n 7 .e .e) .e)) (.n 8 (.n 6 (.n 7 .e .e) .e) .e)) .e) .e) (.n 3 (.n 2 (.n 5 (.n 6 (.n 7 (.n 8 .e .e) (.n 8 (.n 7 .e .e) .e)) (.n 8 (.n 6 (.n 7 .e .e) .e) .e)) .e) .e) .e)) .e))) (.n 2 (.n 0 (.n 3 (.n 4 (.n 5 (.n 6 (.n 7 (.n 8 .e .e) (.n 8 (.n 7 .e .e) .e)) (.n 8 (.n 6 (.n 7 .e .e) .e) .e)) .e) .e) (.n 4 (.n 3 (.n 5 (.n 6 (.n 7 (.n 8 .e .e) (.n 8 (.n 7 .e .e) .e)) (.n 8 (.n 6 (.n 7 .e .e) .e) .e)) .e) .e) .e)) (.n 4 (.n 0 (.n 3 (.n 5 (.n 6 (.n 7 (.n 8 .e .e) (.n 8 (.n 7 .e .e) .e)) (.n 8 (.n 6 (.n 7 .e .e) .e) .e)) .e) .e) .e) .e)) (.n 4 (.n 0 (.n 2 (.n 3 (.n 5 (.n 6 (.n 7 (.n 8 .e .e) (.n 8 (.n 7 .e .e) .e)) (.n 8 (.n 6 (.n 7 .e .e) .e) .e)) .e) .e) (.n 3 (.n 2 (.n 5 (.n 6 (.n 7 (.n 8 .e .e) (.n 8 (.n 7 .e .e) .e)) (.n 8 (.n 6 (.n 7 .e .e) .e) .e)) .e) .e) .e)) (.n 2 (.n 0 (.n 3 (.n 5 (.n 6 (.n 7 (.n 8 .e .e) (.n 8 (.n 7 .e .e) .e)) (.n 8 (.n 6 (.n 7 .e .e) .e) .e)) .e) .e) .e) .e)) .e))) (.n 4 (.n 0 (.n 1 (.n 2 (.n 3 (.n 5 (.n 6 (.n 7 (.n 8 .e .e) (.n 8 (.n 7 .e .e) .e)) (.n 8 (.n 6 (.n 7 .e .e) .e) .e)) .e) .e) (.n 3 (.n 2 (.n 5 (.n 6 (.n 7 (.n 8 .e .e) (.n 8 (.n 7 .e .e) .e)) (.n 8 (.n 6 (.n 7 .e .e) .e) .e)) .e) .e) .e)) (.n 3 (.n 1 (.n 2 (.n 5 (.n 6 (.n 7 (.n 8 .e .e) (.n 8 (.n 7 .e .e) .e)) (.n 8 (.n 6 (.n 7 .e .e) .e) .e)) .e) .e) .e) .e)) (.n 1 (.n 0 (.n 2 (.n 3 (.n 5 (.n 6 (.n 7 (.n 8 .e .e) (.n 8 (.n 7 .e .e) .e)) (.n 8 (.n 6 (.n 7 .e .e) .e) .e)) .e) .e) (.n 3 (.n 2 (.n 5 (.n 6 (.n 7 (.n 8 .e .e) (.n 8 (.n 7 .e .e) .e)) (.n 8 (.n 6 (.n 7 .e .e) .e) .e)) .e) .e) .e)) (.n 2 (.n 0 (.n 3 (.n 5 (.n 6 (.n 7 (.n 8 .e .e) (.n 8 (.n 7 .e .e) .e)) (.n 8 (.n 6 (.n 7 .e .e) .e) .e)) .e) .e) .e) .e)) .e)) .e)))
theorem pr_parse_Parse_1_1 (ac : Ac) : prep o_parse_Parse_1_1 ac = ((ac.kill 12).kill 15) := rfl
theorem og_parse_Parse_1_1 : o_parse_Parse_1_1[0]? = some (⟨(some 10), none, (.v (.load none (.t 1)))⟩) ∧ o_parse_Parse_1_1[1]? = some (⟨(some 11), none, (.v (.mov (.t 0)))⟩) ∧ o_parse_Parse_1_1[2]? = some (⟨(some 12), none, (.call (.c (.func 39 [])) [(.t 11), (.c (.bool false))])⟩) ∧ o_parse_Parse_1_1[3]? = some (⟨(some 13), none, (.v (.len false (.t 10)))⟩) ∧ o_parse_Parse_1_1[4]? = some (⟨(some 14), none, (.bslice 4 1 [(.int .i64 0), (.str []), (.nils 2), (.nils 4)] [(0, (.c (.agg [(.int .i64 0), (.str []), (.nils 2), (.nils 4)])))])⟩) ∧ o_parse_Parse_1_1[5]? = some (⟨(some 15), none, (.append 4 72 (.t 10) (.t 14))⟩) ∧ o_parse_Parse_1_1[6]? = some (⟨(some 16), none, (.v (.iaddr 4 (.t 15) (.t 13)))⟩) ∧ o_parse_Parse_1_1[7]? = some (⟨none, none, (.store 4 (.t 16) (.t 12))⟩) ∧ o_parse_Parse_1_1[8]? = some (⟨none, none, (.store 1 (.t 1) (.t 15))⟩) := ⟨rfl, rfl, rfl, rfl, rfl, rfl, rfl, rfl, rfl⟩
def c_parse_Parse_1_1 : SC := .block 1 (.treg o_parse_Parse_1_1 [10, 11, 12, 13, 14, 15, 16] t_parse_Parse_1_1)
def b_parse_Parse_1_1 : SC := .seq (.seq (.reg [⟨(some 3), none, (.v (.mov (.t 0)))⟩, ⟨(some 4), none, (.v (.nchk (.t 3)))⟩, ⟨(some 5), none, (.v (.faddr 0 (.t 4)))⟩, ⟨(some 6), none, (.v (.faddr 0 (.t 5)))⟩, ⟨(some 7), none, (.call (.c (.func 38 [])) [(.t 6)])⟩, ⟨(some 8), none, (.v (.field 0 none (.t 7)))⟩, ⟨(some 9), none, (.v (.bin .neq (.t 8) (.c (.int .i64 0))))⟩]) (.cond (.t 9) .skip (.exit 0))) c_parse_Parse_1_1
def sc_parse_Parse_1 : SFunc := ⟨2, 17, .block 0 (.loop b_parse_Parse_1_1), []⟩
noncomputable def k_parse_Parse_1_1 (SP : Prg) (x : EO) : CO := fin [] (inBlk 0 (x))
theorem U_parse_Parse_1 : type_of% (And.intro (fun (SP : Prg) (ac : Ac) => congrFun (congrArg (E SP) c_parse_Parse_1_1.eq_1) ac) <| And.intro (fun (SP : Prg) (ac : Ac) => congrFun (congrArg (E SP) b_parse_Parse_1_1.eq_1) ac) <| And.intro pr_parse_Parse_1_1 <| And.intro og_parse_Parse_1_1 <| And.intro t_parse_Parse_1_1.eq_1 <| sc_parse_Parse_1.eq_1) := And.intro (fun (SP : Prg) (ac : Ac) => congrFun (congrArg (E SP) c_parse_Parse_1_1.eq_1) ac) <| And.intro (fun (SP : Prg) (ac : Ac) => congrFun (congrArg (E SP) b_parse_Parse_1_1.eq_1) ac) <| And.intro pr_parse_Parse_1_1 <| And.intro og_parse_Parse_1_1 <| And.intro t_parse_Parse_1_1.eq_1 <| sc_parse_Parse_1.eq_1
theorem comp_parse_Parse_1 : comp Tryz.prog Tryz.f37 = some sc_parse_Parse_1 := by kernel_rfl
/-- doorkeeper/parse.Parse -/
def sc_parse_Parse : SFunc := ⟨1, 13, .seq (.reg [⟨(some 2), none, (.nilv 4)⟩, ⟨(some 3), none, (.v (.mov (.c (.int .i64 0))))⟩]) (.seq (.reg [⟨(some 4), none, (.alloc [(.nils 4)])⟩]) (.seq (.reg [⟨(some 6), none, (.v (.mov (.t 0)))⟩, ⟨(some 7), none, (.v (.func 37 [(.t 4)]))⟩, ⟨(some 8), none, (.call (.c (.func 36 [])) [(.t 6), (.t 7)])⟩, ⟨(some 5), none, (.v (.mov (.t 8)))⟩]) (.seq (.seq (.reg [⟨(some 9), none, (.v (.mov (.t 5)))⟩, ⟨(some 10), none, (.v (.bin .neq (.t 9) (.c (.int .i64 0))))⟩]) (.cond (.t 10) (.seq (.reg [⟨(some 11), none, (.v (.mov (.t 5)))⟩, ⟨(some 2), none, (.nilv 4)⟩, ⟨(some 3), none, (.v (.mov (.t 11)))⟩]) .ret) .skip)) (.seq (.reg [⟨(some 12), none, (.v (.load none (.t 4)))⟩, ⟨(some 2), none, (.v (.mov (.t 12)))⟩, ⟨(some 3), none, (.v (.mov (.c (.int .i64 0))))⟩]) .ret)))), [(.t 2), (.t 3)]⟩
theorem U_parse_Parse : type_of% (sc_parse_Parse.eq_1) := sc_parse_Parse.eq_1
theorem comp_parse_Parse : comp Tryz.prog Tryz.f17 = some sc_parse_Parse := by kernel_rfl
end Go.Proofs.YtfbcnpbhhooapaaGreatDoor.M

/- Trees of functions, printed by a program of this session (lift.py): what a run asks, over plain data. Lean proves each. -/
namespace Go.Proofs.YtfbcnpbhhooapaaGreatDoor.M
set_option linter.unusedSimpArgs false
set_option linter.unusedVariables false
open Go Classical
theorem sp_parse_tokens_now : SP 38 = some (.code sc_parse_tokens_now) := SPof_code rfl Tryz.func38 comp_parse_tokens_now
/-! (*doorkeeper/parse.tokens).now -/
set_option maxHeartbeats 4000000 in
theorem parse_tokens_now_tree (t : PTokens) (r : Token) (t' : PTokens) (T :
  (0 ≤ t.pos) ∧
 ∃ (v1 : Token), (t.l[t.pos.toNat]? = some v1) ∧
 v1 = r ∧ t = t') : R_parse_tokens_now t r t' := by
 intro S n0 t0 H0
 have hb0 := H0
 obtain ⟨w0, hB0⟩ := take_some hb0
 have hn0 := o_getBox_lt hB0
 rw [call_code sp_parse_tokens_now _ _ rfl]
 have F := U_parse_tokens_now
 obtain ⟨p1, v1, q2, rfl, rfl⟩ := T
 exact fi (aa hB0 <| aa hn0 <| aa p1 <| aa q2 <| F)
theorem sp_parse_tokens_fail : SP 42 = some (.code sc_parse_tokens_fail) := SPof_code rfl Tryz.func42 comp_parse_tokens_fail
/-! (*doorkeeper/parse.tokens).fail -/
set_option maxHeartbeats 4000000 in
theorem parse_tokens_fail_tree (t : PTokens) (e_ : Int) (o : Option Int) (t' : PTokens) (T :
  some e_ = o ∧ t = t') : R_parse_tokens_fail t e_ o t' := by
 intro S n0 t0 H0
 have hb0 := H0
 obtain ⟨w0, hB0⟩ := take_some hb0
 have hn0 := o_getBox_lt hB0
 rw [call_code sp_parse_tokens_fail _ _ rfl]
 have F := U_parse_tokens_fail
 obtain ⟨rfl, rfl⟩ := T
 exact fi (aa hB0 <| aa hn0 <| F)
theorem sp_parse_tokens_is : SP 102 = some (.code sc_parse_tokens_is) := SPof_code rfl Tryz.func102 comp_parse_tokens_is
/-! (*doorkeeper/parse.tokens).is -/
set_option maxHeartbeats 4000000 in
theorem parse_tokens_is_tree (t : PTokens) (s : List UInt8) (r : Bool) (t' : PTokens) (T :
  ∃ (r1 : Token) (y2 : PTokens), (R_parse_tokens_now t r1 y2) ∧
 ((r1.Kind = 4) →
  ∃ (r3 : Token) (y4 : PTokens), (R_parse_tokens_now y2 r3 y4) ∧
  (decide (r3.Text = s)) = r ∧ y4 = t') ∧
 (¬ (r1.Kind = 4) →
  false = r ∧ y2 = t')) : R_parse_tokens_is t s r t' := by
 intro S n0 t0 H0
 have hb0 := H0
 obtain ⟨w0, hB0⟩ := take_some hb0
 have hn0 := o_getBox_lt hB0
 rw [call_code sp_parse_tokens_is _ _ rfl]
 have F := U_parse_tokens_is
 obtain ⟨r1, y2, q1, T⟩ := T
 simp only [R_parse_tokens_now, le, List.cons_append, List.nil_append] at q1
 replace F := aa hB0 <| aa hn0 <| aa q1 <| F
 by_cases c2 : r1.Kind = 4
 · replace T := T.1 c2
   obtain ⟨r3, y4, q3, rfl, rfl⟩ := T
   simp only [R_parse_tokens_now, le, List.cons_append, List.nil_append] at q3
   exact fi (aa (eq_true c2) <| aa q3 <| F)
 · replace T := T.2 c2
   obtain ⟨rfl, rfl⟩ := T
   exact fi (aa (eq_false c2) <| F)
theorem sp_parse_tokens_may : SP 67 = some (.code sc_parse_tokens_may) := SPof_code rfl Tryz.func67 comp_parse_tokens_may
/-! (*doorkeeper/parse.tokens).may -/
set_option maxHeartbeats 4000000 in
theorem parse_tokens_may_tree (t : PTokens) (s : List UInt8) (r : Bool) (t' : PTokens) (T :
  ∃ (r1 : Bool) (y2 : PTokens), (R_parse_tokens_is t s r1 y2) ∧
 ((r1 = true) →
  (I64 (y2.pos + 1)) ∧
  true = r ∧ (PTokens.mk y2.l (y2.pos + 1)) = t') ∧
 (¬ (r1 = true) →
  false = r ∧ y2 = t')) : R_parse_tokens_may t s r t' := by
 intro S n0 t0 H0
 have hb0 := H0
 obtain ⟨w0, hB0⟩ := take_some hb0
 have hn0 := o_getBox_lt hB0
 rw [call_code sp_parse_tokens_may _ _ rfl]
 have F := U_parse_tokens_may
 obtain ⟨r1, y2, q1, T⟩ := T
 simp only [R_parse_tokens_is, le, List.cons_append, List.nil_append] at q1
 replace F := aa hB0 <| aa hn0 <| aa q1 <| F
 by_cases c2 : r1 = true
 · replace T := T.1 c2
   obtain ⟨p3, rfl, rfl⟩ := T
   exact fi (aa c2 <| aa p3.wrap <| F)
 · replace T := T.2 c2
   replace c2 := Bool.eq_false_iff.2 c2
   obtain ⟨rfl, rfl⟩ := T
   exact fi (aa c2 <| F)
theorem sp_parse_tokens_need : SP 66 = some (.code sc_parse_tokens_need) := SPof_code rfl Tryz.func66 comp_parse_tokens_need
/-! (*doorkeeper/parse.tokens).need -/
set_option maxHeartbeats 4000000 in
theorem parse_tokens_need_tree (t : PTokens) (s : List UInt8) (o : Option Int) (t' : PTokens) (T :
  ∃ (r1 : Bool) (y2 : PTokens), (R_parse_tokens_may t s r1 y2) ∧
 ((r1 = true) →
  none = o ∧ y2 = t') ∧
 (¬ (r1 = true) →
  ∃ (o3 : Option Int) (y4 : PTokens), (R_parse_tokens_fail y2 5 o3 y4) ∧
  (match o3 with
  | none => (False /- no return -/)
  | some e5 => (some e5 = o ∧ y4 = t')))) : R_parse_tokens_need t s o t' := by
 intro S n0 t0 H0
 have hb0 := H0
 obtain ⟨w0, hB0⟩ := take_some hb0
 have hn0 := o_getBox_lt hB0
 rw [call_code sp_parse_tokens_need _ _ rfl]
 have F := U_parse_tokens_need
 obtain ⟨r1, y2, q1, T⟩ := T
 simp only [R_parse_tokens_may, le, List.cons_append, List.nil_append] at q1
 replace F := aa hB0 <| aa hn0 <| aa q1 <| F
 by_cases c2 : r1 = true
 · replace T := T.1 c2
   obtain ⟨rfl, rfl⟩ := T
   exact fi (aa c2 <| F)
 · replace T := T.2 c2
   replace c2 := Bool.eq_false_iff.2 c2
   obtain ⟨o3, y4, q3, T⟩ := T
   simp only [R_parse_tokens_fail, le, List.cons_append, List.nil_append] at q3
   replace F := aa c2 <| aa q3 <| F
   cases o3 with
   | none => exact False.elim T
   | some e5 =>
     dsimp only at T
     obtain ⟨rfl, rfl⟩ := T
     exact fi F
theorem sp_parse_tokens_name : SP 101 = some (.code sc_parse_tokens_name) := SPof_code rfl Tryz.func101 comp_parse_tokens_name
/-! (*doorkeeper/parse.tokens).name -/
set_option maxHeartbeats 4000000 in
theorem parse_tokens_name_tree (t : PTokens) (o : Option Int) (r : List UInt8) (t' : PTokens) (T :
  ∃ (r1 : Token) (y2 : PTokens), (R_parse_tokens_now t r1 y2) ∧
 ((r1.Kind = 3) →
  (I64 (y2.pos + 1)) ∧
  none = o ∧ r1.Text = r ∧ (PTokens.mk y2.l (y2.pos + 1)) = t') ∧
 (¬ (r1.Kind = 3) →
  ∃ (o3 : Option Int) (y4 : PTokens), (R_parse_tokens_fail y2 5 o3 y4) ∧
  (match o3 with
  | none => (False /- no return -/)
  | some e5 => (some e5 = o ∧ y4 = t')))) : R_parse_tokens_name t o r t' := by
 intro S n0 t0 H0
 have hb0 := H0
 obtain ⟨w0, hB0⟩ := take_some hb0
 have hn0 := o_getBox_lt hB0
 rw [call_code sp_parse_tokens_name _ _ rfl]
 have F := U_parse_tokens_name
 obtain ⟨r1, y2, q1, T⟩ := T
 simp only [R_parse_tokens_now, le, List.cons_append, List.nil_append] at q1
 replace F := aa hB0 <| aa hn0 <| aa q1 <| F
 by_cases c2 : r1.Kind = 3
 · replace T := T.1 c2
   obtain ⟨p3, rfl, rfl, rfl⟩ := T
   exact fi (aa (eq_true c2) <| aa p3.wrap <| F)
 · replace T := T.2 c2
   obtain ⟨o3, y4, q4, T⟩ := T
   simp only [R_parse_tokens_fail, le, List.cons_append, List.nil_append] at q4
   replace F := aa (eq_false c2) <| aa q4 <| F
   cases o3 with
   | none => exact False.elim T
   | some e5 =>
     dsimp only at T
     obtain ⟨rfl, rfl⟩ := T
     exact fi F
theorem sp_parse_exprs_open : SP 104 = some (.code sc_parse_exprs_open) := SPof_code rfl Tryz.func104 comp_parse_exprs_open
/-! (*doorkeeper/parse.exprs).open -/
set_option maxHeartbeats 4000000 in
theorem parse_exprs_open_tree (x : PExprs) (x_g2 : Nat) (x_z2 : Bool) (s : List UInt8) (o : Option Int) (x' : PExprs) (x'_g2 : Nat) (x'_z2 : Bool) (T :
  ∃ (r1 : Bool) (y2 : PTokens), (R_parse_tokens_is x.tokens s r1 y2) ∧
 ((r1 = true) →
  ((64 ≤ x.deep) →
   ∃ (o3 : Option Int) (y4 : PTokens), (R_parse_tokens_fail y2 6 o3 y4) ∧
   (match o3 with
   | none => (False /- no return -/)
   | some e5 => (some e5 = o ∧ (PExprs.mk y4 x.out x.deep) = x' ∧ x_g2 = x'_g2 ∧ x_z2 = x'_z2))) ∧
  (¬ (64 ≤ x.deep) →
   ∃ (o6 : Option Int) (y7 : PTokens), (R_parse_tokens_need y2 s o6 y7) ∧
   (match o6 with
   | none => ((I64 (x.deep + 1)) ∧
    none = o ∧ (PExprs.mk y7 x.out (x.deep + 1)) = x' ∧ x_g2 = x'_g2 ∧ x_z2 = x'_z2)
   | some e8 => (some e8 = o ∧ (PExprs.mk y7 x.out x.deep) = x' ∧ x_g2 = x'_g2 ∧ x_z2 = x'_z2)))) ∧
 (¬ (r1 = true) →
  ∃ (o9 : Option Int) (y10 : PTokens), (R_parse_tokens_need y2 s o9 y10) ∧
  (match o9 with
  | none => ((I64 (x.deep + 1)) ∧
   none = o ∧ (PExprs.mk y10 x.out (x.deep + 1)) = x' ∧ x_g2 = x'_g2 ∧ x_z2 = x'_z2)
  | some e11 => (some e11 = o ∧ (PExprs.mk y10 x.out x.deep) = x' ∧ x_g2 = x'_g2 ∧ x_z2 = x'_z2)))) : R_parse_exprs_open x x_g2 x_z2 s o x' x'_g2 x'_z2 := by
 intro S n0 t0 H0
 obtain ⟨hb0, ha0⟩ := H0
 obtain ⟨w0, hB0⟩ := take_some hb0
 have hn0 := o_getBox_lt hB0
 rw [call_code sp_parse_exprs_open _ _ rfl]
 have F := U_parse_exprs_open
 obtain ⟨r1, y2, q1, T⟩ := T
 simp only [R_parse_tokens_is, le, List.cons_append, List.nil_append] at q1
 replace F := aa ha0 <| aa hB0 <| aa hn0 <| aa q1 <| F
 by_cases c2 : r1 = true
 · replace T := T.1 c2
   replace F := aa c2 <| F
   by_cases c3 : 64 ≤ x.deep
   · replace T := T.1 c3
     obtain ⟨o3, y4, q4, T⟩ := T
     simp only [R_parse_tokens_fail, le, List.cons_append, List.nil_append] at q4
     replace F := aa (eq_true c3) <| aa q4 <| F
     cases o3 with
     | none => exact False.elim T
     | some e5 =>
       dsimp only at T
       obtain ⟨rfl, rfl, rfl, rfl⟩ := T
       exact fi F
   · replace T := T.2 c3
     obtain ⟨o6, y7, q5, T⟩ := T
     simp only [R_parse_tokens_need, le, List.cons_append, List.nil_append] at q5
     replace F := aa (eq_false c3) <| aa q5 <| F
     cases o6 with
     | none =>
       dsimp only at T
       obtain ⟨p6, rfl, rfl, rfl, rfl⟩ := T
       exact fi (aa p6.wrap <| F)
     | some e8 =>
       dsimp only at T
       obtain ⟨rfl, rfl, rfl, rfl⟩ := T
       exact fi F
 · replace T := T.2 c2
   replace c2 := Bool.eq_false_iff.2 c2
   obtain ⟨o9, y10, q7, T⟩ := T
   simp only [R_parse_tokens_need, le, List.cons_append, List.nil_append] at q7
   replace F := aa c2 <| aa q7 <| F
   cases o9 with
   | none =>
     dsimp only at T
     obtain ⟨p8, rfl, rfl, rfl, rfl⟩ := T
     exact fi (aa p8.wrap <| F)
   | some e11 =>
     dsimp only at T
     obtain ⟨rfl, rfl, rfl, rfl⟩ := T
     exact fi F
theorem sp_parse_exprs_shut : SP 181 = some (.code sc_parse_exprs_shut) := SPof_code rfl Tryz.func181 comp_parse_exprs_shut
/-! (*doorkeeper/parse.exprs).shut -/
set_option maxHeartbeats 4000000 in
theorem parse_exprs_shut_tree (x : PExprs) (x_g2 : Nat) (x_z2 : Bool) (s : List UInt8) (o : Option Int) (x' : PExprs) (x'_g2 : Nat) (x'_z2 : Bool) (T :
  ∃ (o1 : Option Int) (y2 : PTokens), (R_parse_tokens_need x.tokens s o1 y2) ∧
 (match o1 with
 | none => ((I64 (x.deep - 1)) ∧
  none = o ∧ (PExprs.mk y2 x.out (x.deep - 1)) = x' ∧ x_g2 = x'_g2 ∧ x_z2 = x'_z2)
 | some e3 => (some e3 = o ∧ (PExprs.mk y2 x.out x.deep) = x' ∧ x_g2 = x'_g2 ∧ x_z2 = x'_z2))) : R_parse_exprs_shut x x_g2 x_z2 s o x' x'_g2 x'_z2 := by
 intro S n0 t0 H0
 obtain ⟨hb0, ha0⟩ := H0
 obtain ⟨w0, hB0⟩ := take_some hb0
 have hn0 := o_getBox_lt hB0
 rw [call_code sp_parse_exprs_shut _ _ rfl]
 have F := U_parse_exprs_shut
 obtain ⟨o1, y2, q1, T⟩ := T
 simp only [R_parse_tokens_need, le, List.cons_append, List.nil_append] at q1
 replace F := aa ha0 <| aa hB0 <| aa hn0 <| aa q1 <| F
 cases o1 with
 | none =>
   dsimp only at T
   obtain ⟨p2, rfl, rfl, rfl, rfl⟩ := T
   exact fi (aa p2.wrap <| F)
 | some e3 =>
   dsimp only at T
   obtain ⟨rfl, rfl, rfl, rfl⟩ := T
   exact fi F
theorem sp_parse_exprs_put : SP 105 = some (.code sc_parse_exprs_put) := SPof_code rfl Tryz.func105 comp_parse_exprs_put
/-! (*doorkeeper/parse.exprs).put -/
set_option maxHeartbeats 4000000 in
theorem parse_exprs_put_tree (x : PExprs) (x_g2 : Nat) (x_z2 : Bool) (kind : Int) (text : List UInt8) (kids : List Int) (r : Int) (x' : PExprs) (x'_g2 : Nat) (x'_z2 : Bool) (T :
  ∃ (r1 : List Int), (R_slices_Clone_int_int kids r1) ∧
 (bigRow (x.out.length + 1) 80) ∧
 (I64 (((x.out.length + 1 : Nat) : Int) - 1)) ∧
 (((x.out.length + 1 : Nat) : Int) - 1) = r ∧ (PExprs.mk x.tokens (x.out ++ [(Node.mk kind 0 text [] r1)]) x.deep) = x' ∧ x_g2 = x'_g2 ∧ x_z2 = x'_z2) : R_parse_exprs_put x x_g2 x_z2 kind text kids r x' x'_g2 x'_z2 := by
 intro S n0 t0 H0
 obtain ⟨hb0, ha0⟩ := H0
 obtain ⟨w0, hB0⟩ := take_some hb0
 have hn0 := o_getBox_lt hB0
 rw [call_code sp_parse_exprs_put _ _ rfl]
 have F := U_parse_exprs_put
 obtain ⟨r1, q1, p2, p3, rfl, rfl, rfl, rfl⟩ := T
 simp only [R_slices_Clone_int_int, le, List.cons_append, List.nil_append] at q1
 simp only [bigRow] at p2
 exact fi (aa ha0 <| aa hB0 <| aa hn0 <| aa q1 <| aa p2 <| aa p3.wrap <| F)
theorem sp_parse_two : SP 143 = some (.code sc_parse_two) := SPof_code rfl Tryz.func143 comp_parse_two
/-! doorkeeper/parse.two -/
set_option maxHeartbeats 4000000 in
theorem parse_two_tree (rank : Int) (s : List UInt8) (ra : Int) (rb : Bool) (T :
  (0 ≤ rank) ∧
 ∃ (v1 : List (List UInt8)), (([[[124, 124]], [[38, 38]], [[61, 61], [33, 61], [60], [60, 61], [62], [62, 61]], [[43], [45]], [[42], [47], [37]]] : List (List (List UInt8)))[rank.toNat]? = some v1) ∧
 ∃ (r2 : Int), (R_slices_Index_string_string v1 s r2) ∧
 (0 ≤ rank) ∧
 ∃ (v3 : Int), (([11, 12, 13, 19, 21] : List Int)[rank.toNat]? = some v3) ∧
 (I64 (v3 + r2)) ∧
 (v3 + r2) = ra ∧ (decide (0 ≤ r2)) = rb) : R_parse_two rank s ra rb := by
 intro S
 rw [call_code sp_parse_two _ _ rfl]
 have F := U_parse_two
 obtain ⟨p1, v1, q2, r2, q3, p4, v3, q5, p6, rfl, rfl⟩ := T
 replace q2 := congrArg (Option.map eLS) q2
 rw [← List.getElem?_map] at q2
 simp only [le, List.map_append, Option.map_some] at q2
 simp only [R_slices_Index_string_string, le, List.cons_append, List.nil_append] at q3
 replace q5 := congrArg (Option.map eI) q5
 rw [← List.getElem?_map] at q5
 simp only [le, List.map_append, Option.map_some] at q5
 exact fi (aa p1 <| aa q2 <| aa q3 <| aa p4 <| aa q5 <| aa p6.wrap <| F)
theorem sp_slices_Index_string_string : SP 62 = some (.code sc_slices_Index_string_string) := SPof_code rfl Tryz.func62 comp_slices_Index_string_string
/-! slices.Index[[]string,string] -/
def At_slices_Index_string_string_1 (s : List (List UInt8)) (v : List UInt8) (i1 : Int) (r : Int) : Prop := ∀ (S : Sto) (e : Nat → PV) (f : Fr), e 0 = .list 1 (s.map eS) false ∧ e 1 = .str v ∧ e 7 = .int .i64 (s.length : Int) ∧ e 8 = .int .i64 i1 → k_slices_Index_string_string_1 SP (E SP (.loop b_slices_Index_string_string_1) ⟨e, f :: S⟩) = .ok (.v (.int .i64 r)) S
set_option maxHeartbeats 4000000 in
theorem At_slices_Index_string_string_1_step (s : List (List UInt8)) (v : List UInt8) (i1 : Int) (r : Int) (T :
  ((i1 < (s.length : Int)) →
  (0 ≤ i1) ∧
  ∃ (v2 : List UInt8), (s[i1.toNat]? = some v2) ∧
  ((v = v2) →
   i1 = r) ∧
  (¬ (v = v2) →
   (I64 (i1 + 1)) ∧
   At_slices_Index_string_string_1 s v (i1 + 1) r)) ∧
 (¬ (i1 < (s.length : Int)) →
  (-1) = r)) : At_slices_Index_string_string_1 s v i1 r := by
 intro S e f h
 unfold k_slices_Index_string_string_1
 rw [E_loop]
 have F := U_slices_Index_string_string
 replace F := aa h <| F
 by_cases c1 : i1 < (s.length : Int)
 · replace T := T.1 c1
   obtain ⟨p2, v2, q3, T⟩ := T
   replace F := aa (eq_true c1) <| aa p2 <| aa q3 <| F
   by_cases c4 : v = v2
   · replace T := T.1 c4
     obtain rfl := T
     exact fi (aa (eq_true c4) <| F)
   · replace T := T.2 c4
     obtain ⟨p5, T⟩ := T
     replace F := aa (eq_false c4) <| aa p5.wrap <| F
     try simp only [F, lw, lx, le, Nat.reduceMul, UInt8.reduceToNat, reduceIte, reduceCtorEq, Nat.reduceEqDiff, Nat.reduceAdd, Nat.reduceLeDiff, Nat.reduceSub, Nat.reduceLT, Int.reduceEq, Int.reduceLT, Int.reduceLE, Int.reduceToNat, Int.reduceAdd, Int.reduceSub, Int.reduceMul, Int.reduceNeg]
     refine T S _ _ ?_
     exact fi F
 · replace T := T.2 c1
   obtain rfl := T
   exact fi (aa (eq_false c1) <| F)
set_option maxHeartbeats 4000000 in
theorem slices_Index_string_string_tree (s : List (List UInt8)) (v : List UInt8) (r : Int) (T :
  At_slices_Index_string_string_1 s v 0 r) : R_slices_Index_string_string s v r := by
 intro S
 rw [call_code sp_slices_Index_string_string _ _ rfl]
 have F := U_slices_Index_string_string
 try simp only [F, lw, lx, le, Nat.reduceMul, UInt8.reduceToNat, reduceIte, reduceCtorEq, Nat.reduceEqDiff, Nat.reduceAdd, Nat.reduceLeDiff, Nat.reduceSub, Nat.reduceLT, Int.reduceEq, Int.reduceLT, Int.reduceLE, Int.reduceToNat, Int.reduceAdd, Int.reduceSub, Int.reduceMul, Int.reduceNeg]
 refine T S _ _ ?_
 exact fi F
theorem sp_parse_exprs_num : SP 202 = some (.code sc_parse_exprs_num) := SPof_code rfl Tryz.func202 comp_parse_exprs_num
/-! (*doorkeeper/parse.exprs).num -/
set_option maxHeartbeats 4000000 in
theorem parse_exprs_num_tree (x : PExprs) (x_g2 : Nat) (x_z2 : Bool) (kind : Int) (n : Int) (r : Int) (x' : PExprs) (x'_g2 : Nat) (x'_z2 : Bool) (T :
  ∃ (r1 : Int) (y2 : PExprs) (g3 : Nat) (z4 : Bool), (R_parse_exprs_put x x_g2 x_z2 kind [] [] r1 y2 g3 z4) ∧
 (0 ≤ r1) ∧ (r1.toNat < y2.out.length) ∧
 (z4 = false) ∧
 ∃ (v5 : Node), (y2.out[r1.toNat]? = some v5) ∧
 r1 = r ∧ (PExprs.mk y2.tokens (y2.out.set r1.toNat (Node.mk v5.Kind n v5.Text v5.Parts v5.Kids)) y2.deep) = x' ∧ g3 = x'_g2 ∧ z4 = x'_z2) : R_parse_exprs_num x x_g2 x_z2 kind n r x' x'_g2 x'_z2 := by
 intro S n0 t0 H0
 obtain ⟨hb0, ha0⟩ := H0
 obtain ⟨w0, hB0⟩ := take_some hb0
 have hn0 := o_getBox_lt hB0
 rw [call_code sp_parse_exprs_num _ _ rfl]
 have F := U_parse_exprs_num
 obtain ⟨r1, y2, g3, z4, q1, p2, p3, p4, v5, q5, rfl, rfl, rfl, rfl⟩ := T
 simp only [R_parse_exprs_put, le, List.cons_append, List.nil_append] at q1
 exact fi (aa ha0 <| aa hB0 <| aa hn0 <| aa q1 <| aa p2 <| aa p3 <| aa p4 <| aa q5 <| F)
theorem sp_parse_exprs_word : SP 201 = some (.code sc_parse_exprs_word) := SPof_code rfl Tryz.func201 comp_parse_exprs_word
/-! (*doorkeeper/parse.exprs).word -/
set_option maxHeartbeats 4000000 in
theorem parse_exprs_word_tree (x : PExprs) (x_g2 : Nat) (x_z2 : Bool) (o : Option Int) (r : Int) (x' : PExprs) (x'_g2 : Nat) (x'_z2 : Bool) (T :
  ∃ (o2 : Option Int) (r1 : List UInt8) (y3 : PTokens), (R_parse_tokens_name x.tokens o2 r1 y3) ∧
 (match o2 with
 | none => (((r1 = [116, 114, 117, 101]) →
   ∃ (r5 : Int) (y6 : PExprs) (g7 : Nat) (z8 : Bool), (R_parse_exprs_num (PExprs.mk y3 x.out x.deep) x_g2 x_z2 3 1 r5 y6 g7 z8) ∧
   none = o ∧ r5 = r ∧ y6 = x' ∧ g7 = x'_g2 ∧ z8 = x'_z2) ∧
  (¬ (r1 = [116, 114, 117, 101]) →
   ((r1 = [102, 97, 108, 115, 101]) →
    ∃ (r9 : Int) (y10 : PExprs) (g11 : Nat) (z12 : Bool), (R_parse_exprs_num (PExprs.mk y3 x.out x.deep) x_g2 x_z2 3 0 r9 y10 g11 z12) ∧
    none = o ∧ r9 = r ∧ y10 = x' ∧ g11 = x'_g2 ∧ z12 = x'_z2) ∧
   (¬ (r1 = [102, 97, 108, 115, 101]) →
    ∃ (r13 : Bool) (y14 : PTokens), (R_parse_tokens_may y3 [46] r13 y14) ∧
    ((r13 = true) →
     (r1.length + 1 ≤ maxInt) ∧
     ∃ (o16 : Option Int) (r15 : List UInt8) (y17 : PTokens), (R_parse_tokens_name y14 o16 r15 y17) ∧
     (match o16 with
     | none => ((r1.length + 1 + r15.length ≤ maxInt) ∧
      ∃ (r19 : Int) (y20 : PExprs) (g21 : Nat) (z22 : Bool), (R_parse_exprs_put (PExprs.mk y17 x.out x.deep) x_g2 x_z2 4 ((r1 ++ [46]) ++ r15) [] r19 y20 g21 z22) ∧
      none = o ∧ r19 = r ∧ y20 = x' ∧ g21 = x'_g2 ∧ z22 = x'_z2)
     | some e18 => (some e18 = o ∧ (PExprs.mk y17 x.out x.deep) = x' ∧ x_g2 = x'_g2 ∧ x_z2 = x'_z2))) ∧
    (¬ (r13 = true) →
     ∃ (o23 : Option Int) (y24 : PExprs) (g25 : Nat) (z26 : Bool), (R_parse_exprs_open (PExprs.mk y14 x.out x.deep) x_g2 x_z2 [40] o23 y24 g25 z26) ∧
     (match o23 with
     | none => (∃ (o29 : Option Int) (r28 : List Int) (y30 : PExprs) (g31 : Nat) (z32 : Bool), (R_parse_exprs_many y24 g25 z26 [41] o29 r28 y30 g31 z32) ∧
      (match o29 with
      | none => (∃ (r34 : Int) (y35 : PExprs) (g36 : Nat) (z37 : Bool), (R_parse_exprs_put y30 g31 z32 5 r1 r28 r34 y35 g36 z37) ∧
       none = o ∧ r34 = r ∧ y35 = x' ∧ g36 = x'_g2 ∧ z37 = x'_z2)
      | some e33 => (some e33 = o ∧ y30 = x' ∧ g31 = x'_g2 ∧ z32 = x'_z2)))
     | some e27 => (some e27 = o ∧ y24 = x' ∧ g25 = x'_g2 ∧ z26 = x'_z2))))))
 | some e4 => (some e4 = o ∧ (PExprs.mk y3 x.out x.deep) = x' ∧ x_g2 = x'_g2 ∧ x_z2 = x'_z2))) : R_parse_exprs_word x x_g2 x_z2 o r x' x'_g2 x'_z2 := by
 intro S n0 t0 H0
 obtain ⟨hb0, ha0⟩ := H0
 obtain ⟨w0, hB0⟩ := take_some hb0
 have hn0 := o_getBox_lt hB0
 rw [call_code sp_parse_exprs_word _ _ rfl]
 have F := U_parse_exprs_word
 obtain ⟨o2, r1, y3, q1, T⟩ := T
 simp only [R_parse_tokens_name, le, List.cons_append, List.nil_append] at q1
 replace F := aa ha0 <| aa hB0 <| aa hn0 <| aa q1 <| F
 cases o2 with
 | none =>
   dsimp only at T
   by_cases c2 : r1 = [116, 114, 117, 101]
   · replace T := T.1 c2
     obtain ⟨r5, y6, g7, z8, q3, rfl, rfl, rfl, rfl, rfl⟩ := T
     simp only [R_parse_exprs_num, le, List.cons_append, List.nil_append] at q3
     exact fi (aa (eq_true c2) <| aa q3 <| F)
   · replace T := T.2 c2
     replace F := aa (eq_false c2) <| F
     by_cases c4 : r1 = [102, 97, 108, 115, 101]
     · replace T := T.1 c4
       obtain ⟨r9, y10, g11, z12, q5, rfl, rfl, rfl, rfl, rfl⟩ := T
       simp only [R_parse_exprs_num, le, List.cons_append, List.nil_append] at q5
       exact fi (aa (eq_true c4) <| aa q5 <| F)
     · replace T := T.2 c4
       obtain ⟨r13, y14, q6, T⟩ := T
       simp only [R_parse_tokens_may, le, List.cons_append, List.nil_append] at q6
       replace F := aa (eq_false c4) <| aa q6 <| F
       by_cases c7 : r13 = true
       · replace T := T.1 c7
         obtain ⟨p8, o16, r15, y17, q9, T⟩ := T
         simp only [R_parse_tokens_name, le, List.cons_append, List.nil_append] at q9
         replace F := aa c7 <| aa p8 <| aa q9 <| F
         cases o16 with
         | none =>
           dsimp only at T
           obtain ⟨p10, r19, y20, g21, z22, q11, rfl, rfl, rfl, rfl, rfl⟩ := T
           simp only [R_parse_exprs_put, le, List.cons_append, List.nil_append] at q11
           exact fi (aa p10 <| aa q11 <| F)
         | some e18 =>
           dsimp only at T
           obtain ⟨rfl, rfl, rfl, rfl⟩ := T
           exact fi F
       · replace T := T.2 c7
         replace c7 := Bool.eq_false_iff.2 c7
         obtain ⟨o23, y24, g25, z26, q12, T⟩ := T
         simp only [R_parse_exprs_open, le, List.cons_append, List.nil_append] at q12
         replace F := aa c7 <| aa q12 <| F
         cases o23 with
         | none =>
           dsimp only at T
           obtain ⟨o29, r28, y30, g31, z32, q13, T⟩ := T
           simp only [R_parse_exprs_many, le, List.cons_append, List.nil_append] at q13
           replace F := aa q13 <| F
           cases o29 with
           | none =>
             dsimp only at T
             obtain ⟨r34, y35, g36, z37, q14, rfl, rfl, rfl, rfl, rfl⟩ := T
             simp only [R_parse_exprs_put, le, List.cons_append, List.nil_append] at q14
             exact fi (aa q14 <| F)
           | some e33 =>
             dsimp only at T
             obtain ⟨rfl, rfl, rfl, rfl⟩ := T
             exact fi F
         | some e27 =>
           dsimp only at T
           obtain ⟨rfl, rfl, rfl, rfl⟩ := T
           exact fi F
 | some e4 =>
   dsimp only at T
   obtain ⟨rfl, rfl, rfl, rfl⟩ := T
   exact fi F
theorem sp_parse_exprs_prim : SP 180 = some (.code sc_parse_exprs_prim) := SPof_code rfl Tryz.func180 comp_parse_exprs_prim
/-! (*doorkeeper/parse.exprs).prim -/
set_option maxHeartbeats 4000000 in
theorem parse_exprs_prim_tree (x : PExprs) (x_g2 : Nat) (x_z2 : Bool) (o : Option Int) (r : Int) (x' : PExprs) (x'_g2 : Nat) (x'_z2 : Bool) (T :
  ∃ (r1 : Token) (y2 : PTokens), (R_parse_tokens_now x.tokens r1 y2) ∧
 ((r1.Kind = 3) →
  ∃ (o4 : Option Int) (r3 : Int) (y5 : PExprs) (g6 : Nat) (z7 : Bool), (R_parse_exprs_word (PExprs.mk y2 x.out x.deep) x_g2 x_z2 o4 r3 y5 g6 z7) ∧
  (match o4 with
  | none => (none = o ∧ r3 = r ∧ y5 = x' ∧ g6 = x'_g2 ∧ z7 = x'_z2)
  | some e8 => (some e8 = o ∧ y5 = x' ∧ g6 = x'_g2 ∧ z7 = x'_z2))) ∧
 (¬ (r1.Kind = 3) →
  ((r1.Kind = 1) →
   (I64 (y2.pos + 1)) ∧
   ∃ (r9 : Int) (y10 : PExprs) (g11 : Nat) (z12 : Bool), (R_parse_exprs_num (PExprs.mk (PTokens.mk y2.l (y2.pos + 1)) x.out x.deep) x_g2 x_z2 1 r1.Num r9 y10 g11 z12) ∧
   none = o ∧ r9 = r ∧ y10 = x' ∧ g11 = x'_g2 ∧ z12 = x'_z2) ∧
  (¬ (r1.Kind = 1) →
   ((r1.Kind = 2) →
    (I64 (y2.pos + 1)) ∧
    ∃ (r13 : Int) (y14 : PExprs) (g15 : Nat) (z16 : Bool), (R_parse_exprs_put (PExprs.mk (PTokens.mk y2.l (y2.pos + 1)) x.out x.deep) x_g2 x_z2 2 [] [] r13 y14 g15 z16) ∧
    (0 ≤ r13) ∧ (r13.toNat < y14.out.length) ∧
    (z16 = false) ∧
    ∃ (v17 : Node), (y14.out[r13.toNat]? = some v17) ∧
    none = o ∧ r13 = r ∧ (PExprs.mk y14.tokens (y14.out.set r13.toNat (Node.mk v17.Kind v17.Num v17.Text r1.Parts v17.Kids)) y14.deep) = x' ∧ g15 = x'_g2 ∧ z16 = x'_z2) ∧
   (¬ (r1.Kind = 2) →
    ∃ (r18 : Bool) (y19 : PTokens), (R_parse_tokens_is y2 [91] r18 y19) ∧
    ((r18 = true) →
     ∃ (o20 : Option Int) (y21 : PExprs) (g22 : Nat) (z23 : Bool), (R_parse_exprs_open (PExprs.mk y19 x.out x.deep) x_g2 x_z2 [91] o20 y21 g22 z23) ∧
     (match o20 with
     | none => (∃ (o26 : Option Int) (r25 : List Int) (y27 : PExprs) (g28 : Nat) (z29 : Bool), (R_parse_exprs_many y21 g22 z23 [93] o26 r25 y27 g28 z29) ∧
      (match o26 with
      | none => (∃ (r31 : Int) (y32 : PExprs) (g33 : Nat) (z34 : Bool), (R_parse_exprs_put y27 g28 z29 6 [] r25 r31 y32 g33 z34) ∧
       none = o ∧ r31 = r ∧ y32 = x' ∧ g33 = x'_g2 ∧ z34 = x'_z2)
      | some e30 => (some e30 = o ∧ y27 = x' ∧ g28 = x'_g2 ∧ z29 = x'_z2)))
     | some e24 => (some e24 = o ∧ y21 = x' ∧ g22 = x'_g2 ∧ z23 = x'_z2))) ∧
    (¬ (r18 = true) →
     ∃ (o35 : Option Int) (y36 : PExprs) (g37 : Nat) (z38 : Bool), (R_parse_exprs_open (PExprs.mk y19 x.out x.deep) x_g2 x_z2 [40] o35 y36 g37 z38) ∧
     (match o35 with
     | none => (∃ (o41 : Option Int) (r40 : Int) (y42 : PExprs) (g43 : Nat) (z44 : Bool), (R_parse_exprs_expr y36 g37 z38 o41 r40 y42 g43 z44) ∧
      (match o41 with
      | none => (∃ (o46 : Option Int) (y47 : PExprs) (g48 : Nat) (z49 : Bool), (R_parse_exprs_shut y42 g43 z44 [41] o46 y47 g48 z49) ∧
       (match o46 with
       | none => (none = o ∧ r40 = r ∧ y47 = x' ∧ g48 = x'_g2 ∧ z49 = x'_z2)
       | some e50 => (some e50 = o ∧ y47 = x' ∧ g48 = x'_g2 ∧ z49 = x'_z2)))
      | some e45 => (some e45 = o ∧ y42 = x' ∧ g43 = x'_g2 ∧ z44 = x'_z2)))
     | some e39 => (some e39 = o ∧ y36 = x' ∧ g37 = x'_g2 ∧ z38 = x'_z2))))))) : R_parse_exprs_prim x x_g2 x_z2 o r x' x'_g2 x'_z2 := by
 intro S n0 t0 H0
 obtain ⟨hb0, ha0⟩ := H0
 obtain ⟨w0, hB0⟩ := take_some hb0
 have hn0 := o_getBox_lt hB0
 rw [call_code sp_parse_exprs_prim _ _ rfl]
 have F := U_parse_exprs_prim
 obtain ⟨r1, y2, q1, T⟩ := T
 simp only [R_parse_tokens_now, le, List.cons_append, List.nil_append] at q1
 replace F := aa ha0 <| aa hB0 <| aa hn0 <| aa q1 <| F
 by_cases c2 : r1.Kind = 3
 · replace T := T.1 c2
   obtain ⟨o4, r3, y5, g6, z7, q3, T⟩ := T
   simp only [R_parse_exprs_word, le, List.cons_append, List.nil_append] at q3
   replace F := aa (eq_true c2) <| aa q3 <| F
   cases o4 with
   | none =>
     dsimp only at T
     obtain ⟨rfl, rfl, rfl, rfl, rfl⟩ := T
     exact fi F
   | some e8 =>
     dsimp only at T
     obtain ⟨rfl, rfl, rfl, rfl⟩ := T
     exact fi F
 · replace T := T.2 c2
   replace F := aa (eq_false c2) <| F
   by_cases c4 : r1.Kind = 1
   · replace T := T.1 c4
     obtain ⟨p5, r9, y10, g11, z12, q6, rfl, rfl, rfl, rfl, rfl⟩ := T
     simp only [R_parse_exprs_num, le, List.cons_append, List.nil_append] at q6
     exact fi (aa (eq_true c4) <| aa p5.wrap <| aa q6 <| F)
   · replace T := T.2 c4
     replace F := aa (eq_false c4) <| F
     by_cases c7 : r1.Kind = 2
     · replace T := T.1 c7
       obtain ⟨p8, r13, y14, g15, z16, q9, p10, p11, p12, v17, q13, rfl, rfl, rfl, rfl, rfl⟩ := T
       simp only [R_parse_exprs_put, le, List.cons_append, List.nil_append] at q9
       exact fi (aa (eq_true c7) <| aa p8.wrap <| aa q9 <| aa p10 <| aa p11 <| aa p12 <| aa q13 <| F)
     · replace T := T.2 c7
       obtain ⟨r18, y19, q14, T⟩ := T
       simp only [R_parse_tokens_is, le, List.cons_append, List.nil_append] at q14
       replace F := aa (eq_false c7) <| aa q14 <| F
       by_cases c15 : r18 = true
       · replace T := T.1 c15
         obtain ⟨o20, y21, g22, z23, q16, T⟩ := T
         simp only [R_parse_exprs_open, le, List.cons_append, List.nil_append] at q16
         replace F := aa c15 <| aa q16 <| F
         cases o20 with
         | none =>
           dsimp only at T
           obtain ⟨o26, r25, y27, g28, z29, q17, T⟩ := T
           simp only [R_parse_exprs_many, le, List.cons_append, List.nil_append] at q17
           replace F := aa q17 <| F
           cases o26 with
           | none =>
             dsimp only at T
             obtain ⟨r31, y32, g33, z34, q18, rfl, rfl, rfl, rfl, rfl⟩ := T
             simp only [R_parse_exprs_put, le, List.cons_append, List.nil_append] at q18
             exact fi (aa q18 <| F)
           | some e30 =>
             dsimp only at T
             obtain ⟨rfl, rfl, rfl, rfl⟩ := T
             exact fi F
         | some e24 =>
           dsimp only at T
           obtain ⟨rfl, rfl, rfl, rfl⟩ := T
           exact fi F
       · replace T := T.2 c15
         replace c15 := Bool.eq_false_iff.2 c15
         obtain ⟨o35, y36, g37, z38, q19, T⟩ := T
         simp only [R_parse_exprs_open, le, List.cons_append, List.nil_append] at q19
         replace F := aa c15 <| aa q19 <| F
         cases o35 with
         | none =>
           dsimp only at T
           obtain ⟨o41, r40, y42, g43, z44, q20, T⟩ := T
           simp only [R_parse_exprs_expr, le, List.cons_append, List.nil_append] at q20
           replace F := aa q20 <| F
           cases o41 with
           | none =>
             dsimp only at T
             obtain ⟨o46, y47, g48, z49, q21, T⟩ := T
             simp only [R_parse_exprs_shut, le, List.cons_append, List.nil_append] at q21
             replace F := aa q21 <| F
             cases o46 with
             | none =>
               dsimp only at T
               obtain ⟨rfl, rfl, rfl, rfl, rfl⟩ := T
               exact fi F
             | some e50 =>
               dsimp only at T
               obtain ⟨rfl, rfl, rfl, rfl⟩ := T
               exact fi F
           | some e45 =>
             dsimp only at T
             obtain ⟨rfl, rfl, rfl, rfl⟩ := T
             exact fi F
         | some e39 =>
           dsimp only at T
           obtain ⟨rfl, rfl, rfl, rfl⟩ := T
           exact fi F
theorem sp_parse_exprs_whole : SP 41 = some (.code sc_parse_exprs_whole) := SPof_code rfl Tryz.func41 comp_parse_exprs_whole
/-! (*doorkeeper/parse.exprs).whole -/
set_option maxHeartbeats 4000000 in
theorem parse_exprs_whole_tree (x : PExprs) (x_g2 : Nat) (x_z2 : Bool) (o : Option Int) (r : List Node) (x' : PExprs) (x'_g2 : Nat) (x'_z2 : Bool) (T :
  ∃ (o2 : Option Int) (r1 : Int) (y3 : PExprs) (g4 : Nat) (z5 : Bool), (R_parse_exprs_expr (PExprs.mk x.tokens [] x.deep) (x_g2 + 1) false o2 r1 y3 g4 z5) ∧
 (match o2 with
 | none => (none = o ∧ y3.out = r ∧ y3 = x' ∧ g4 = x'_g2 ∧ true = x'_z2)
 | some e6 => (some e6 = o ∧ y3 = x' ∧ g4 = x'_g2 ∧ z5 = x'_z2))) : R_parse_exprs_whole x x_g2 x_z2 o r x' x'_g2 x'_z2 := by
 intro S n0 t0 H0
 obtain ⟨hb0, ha0⟩ := H0
 obtain ⟨w0, hB0⟩ := take_some hb0
 have hn0 := o_getBox_lt hB0
 rw [call_code sp_parse_exprs_whole _ _ rfl]
 have F := U_parse_exprs_whole
 obtain ⟨o2, r1, y3, g4, z5, q1, T⟩ := T
 simp only [R_parse_exprs_expr, le, List.cons_append, List.nil_append] at q1
 replace F := aa ha0 <| aa hB0 <| aa hn0 <| aa q1 <| F
 cases o2 with
 | none =>
   dsimp only at T
   obtain ⟨rfl, rfl, rfl, rfl, rfl⟩ := T
   exact fi F
 | some e6 =>
   dsimp only at T
   obtain ⟨rfl, rfl, rfl, rfl⟩ := T
   exact fi F
end Go.Proofs.YtfbcnpbhhooapaaGreatDoor.M

/- Parse: what the parser does, as functions of what is left of the tokens; its smallest steps. -/
namespace Go.Proofs.YtfbcnpbhhooapaaGreatDoor.M
set_option linter.unusedSimpArgs false
set_option linter.unusedVariables false
open Go Classical
/-- What reading yields: something, what is left, the nodes so far; an error; no answer yet. -/
inductive PR (α : Type) where
  | ok (a : α) (ts : List Token) (out : List Node)
  | er (e : Int)
  | no
def PR.bind {α β : Type} : PR α → (α → List Token → List Node → PR β) → PR β
  | .ok a ts out, f => f a ts out
  | .er e, _ => .er e
  | .no, _ => .no
/-- A sign stands there. -/
def isS (s : List UInt8) : List Token → Bool
  | t :: _ => decide (t.Kind = 4) && decide (t.Text = s)
  | [] => false
def needS {α : Type} (s : List UInt8) (ts : List Token) (k : List Token → PR α) : PR α := if isS s ts = true then k ts.tail else .er 5
def openS {α : Type} (s : List UInt8) (d : Nat) (ts : List Token) (k : List Token → PR α) : PR α := if isS s ts = true then (if 64 ≤ d then .er 6 else k ts.tail) else .er 5
def nd (kind : Int) (text : List UInt8) (kids : List Int) : Node := ⟨kind, 0, text, [], kids⟩
def idxS (s : List UInt8) : List (List UInt8) → Nat → Option Nat
  | [], _ => none
  | v :: l, i => if s = v then some i else idxS s l (i + 1)
def signsS : Nat → List (List UInt8)
  | 0 => [[124, 124]]
  | 1 => [[38, 38]]
  | 2 => [[61, 61], [33, 61], [60], [60, 61], [62], [62, 61]]
  | 3 => [[43], [45]]
  | _ => [[42], [47], [37]]
def firstS : Nat → Int
  | 0 => 11
  | 1 => 12
  | 2 => 13
  | 3 => 19
  | _ => 21
/-- The kind of an operator of a rank. -/
def opS (rank : Nat) (s : List UInt8) : Option Int := (idxS s (signsS rank) 0).map fun (i : Nat) => firstS rank + (i : Int)
mutual
def exprS : Nat → Nat → List Token → List Node → PR Int
  | 0, _, _, _ => .no
  | n + 1, d, ts, out => (chainS n 0 d ts out).bind fun a ts out =>
    if isS [63] ts = true then openS [63] d ts fun ts => (exprS n (d + 1) ts out).bind fun b ts out => needS [58] ts fun ts => (exprS n (d + 1) ts out).bind fun c ts out => .ok (out.length : Nat) ts (out ++ [nd 10 [] [a, b, c]])
    else .ok a ts out
def chainS : Nat → Nat → Nat → List Token → List Node → PR Int
  | 0, _, _, _, _ => .no
  | n + 1, rank, d, ts, out => if rank = 5 then unS n d ts out else (chainS n (rank + 1) d ts out).bind fun a ts out => loopS n rank d a ts out
def loopS : Nat → Nat → Nat → Int → List Token → List Node → PR Int
  | 0, _, _, _, _, _ => .no
  | _ + 1, _, _, _, [], _ => .no
  | n + 1, rank, d, a, t :: ts, out =>
    if t.Kind = 4 then
      match opS rank t.Text with
      | none => .ok a (t :: ts) out
      | some kind => (chainS n (rank + 1) d ts out).bind fun b ts out => if rank = 2 then .ok (out.length : Nat) ts (out ++ [nd kind [] [a, b]]) else loopS n rank d (out.length : Nat) ts (out ++ [nd kind [] [a, b]])
    else .ok a (t :: ts) out
def unS : Nat → Nat → List Token → List Node → PR Int
  | 0, _, _, _ => .no
  | n + 1, d, ts, out =>
    if isS [45] ts = true then openS [45] d ts fun ts => (unS n (d + 1) ts out).bind fun a ts out => .ok (out.length : Nat) ts (out ++ [nd 9 [] [a]])
    else if isS [33] ts = true then openS [33] d ts fun ts => (unS n (d + 1) ts out).bind fun a ts out => .ok (out.length : Nat) ts (out ++ [nd 8 [] [a]])
    else postS n d ts out
def postS : Nat → Nat → List Token → List Node → PR Int
  | 0, _, _, _ => .no
  | n + 1, d, ts, out => (primS n d ts out).bind fun a ts out => postL n d a ts out
def postL : Nat → Nat → Int → List Token → List Node → PR Int
  | 0, _, _, _, _ => .no
  | n + 1, d, a, ts, out =>
    if isS [91] ts = true then openS [91] d ts fun ts => (exprS n (d + 1) ts out).bind fun b ts out => needS [93] ts fun ts => postL n d (out.length : Nat) ts (out ++ [nd 7 [] [a, b]])
    else .ok a ts out
def manyS : Nat → Nat → List UInt8 → List Token → List Node → PR (List Int)
  | 0, _, _, _, _ => .no
  | n + 1, d, e, ts, out => if isS e ts = true then .ok [] ts.tail out else (exprS n d ts out).bind fun a ts out => manyL n d e [a] ts out
def manyL : Nat → Nat → List UInt8 → List Int → List Token → List Node → PR (List Int)
  | 0, _, _, _, _, _ => .no
  | n + 1, d, e, l, ts, out => if isS [44] ts = true then (exprS n d ts.tail out).bind fun a ts out => manyL n d e (l ++ [a]) ts out else needS e ts fun ts => .ok l ts out
def primS : Nat → Nat → List Token → List Node → PR Int
  | 0, _, _, _ => .no
  | _ + 1, _, [], _ => .no
  | n + 1, d, t :: ts, out =>
    if t.Kind = 3 then
      if t.Text = [116, 114, 117, 101] then .ok (out.length : Nat) ts (out ++ [⟨3, 1, [], [], []⟩])
      else if t.Text = [102, 97, 108, 115, 101] then .ok (out.length : Nat) ts (out ++ [⟨3, 0, [], [], []⟩])
      else if isS [46] ts = true then
        match ts.tail with
        | [] => .no
        | u :: ts => if u.Kind = 3 then .ok (out.length : Nat) ts (out ++ [nd 4 ((t.Text ++ [46]) ++ u.Text) []]) else .er 5
      else openS [40] d ts fun ts => (manyS n (d + 1) [41] ts out).bind fun l ts out => .ok (out.length : Nat) ts (out ++ [nd 5 t.Text l])
    else if t.Kind = 1 then .ok (out.length : Nat) ts (out ++ [⟨1, t.Num, [], [], []⟩])
    else if t.Kind = 2 then .ok (out.length : Nat) ts (out ++ [⟨2, 0, [], t.Parts, []⟩])
    else if isS [91] (t :: ts) = true then openS [91] d (t :: ts) fun ts => (manyS n (d + 1) [93] ts out).bind fun l ts out => .ok (out.length : Nat) ts (out ++ [nd 6 [] l])
    else openS [40] d (t :: ts) fun ts => (exprS n (d + 1) ts out).bind fun a ts out => needS [41] ts fun ts => .ok a ts out
end
/-- The tokens end as they should: with the end, which stands nowhere else. -/
def W : List Token → Prop
  | [] => False
  | [e] => e.Kind = 0
  | t :: u :: ts => t.Kind ≠ 0 ∧ W (u :: ts)
theorem W.tail {t : Token} {ts : List Token} (h : W (t :: ts)) (hk : t.Kind ≠ 0) : W ts := by
  cases ts with
  | nil => exact absurd h hk
  | cons u ts => exact h.2
theorem W.ne {ts : List Token} (h : W ts) : ts ≠ [] := fun e => by subst e; exact h
/-- Where the tokens stand. -/
def pt (L ts : List Token) : PTokens := ⟨L, ((L.length - ts.length : Nat) : Int)⟩
theorem suf_tail {L ts : List Token} {t : Token} (h : (t :: ts) <:+ L) : ts <:+ L := (List.suffix_cons t ts).trans h
theorem suf_len {L ts : List Token} (h : ts <:+ L) : ts.length ≤ L.length := h.length_le
theorem suf_get {L ts : List Token} {t : Token} (h : (t :: ts) <:+ L) : L[(pt L (t :: ts)).pos.toNat]? = some t := by
  obtain ⟨p, rfl⟩ := h
  simp [pt]
theorem pt_next {L ts : List Token} {t : Token} (h : (t :: ts) <:+ L) : (PTokens.mk (pt L (t :: ts)).l ((pt L (t :: ts)).pos + 1)) = pt L ts := by
  have := suf_len h
  simp only [pt, List.length_cons] at this ⊢
  congr 1
  omega
theorem r_now {L ts : List Token} {t : Token} (h : (t :: ts) <:+ L) : R_parse_tokens_now (pt L (t :: ts)) t (pt L (t :: ts)) := parse_tokens_now_tree _ _ _ ⟨by simp [pt], t, suf_get h, rfl, rfl⟩
theorem r_fail (t : PTokens) (e : Int) : R_parse_tokens_fail t e (some e) t := parse_tokens_fail_tree _ _ _ _ ⟨rfl, rfl⟩
theorem r_is {L ts : List Token} (h : ts <:+ L) (hne : ts ≠ []) (s : List UInt8) : R_parse_tokens_is (pt L ts) s (isS s ts) (pt L ts) := by
  cases ts with
  | nil => exact absurd rfl hne
  | cons t ts =>
    refine parse_tokens_is_tree _ _ _ _ ⟨t, _, r_now h, fun hk => ⟨t, _, r_now h, ?_, rfl⟩, fun hk => ⟨?_, rfl⟩⟩
    · simp [isS, hk]
    · simp [isS, hk]
theorem isS_kind {s : List UInt8} {t : Token} {ts : List Token} (h : isS s (t :: ts) = true) : t.Kind ≠ 0 := by
  simp only [isS, Bool.and_eq_true, decide_eq_true_eq] at h
  rw [h.1]
  decide
theorem W.shift {s : List UInt8} {ts : List Token} (h : W ts) (hi : isS s ts = true) : W ts.tail := by
  cases ts with
  | nil => exact h.elim
  | cons t ts => exact h.tail (isS_kind hi)
theorem suf_shift {L ts : List Token} (h : ts <:+ L) : ts.tail <:+ L := by
  cases ts with
  | nil => exact h
  | cons t ts => exact suf_tail h
theorem len_shift {s : List UInt8} {ts : List Token} (hi : isS s ts = true) : ts.tail.length + 1 = ts.length := by
  cases ts with
  | nil => cases hi
  | cons t ts => rfl
theorem r_may1 {L ts : List Token} (h : ts <:+ L) (hL : L.length ≤ 1000000) {s : List UInt8} (hi : isS s ts = true) : R_parse_tokens_may (pt L ts) s true (pt L ts.tail) := by
  cases ts with
  | nil => cases hi
  | cons t ts =>
    refine parse_tokens_may_tree _ _ _ _ ⟨true, _, by have := r_is h (by simp) s; rw [hi] at this; exact this, fun _ => ⟨?_, rfl, pt_next h⟩, fun hf => absurd rfl hf⟩
    have := suf_len h
    simp only [pt, I64]
    omega
theorem r_may0 {L ts : List Token} (h : ts <:+ L) (hne : ts ≠ []) {s : List UInt8} (hi : isS s ts = false) : R_parse_tokens_may (pt L ts) s false (pt L ts) :=
  parse_tokens_may_tree _ _ _ _ ⟨false, _, by have := r_is h hne s; rw [hi] at this; exact this, fun hf => (by cases hf), fun _ => ⟨rfl, rfl⟩⟩
theorem r_need1 {L ts : List Token} (h : ts <:+ L) (hL : L.length ≤ 1000000) {s : List UInt8} (hi : isS s ts = true) : R_parse_tokens_need (pt L ts) s none (pt L ts.tail) :=
  parse_tokens_need_tree _ _ _ _ ⟨true, _, r_may1 h hL hi, fun _ => ⟨rfl, rfl⟩, fun hf => absurd rfl hf⟩
theorem r_need0 {L ts : List Token} (h : ts <:+ L) (hne : ts ≠ []) {s : List UInt8} (hi : isS s ts = false) : R_parse_tokens_need (pt L ts) s (some 5) (pt L ts) :=
  parse_tokens_need_tree _ _ _ _ ⟨false, _, r_may0 h hne hi, fun hf => (by cases hf), fun _ => ⟨_, _, r_fail _ _, rfl, rfl⟩⟩
theorem r_name1 {L ts : List Token} {t : Token} (h : (t :: ts) <:+ L) (hL : L.length ≤ 1000000) (hk : t.Kind = 3) : R_parse_tokens_name (pt L (t :: ts)) none t.Text (pt L ts) := by
  refine parse_tokens_name_tree _ _ _ _ ⟨t, _, r_now h, fun _ => ⟨?_, rfl, rfl, pt_next h⟩, fun hf => absurd hk hf⟩
  have := suf_len h
  simp only [pt, I64]
  omega
theorem r_name0 {L ts : List Token} {t : Token} (h : (t :: ts) <:+ L) (hk : ¬ t.Kind = 3) (r : List UInt8) : R_parse_tokens_name (pt L (t :: ts)) (some 5) r (pt L (t :: ts)) :=
  parse_tokens_name_tree _ _ _ _ ⟨t, _, r_now h, fun hf => absurd hf hk, fun _ => ⟨_, _, r_fail _ _, rfl, rfl⟩⟩
/-- The parser, where it stands. -/
def pe (L ts : List Token) (out : List Node) (d : Nat) : PExprs := ⟨pt L ts, out, (d : Int)⟩
theorem r_open1 {L ts : List Token} (h : ts <:+ L) (hL : L.length ≤ 1000000) {s : List UInt8} (hi : isS s ts = true) {d : Nat} (hd : ¬ 64 ≤ d) (out : List Node) (g : Nat) (z : Bool) : R_parse_exprs_open (pe L ts out d) g z s none (pe L ts.tail out (d + 1)) g z := by
  cases ts with
  | nil => cases hi
  | cons t ts =>
    refine parse_exprs_open_tree _ _ _ _ _ _ _ _ ⟨true, _, by have := r_is h (by simp) s; rw [hi] at this; exact this, fun _ => ⟨fun hf => ?_, fun _ => ⟨none, _, r_need1 h hL hi, ?_, rfl, ?_, rfl, rfl⟩⟩, fun hf => absurd rfl hf⟩
    · simp only [pe] at hf; omega
    · simp only [pe, I64]; omega
    · simp [pe]
theorem r_open6 {L ts : List Token} (h : ts <:+ L) (hne : ts ≠ []) {s : List UInt8} (hi : isS s ts = true) {d : Nat} (hd : 64 ≤ d) (out : List Node) (g : Nat) (z : Bool) : ∃ x' g' z', R_parse_exprs_open (pe L ts out d) g z s (some 6) x' g' z' :=
  ⟨_, _, _, parse_exprs_open_tree _ _ _ _ _ _ _ _ ⟨true, _, by have := r_is h hne s; rw [hi] at this; exact this, fun _ => ⟨fun _ => ⟨_, _, r_fail _ _, rfl, rfl, rfl, rfl⟩, fun hf => absurd (by simp only [pe]; omega) hf⟩, fun hf => absurd rfl hf⟩⟩
theorem r_open5 {L ts : List Token} (h : ts <:+ L) (hne : ts ≠ []) {s : List UInt8} (hi : isS s ts = false) (d : Nat) (out : List Node) (g : Nat) (z : Bool) : ∃ x' g' z', R_parse_exprs_open (pe L ts out d) g z s (some 5) x' g' z' :=
  ⟨_, _, _, parse_exprs_open_tree _ _ _ _ _ _ _ _ ⟨false, _, by have := r_is h hne s; rw [hi] at this; exact this, fun hf => (by cases hf), fun _ => ⟨_, _, r_need0 h hne hi, rfl, rfl, rfl, rfl⟩⟩⟩
theorem r_shut1 {L ts : List Token} (h : ts <:+ L) (hL : L.length ≤ 1000000) {s : List UInt8} (hi : isS s ts = true) {d : Nat} (hd : d ≤ 1000) (out : List Node) (g : Nat) (z : Bool) : R_parse_exprs_shut (pe L ts out (d + 1)) g z s none (pe L ts.tail out d) g z := by
  refine parse_exprs_shut_tree _ _ _ _ _ _ _ _ ⟨none, _, r_need1 h hL hi, ?_, rfl, ?_, rfl, rfl⟩
  · simp only [pe, I64]; omega
  · simp only [pe]; congr 1; omega
theorem r_shut5 {L ts : List Token} (h : ts <:+ L) (hne : ts ≠ []) {s : List UInt8} (hi : isS s ts = false) (d : Nat) (out : List Node) (g : Nat) (z : Bool) : ∃ x' g' z', R_parse_exprs_shut (pe L ts out d) g z s (some 5) x' g' z' :=
  ⟨_, _, _, parse_exprs_shut_tree _ _ _ _ _ _ _ _ ⟨_, _, r_need0 h hne hi, rfl, rfl, rfl, rfl⟩⟩
theorem r_CloneI (l : List Int) (h : l.length ≤ 1000000000) : R_slices_Clone_int_int l l := fun S => call_ext sp_slices_Clone_int_int S (by
  simp only [cloneX, List.length_map]
  rw [if_pos ⟨trivial, by omega, by omega⟩])
theorem r_put (x : PTokens) (out : List Node) (d : Int) (g : Nat) (z : Bool) (kind : Int) (text : List UInt8) (kids : List Int) (hk : kids.length ≤ 1000000) (ho : out.length ≤ 1000000) : R_parse_exprs_put (PExprs.mk x out d) g z kind text kids (out.length : Nat) (PExprs.mk x (out ++ [nd kind text kids]) d) g z := by
  refine parse_exprs_put_tree _ _ _ _ _ _ _ _ _ _ ⟨kids, r_CloneI kids (by omega), ?_, ?_, ?_, rfl, rfl, rfl⟩
  · simp only [bigRow]; omega
  · simp only [I64]; omega
  · simp
theorem set_lastP {α : Type} (l : List α) (a b : α) : (l ++ [a]).set l.length b = l ++ [b] := by simp
theorem r_num (x : PTokens) (out : List Node) (d : Int) (g : Nat) (kind n : Int) (ho : out.length ≤ 1000000) : R_parse_exprs_num (PExprs.mk x out d) g false kind n (out.length : Nat) (PExprs.mk x (out ++ [⟨kind, n, [], [], []⟩]) d) g false := by
  refine parse_exprs_num_tree _ _ _ _ _ _ _ _ _ ⟨_, _, _, _, r_put x out d g false kind [] [] (by simp) ho, by omega, ?_, rfl, nd kind [] [], ?_, rfl, ?_, rfl, rfl⟩
  · simp
  · simp
  · simp [nd]
end Go.Proofs.YtfbcnpbhhooapaaGreatDoor.M

/- Library functions over a function: what they yield if the function yields p. Printed by a program of this session (lift.py). -/
namespace Go.Proofs.YtfbcnpbhhooapaaGreatDoor.M
set_option linter.unusedSimpArgs false
set_option linter.unusedVariables false
open Go Classical
theorem sp_slices_IndexFunc_api_Attr_api_Attr : SP 141 = some (.code sc_slices_IndexFunc_api_Attr_api_Attr) := SPof_code rfl Tryz.func141 comp_slices_IndexFunc_api_Attr_api_Attr
theorem G_slices_IndexFunc_api_Attr_api_Attr (xs : List Attr) (g : Nat) (caps : List PV) (p : Attr → Bool) (S : Sto) (hl : xs.length < 9223372036854775808) (h1 : ∀ S, handA S (PV.upL caps) = some (PV.upL caps, S)) (h2 : (PV.upL caps).any PV.hasSl = false) (h3 : ∀ a, joinA a (PV.upL caps) = a ++ PV.upL caps) (hc : ∀ x, x ∈ xs → ∀ f, call SP g (.agg (eAttr x) :: PV.upL caps) (f :: S) = .ok (.v (.bool (p x))) (f :: S)) : call SP 141 [.list 2 (xs.map eAttr) false, .func g caps] S = .ok (.v (.int .i64 (findI p 0 xs))) S := by
  have loop : ∀ (k i : Nat), i + k = xs.length → ∀ (e : Nat → PV) (f : Fr), e 0 = .list 2 (xs.map eAttr) false ∧ e 1 = .func g (PV.upL caps) ∧ e 7 = .int .i64 ((xs.length : Nat) : Int) ∧ e 8 = .int .i64 ((i : Nat) : Int) → k_slices_IndexFunc_api_Attr_api_Attr_1 SP (E SP (.loop b_slices_IndexFunc_api_Attr_api_Attr_1) ⟨e, f :: S⟩) = .ok (.v (.int .i64 (findI p i (xs.drop i)))) S := by
    intro k
    induction k with
    | zero =>
      intro i hi e f h
      have hlt : ¬ (((i : Nat) : Int) < ((xs.length : Nat) : Int)) := by omega
      rw [List.drop_eq_nil_of_le (by omega)]
      unfold k_slices_IndexFunc_api_Attr_api_Attr_1 findI
      rw [E_loop]
      simp only [h, hlt, U_slices_IndexFunc_api_Attr_api_Attr, lw, lx, le, Nat.reduceMul, UInt8.reduceToNat, reduceIte, reduceCtorEq, Nat.reduceEqDiff, Nat.reduceAdd, Nat.reduceLeDiff, Nat.reduceSub, Nat.reduceLT, Int.reduceEq, Int.reduceLT, Int.reduceLE, Int.reduceToNat, Int.reduceAdd, Int.reduceSub, Int.reduceMul, Int.reduceNeg, h1, h2, h3]
    | succ k ih =>
      intro i hi e f h
      have hlt : (((i : Nat) : Int) < ((xs.length : Nat) : Int)) := by omega
      have hi' : i < xs.length := by omega
      have hv : xs[i]? = some xs[i] := List.getElem?_eq_getElem hi'
      have hcx := hc xs[i] (List.getElem_mem hi')
      have w1 : IntKind.i64.wrap ((i : Int) + 1) = ((i + 1 : Nat) : Int) := by rw [wrap_i64 (by omega) (by omega)]; omega
      rw [List.drop_eq_getElem_cons hi']
      simp only [le] at hcx
      have hi2 := ih (i + 1) (by omega)
      unfold k_slices_IndexFunc_api_Attr_api_Attr_1 at hi2 ⊢
      unfold findI
      rw [E_loop]
      cases hp : p xs[i] with
      | true =>
        rw [hp] at hcx
        simp only [h, hlt, hv, hcx, w1, nat_nonneg, Int.toNat_natCast, U_slices_IndexFunc_api_Attr_api_Attr, lw, lx, le, Nat.reduceMul, UInt8.reduceToNat, reduceIte, reduceCtorEq, Nat.reduceEqDiff, Nat.reduceAdd, Nat.reduceLeDiff, Nat.reduceSub, Nat.reduceLT, Int.reduceEq, Int.reduceLT, Int.reduceLE, Int.reduceToNat, Int.reduceAdd, Int.reduceSub, Int.reduceMul, Int.reduceNeg, h1, h2, h3]
      | false =>
        rw [hp] at hcx
        simp only [h, hlt, hv, hcx, w1, nat_nonneg, Int.toNat_natCast, U_slices_IndexFunc_api_Attr_api_Attr, lw, lx, le, Nat.reduceMul, UInt8.reduceToNat, reduceIte, reduceCtorEq, Nat.reduceEqDiff, Nat.reduceAdd, Nat.reduceLeDiff, Nat.reduceSub, Nat.reduceLT, Int.reduceEq, Int.reduceLT, Int.reduceLE, Int.reduceToNat, Int.reduceAdd, Int.reduceSub, Int.reduceMul, Int.reduceNeg, h1, h2, h3]
        rw [hi2 _ _ ?_]
        simp only [h, w1, U_slices_IndexFunc_api_Attr_api_Attr, lw, lx, le, Nat.reduceMul, UInt8.reduceToNat, reduceIte, reduceCtorEq, Nat.reduceEqDiff, Nat.reduceAdd, Nat.reduceLeDiff, Nat.reduceSub, Nat.reduceLT, Int.reduceEq, Int.reduceLT, Int.reduceLE, Int.reduceToNat, Int.reduceAdd, Int.reduceSub, Int.reduceMul, Int.reduceNeg, h1, h2, h3]
  rw [call_code sp_slices_IndexFunc_api_Attr_api_Attr _ _ rfl]
  simp only [U_slices_IndexFunc_api_Attr_api_Attr, lw, lx, le, Nat.reduceMul, UInt8.reduceToNat, reduceIte, reduceCtorEq, Nat.reduceEqDiff, Nat.reduceAdd, Nat.reduceLeDiff, Nat.reduceSub, Nat.reduceLT, Int.reduceEq, Int.reduceLT, Int.reduceLE, Int.reduceToNat, Int.reduceAdd, Int.reduceSub, Int.reduceMul, Int.reduceNeg, h1, h2, h3]
  have := loop xs.length 0 (by omega)
  unfold k_slices_IndexFunc_api_Attr_api_Attr_1 at this
  rw [this _ _ ?_]
  · rw [List.drop_zero]
  · simp only [U_slices_IndexFunc_api_Attr_api_Attr, lw, lx, le, Nat.reduceMul, UInt8.reduceToNat, reduceIte, reduceCtorEq, Nat.reduceEqDiff, Nat.reduceAdd, Nat.reduceLeDiff, Nat.reduceSub, Nat.reduceLT, Int.reduceEq, Int.reduceLT, Int.reduceLE, Int.reduceToNat, Int.reduceAdd, Int.reduceSub, Int.reduceMul, Int.reduceNeg, h1, h2, h3]
    try simp
theorem sp_slices_ContainsFunc_api_Attr_api_Attr : SP 99 = some (.code sc_slices_ContainsFunc_api_Attr_api_Attr) := SPof_code rfl Tryz.func99 comp_slices_ContainsFunc_api_Attr_api_Attr
theorem G_slices_ContainsFunc_api_Attr_api_Attr (xs : List Attr) (g : Nat) (caps : List PV) (p : Attr → Bool) (S : Sto) (hl : xs.length < 9223372036854775808) (h1 : ∀ S, handA S (PV.upL caps) = some (PV.upL caps, S)) (h2 : (PV.upL caps).any PV.hasSl = false) (h3 : ∀ a, joinA a (PV.upL caps) = a ++ PV.upL caps) (h1' : ∀ S, handA S (PV.upL (PV.upL caps)) = some (PV.upL (PV.upL caps), S)) (h2' : (PV.upL (PV.upL caps)).any PV.hasSl = false) (h3' : ∀ a, joinA a (PV.upL (PV.upL caps)) = a ++ PV.upL (PV.upL caps)) (hc : ∀ x, x ∈ xs → ∀ f f', call SP g (.agg (eAttr x) :: PV.upL (PV.upL caps)) (f :: f' :: S) = .ok (.v (.bool (p x))) (f :: f' :: S)) : call SP 99 [.list 2 (xs.map eAttr) false, .func g caps] S = .ok (.v (.bool (xs.any p))) S := by
  have ix := fun f' => G_slices_IndexFunc_api_Attr_api_Attr xs g (PV.upL caps) p (f' :: S) hl h1' h2' h3' fun x hx f => hc x hx f f'
  have hd := findI_dec p xs
  rw [call_code sp_slices_ContainsFunc_api_Attr_api_Attr _ _ rfl]
  simp only [ix, hd, U_slices_ContainsFunc_api_Attr_api_Attr, lw, lx, le, Nat.reduceMul, UInt8.reduceToNat, reduceIte, reduceCtorEq, Nat.reduceEqDiff, Nat.reduceAdd, Nat.reduceLeDiff, Nat.reduceSub, Nat.reduceLT, Int.reduceEq, Int.reduceLT, Int.reduceLE, Int.reduceToNat, Int.reduceAdd, Int.reduceSub, Int.reduceMul, Int.reduceNeg, h1, h2, h3]
end Go.Proofs.YtfbcnpbhhooapaaGreatDoor.M
