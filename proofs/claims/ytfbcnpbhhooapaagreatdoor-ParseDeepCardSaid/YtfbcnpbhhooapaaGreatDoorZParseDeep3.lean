/- Parts of a proof, one behind another: Ma34, Ma35, Ma39, B0, Lf0, Lp, Lw, Ty, Rc, Bk1, Bk2, Bk3, X0, R, R2, Sc9, Lt9, Sc1. -/
import Derived.Test.YtfbcnpbhhooapaaGreatDoorZParseDeep2
import Derived.Test.YtfbcnpbhhooapaaGreatDoorProg
import Derived.Recover
import Derived.KernelRfl
import Derived.Tactics
import Derived.Tactics2
import Derived.Laws.Pointers
import Derived.RangeFuncNested
import Derived.RangeFuncBound
import Derived.RangeFuncCalls
import Derived.RangeFuncLeaves
import Derived.Shelf.Abstract
import Derived.WalkKit
import Derived.OwnWalkIn
import Derived.TacticsInMore
import Derived.LoopNIn
import Derived.LoopIn
/- THE ABSTRACT MACHINE, thirty-fourth part: slices.Clone, which asks whether a row is nil: either answer comes to the same. -/
namespace Go.Proofs.YtfbcnpbhhooapaaGreatDoor.M
set_option linter.unusedSimpArgs false
set_option linter.unusedVariables false
set_option linter.unusedSectionVars false
open Go Classical
section
variable [Base] {g g' : Gh} {S S' : Sto} {w w' : World} {P : Program}
theorem seq_post {cl : Oracle} (hcl : OracleOk P cl) (hm : P.follows .mixedOrders = true) {n : Nat} {b : Code} {sb : SC} (hb : cCode P n b = some sb) {N l : Nat} {Q : Exit → Act → World → Prop} {sa : SC} {ac : Ac} (hl : ac.S.length = l) (hp : EPost [] n g l w Q (evC cl N (.seq sa sb) ac)) :
    EPost [] n g l w (Exit.then (b.wp P Q) Q) (evC cl N sa ac) := by
  have hbad : evC cl N sa ac ≠ .bad := fun e => by
    simp only [evC, e] at hp
    exact hp
  refine EPost.behind hbad (fun hnn => ?_) (fun ac' he a' w' g' h1 h2 h3 => ?_)
  · simp only [evC] at hp
    cases he : evC cl N sa ac with
    | nor ac' => exact absurd he (hnn ac')
    | _ => rw [he] at hp; exact hp
  · simp only [evC, he] at hp
    exact evC_ok hcl hm b sb hb N h1 (by rw [h3]; exact hp.from h2)
/-- A row of its own that comes back may be taken for data. -/
theorem arr_to_list {sz : Nat} {rows : List (List PV)} {c : Value} (h : CallPost g S w (.ok (.arr sz rows false) S') (.returned c) w') : CallPost g S w (.ok (.v (.list sz rows false)) S') (.returned c) w' := by
  obtain ⟨g1, w1, x1, t1, ⟨ai, hA, rfl, hb⟩, l1⟩ := h
  obtain ⟨cs, c1, c2⟩ := hA.cells
  by_cases hr : rows = []
  · subst hr
    refine ⟨g1, w1, x1, t1, ?_, l1⟩
    have e0 : ai.len = ([] : List (List PV)).length := hA.len
    rw [e0]
    exact .data _ _ (.list sz [] false ai.A ai.cap (fun _ _ => undef) (Nat.zero_le _) (fun h => by cases h) (fun r hr => by cases hr) (fun h => absurd rfl h) (fun ad i j row v _ hi => by simp at hi) (fun i j row v hi => by simp at hi))
  · have hbk : ∃ b, ai.blk = some b := by
      cases hbk : ai.blk with
      | some b => exact ⟨b, rfl⟩
      | none =>
        rcases (hA.free hbk).2 with h | h
        · cases h
        · exact absurd h hr
    obtain ⟨b, hbk⟩ := hbk
    obtain ⟨hb1, hb2⟩ := hb b hbk
    obtain ⟨hA1, ⟨cells, elem, hc1, hc2⟩, _, hfz⟩ := hA.own b hbk
    have hfz' := hfz rfl
    obtain ⟨p1, p2⟩ := w1.fzMore (φ := fun b' o => if b' = b then w'.cell? ⟨b', o, none⟩ else g1.fz b' o) (fun b' o v hh => by
      split at hh
      · exact hh
      · exact w1.fz b' o v hh) (fun b' o v hh => by
      rw [if_neg]
      · exact hh
      · rintro rfl
        rw [hfz'] at hh
        cases hh) (fun x b' hx o => by
      rw [if_neg]
      rintro rfl
      exact hb2 x hx)
    refine ⟨_, p1, x1.trans p2, t1.trans ⟨rfl, rfl, rfl, Nat.le_refl _, p2.fz, fun _ _ _ => rfl, fun x k h => .inl h, p2.pop_⟩, ?_, l1⟩
    have e0 : ai.len = rows.length := hA.len
    rw [e0]
    refine .data _ _ (.list sz rows false ai.A ai.cap cs (by rw [← e0]; exact hA.cap) (fun h => by cases h) hA.each hA.addr (fun ad i j row v had hi hj => ?_) (fun i j row v hi hj => (c1 i j row v hi hj).mono p2.fz))
    have := (c2 ad i j row v had hi hj).1
    rw [hA1] at had
    obtain rfl := Option.some.inj had
    show (if b = b then _ else _) = _
    rw [if_pos rfl]
    exact this
theorem inv_isnil {o : Oper} {x' : X} (h : cOp P o = some (.v (.isnil false x'))) : ∃ t e x y u, o.op = .binOp .eql t x y u ∧ P.underlying t = some (.slice e) ∧ isNilSlice y = true ∧ cX P t x = some x' := by
  obtain ⟨dst, op, ty, pos, after, guard⟩ := o
  cases op <;> simp only [cOp, reduceCtorEq, Option.map_eq_some_iff] at h
  case binOp op t x y u =>
    split at h
    · rename_i x1 y1 hx hy
      split at h
      · rw [Option.map_eq_some_iff] at h; obtain ⟨_, _, h⟩ := h; cases h
      · rw [Option.map_eq_some_iff] at h; obtain ⟨_, _, h⟩ := h; cases h
      · cases h
      · cases h
      · rename_i e ht
        split at h
        · rename_i hn
          cases h
          exact ⟨t, e, x, y, u, rfl, ht, hn, hx⟩
        · cases h
      · split at h <;> cases h
      · split at h <;> cases h
      · split at h <;> cases h
      · cases h
      · cases h
    · cases h
  case call c =>
    unfold cCall at h
    repeat' split at h
    all_goals cases h
  all_goals first
    | (obtain ⟨_, _, h⟩ := h; cases h; done)
    | (repeat' split at h
       all_goals first | (cases h; done) | (rw [Option.map_eq_some_iff] at h; obtain ⟨_, _, h⟩ := h; cases h))
theorem inv_seq {n : Nat} {c : Code} {a b : SC} (h : cCode P n c = some (.seq a b)) : ∃ x y, c = .seq x y ∧ cCode P n x = some a ∧ cCode P n y = some b := by
  cases c <;> (try simp only [cCode, reduceCtorEq, Option.some.injEq, Option.map_eq_some_iff, false_and, and_false, exists_false] at h)
  case region id ops d =>
    cases d <;> simp only [cCode] at h
    · rw [Option.map_eq_some_iff] at h; obtain ⟨_, _, h⟩ := h; cases h
    · split at h
      · (repeat' split at h) <;> cases h
      · cases h
  case seq x y =>
    split at h
    · rename_i a' b' h1 h2
      cases h
      exact ⟨x, y, rfl, h1, h2⟩
    · cases h
  case cond => split at h <;> cases h
theorem inv_reg {n : Nat} {c : Code} {l : List SOper} (h : cCode P n c = some (.reg l)) : ∃ id ops, c = .region id ops false ∧ cOpers P n ops ops.toList = some l := by
  cases c <;> (try simp only [cCode, reduceCtorEq, Option.some.injEq, Option.map_eq_some_iff, false_and, and_false, exists_false] at h)
  case region id ops d =>
    cases d <;> simp only [cCode] at h
    · rw [Option.map_eq_some_iff] at h; obtain ⟨l', h1, h⟩ := h; cases h; exact ⟨id, ops, rfl, h1⟩
    · split at h
      · (repeat' split at h) <;> cases h
      · cases h
  case seq x y => split at h <;> cases h
  case cond => split at h <;> cases h
theorem comp_inv {fn : Func} {sf : SFunc} (h : comp P fn = some sf) : ∃ c, fn.body = some c ∧ cCode P fn.ntmps c = some sf.code ∧ cRes P fn.ntmps fn.results.toList = some sf.res ∧ sf.nargs = fn.params.size + fn.nfree ∧ fn.params.size + fn.nfree ≤ fn.ntmps := by
  unfold comp at h
  split at h
  · rename_i c hb
    split at h
    · rename_i c' r' h1 h2
      split at h
      · rename_i hc
        cases h
        exact ⟨c, hb, h1, h2, rfl, hc.1⟩
      · cases h
    · cases h
  · cases h
theorem start_relA (hw : WR g S w) {args : List PV} {cs : Array Value} (ha : ArgsR g args cs) {n : Nat} (hsz : cs.size ≤ n) : RelA [] n g.push (ac0 args S) { tmps := cs ++ Array.replicate (n - cs.size) undef, defers := [] } w := by
  refine ⟨⟨push_wr hw, fun t => ?_⟩, by simp; omega, rfl, Nat.succ_pos _⟩
  show VR g.push (argE (args.map PV.up) t) ((cs ++ Array.replicate (n - cs.size) undef).getD t undef)
  unfold argE
  rw [List.getElem?_map, Array.getD_eq_getD_getElem?]
  cases hat : args[t]? with
  | some v =>
    have hlt := (List.getElem?_eq_some_iff.1 hat).1
    rw [Array.getElem?_append_left (by rw [← ha.1]; exact hlt)]
    simp only [Option.map_some, Option.getD_some]
    rw [← Array.getD_eq_getD_getElem?]
    exact (ha.2 t v hat).up (Gh.pop_push g)
  | none =>
    have hge := List.getElem?_eq_none_iff.1 hat
    rw [Array.getElem?_append_right (by rw [← ha.1]; exact hge)]
    simp only [Option.map_none, Option.getD_none]
    rw [Array.getElem?_replicate]
    split <;> exact .undef
end
end Go.Proofs.YtfbcnpbhhooapaaGreatDoor.M

/- THE ABSTRACT MACHINE, thirty-fifth part: slices.Clone: what it yields is its row. -/
namespace Go.Proofs.YtfbcnpbhhooapaaGreatDoor.M
set_option linter.unusedSimpArgs false
set_option linter.unusedVariables false
set_option linter.unusedSectionVars false
open Go Classical
section
variable [Base] {g g' : Gh} {S S' : Sto} {w w' : World} {P : Program}
def cloneC (z bytes : Nat) (zero : List PV) : SC :=
  .seq (.reg [⟨some 2, none, .nilv z⟩]) (.seq (.seq (.reg [⟨some 3, none, .v (.mov (.t 0))⟩, ⟨some 4, none, .v (.isnil false (.t 3))⟩]) (.cond (.t 4) (.seq (.reg [⟨some 2, none, .nilv z⟩]) .ret) .skip))
    (.seq (.reg [⟨some 5, none, .bslice z 0 zero []⟩, ⟨some 6, none, .v (.mov (.t 0))⟩, ⟨some 7, none, .append z bytes (.t 5) (.t 6)⟩, ⟨some 2, none, .v (.mov (.t 7))⟩]) .ret))
noncomputable def cloneX (z bytes : Nat) : List PV → Option PV
  | [.list z' rows _] => if z' = z ∧ rows.length * bytes ≤ 1099511627776 ∧ rows.length ≤ 1099511627776 then some (.list z rows false) else none
  | _ => none
def cloneA1 (z : Nat) (rows : List (List PV)) (full : Bool) (S : Sto) : Ac := ⟨upd (killE 2 (argE [.list z rows full])) 2 (.sl 0 (.slot 2) 0 0 0 0 false), setArr (killS 2 (Fr.e :: S)) 0 (.slot 2) ⟨z, [], false, 0⟩⟩
def cloneA2 (z : Nat) (rows : List (List PV)) (full : Bool) (S : Sto) : Ac := (cloneA1 z rows full S).put (some 3) (.list z rows full)
def cloneEnd (z bytes : Nat) (zero : List PV) : SC := .seq (.cond (.t 4) (.seq (.reg [⟨some 2, none, .nilv z⟩]) .ret) .skip) (.seq (.reg [⟨some 5, none, .bslice z 0 zero []⟩, ⟨some 6, none, .v (.mov (.t 0))⟩, ⟨some 7, none, .append z bytes (.t 5) (.t 6)⟩, ⟨some 2, none, .v (.mov (.t 7))⟩]) .ret)
theorem clone_fin {cl : Oracle} {z bytes : Nat} {zero : List PV} {rows : List (List PV)} {full : Bool} (hb1 : rows.length * bytes ≤ 1099511627776) (hb2 : rows.length ≤ 1099511627776) (hby : bytes ≤ 65536) : ∀ b : Bool, (b = true → rows = []) → ∃ acf, evC cl 0 (cloneEnd z bytes zero) ((cloneA2 z rows full S).put (some 4) (.bool b)) = .ret acf ∧ retOf [.t 2] acf = .ok (.arr z rows false) S := by
  intro b hb
  cases b with
  | true =>
    obtain rfl := hb rfl
    refine ⟨_, by simp only [cloneEnd, evC, evOps, stp, ex, newArr]; rfl, ?_⟩
    simp only [retOf, rdRes, retL, ret1]
    rfl
  | false =>
    have hbig : bigRow rows.length bytes := ⟨hb1, hb2, hby⟩
    have happ : appendP true 7 z bytes (.nils z) (.list z rows full) (((((cloneA2 z rows full S).put (some 4) (.bool false)).put (some 5) (.nils z)).put (some 6) (.list z rows full))) = newArr true 7 ⟨z, rows, false, 0⟩ ((((cloneA2 z rows full S).put (some 4) (.bool false)).put (some 5) (.nils z)).put (some 6) (.list z rows full)) := by
      simp [appendP, srcRows, view, hbig]
    have hops : evOps cl [⟨some 5, none, .bslice z 0 zero []⟩, ⟨some 6, none, .v (.mov (.t 0))⟩, ⟨some 7, none, .append z bytes (.t 5) (.t 6)⟩, ⟨some 2, none, .v (.mov (.t 7))⟩] ((cloneA2 z rows full S).put (some 4) (.bool false)) = thOps cl (appendP true 7 z bytes (.nils z) (.list z rows full) (((((cloneA2 z rows full S).put (some 4) (.bool false)).put (some 5) (.nils z)).put (some 6) (.list z rows full)))) [⟨some 2, none, .v (.mov (.t 7))⟩] := rfl
    rw [happ] at hops
    refine ⟨_, by simp only [cloneEnd, evC]; rw [show Ac.ev ((cloneA2 z rows full S).put (some 4) (.bool false)) (.t 4) = .bool false from rfl]; simp only [hops, Bool.false_eq_true, if_false, newArr, if_true]; rfl, ?_⟩
    have harr : ∀ e : Nat → PV, e 2 = .sl 0 (.slot 7) 0 rows.length rows.length 0 false → ∀ St : Sto, getArr St 0 (.slot 7) = some ⟨z, rows, false, 0⟩ → St.tail = S → retOf [.t 2] ⟨e, St⟩ = .ok (.arr z rows false) S := by
      intro e h1 St h2 h3
      simp [retOf, rdRes, retL, ret1, h1, h2, h3]
    exact harr _ rfl _ rfl rfl
theorem two_of {α : Type} {l : List α} (h : l.length = 2) : ∃ a b, l = [a, b] := by
  match l, h with
  | [a, b], _ => exact ⟨a, b, rfl⟩
theorem clone_ext (hm : P.follows .mixedOrders = true) {f : Nat} {fn : Func} {nt z bytes : Nat} {zero : List PV} (hf : P.funcs[f]? = some fn) (hc : comp P fn = some ⟨1, nt, cloneC z bytes zero, [.t 2]⟩) (hby : bytes ≤ 65536) : ExtOk P f (cloneX z bytes) := by
  intro args v hx g S w cs hw ha
  have henter := enter_of hf hc cs w
  obtain ⟨c, hbody, hcode, hres, hna, hnt⟩ := comp_inv hc
  unfold cloneX at hx
  split at hx
  · rename_i z' rows full
    split at hx
    · rename_i hcnd
      obtain ⟨rfl, hb1, hb2⟩ := hcnd
      obtain rfl := Option.some.inj hx
      left
      refine ⟨henter, ?_⟩
      obtain ⟨r1, c2, rfl, hr1, hc2⟩ := inv_seq hcode
      obtain ⟨c3, rest, rfl, hc3, hrest⟩ := inv_seq hc2
      obtain ⟨r2, cnd_, rfl, hr2, hcd⟩ := inv_seq hc3
      obtain ⟨i2, ops, rfl, hops⟩ := inv_reg hr2
      obtain ⟨hol, hog⟩ := cOpers_get ops.toList _ hops
      have hlen : ops.toList.length = 2 := by rw [← hol]; rfl
      obtain ⟨o1, o2, hopl⟩ := two_of hlen
      · skip
        have ho1 : cOper P fn.ntmps ops o1 = some ⟨some 3, none, .v (.mov (.t 0))⟩ := by
          obtain ⟨so, h1, h2⟩ := hog 0 o1 (by rw [hopl]; rfl)
          simp at h1
          rw [h1]; exact h2
        have ho2 : cOper P fn.ntmps ops o2 = some ⟨some 4, none, .v (.isnil false (.t 3))⟩ := by
          obtain ⟨so, h1, h2⟩ := hog 1 o2 (by rw [hopl]; rfl)
          simp at h1
          rw [h1]; exact h2
        let cl : Oracle := fun _ _ _ => .bad
        have hcl : OracleOk P cl := fun f args S h => absurd rfl h
        have e1 : evC cl 0 (.reg [⟨some 2, none, .nilv z'⟩]) (ac0 [.list z' rows full] S) = .nor (cloneA1 z' rows full S) := by
          simp only [evC]
          rfl
        have e2 : stp cl true ⟨some 3, none, .v (.mov (.t 0))⟩ (cloneA1 z' rows full S) = .ok (cloneA2 z' rows full S) := rfl
        have hfin := clone_fin (cl := cl) (z := z') (zero := zero) (full := full) (S := S) hb1 hb2 hby
        have hsz : cs.size ≤ fn.ntmps := by
          rw [← ha.1]
          have : (1 : Nat) = fn.params.size + fn.nfree := hna
          show 1 ≤ fn.ntmps
          omega
        have hr0 := start_relA hw ha hsz
        refine calls_of_wp hf hbody (wp_seq (evC_ok hcl hm r1 _ hr1 0 hr0 ?_))
        rw [e1]
        intro a1 w1 g1 h1 t1 l1
        show (Code.seq (Code.seq (Code.region i2 ops false) cnd_) rest).wp P _ a1 w1
        refine wp_seq (wp_seq (wp_region_list ?_))
        rw [hopl]
        refine wpList_step fun K hK => ?_
        have s1 := stp_ok hcl ho1 (kd := true) h1 (fun h => by cases h)
        rw [e2] at s1
        obtain ⟨_, hd1, hdn1, _⟩ := cOper_inv ho1
        show doOp P ops o1 a1 w1 K _
        refine s1 K _ (fun c0 w2 g2 hst => hK _ _ ?_)
        · skip
          have h2 := hst.relA h1 hdn1
          obtain ⟨hop2, hdst2, hdn2, hgd⟩ := cOper_inv ho2
          have hg0 : o2.guard = none := by
            rcases hgd with ⟨h, _⟩ | ⟨_, _, _, _, _, h⟩
            · exact h
            · cases h
          refine wpList_plain hg0 fun K2 hK2 => ?_
          obtain ⟨t, e, x, y, u, ho, ht, hn, hx⟩ := inv_isnil hop2
          have hy := isNil_const hn
          subst hy
          have hev := h2.rel.ev hx
          have hv3 : (cloneA2 z' rows full S).ev (.t 3) = .list z' rows full := rfl
          rw [hv3] at hev
          cases hev with | data _ _ hfr =>
          generalize hcc : (a1.put o1.dst c0).eval x = cc at hfr
          cases hfr with | list _ _ _ A cap cs' hl hfl hss hA hcs hvs =>
          have hrun : (execOp (a1.put o1.dst c0).eval o2).run P w2 = .ok (.value (.bool A.isNone)) w2 := by
            have := nil_run ht .eql false (.inl ⟨rfl, rfl⟩) x (.const (.slice none 0 0)) A rows.length cap w2
            unfold execOp
            rw [ho]
            show (do pure (Next.value (← (do eqGuard .eql t x (.const (.slice none 0 0)) ((a1.put o1.dst c0).eval x) ((a1.put o1.dst c0).eval (.const (.slice none 0 0))); binOp .eql t ((a1.put o1.dst c0).eval x) ((a1.put o1.dst c0).eval (.const (.slice none 0 0))) : Sem Value))) : Sem Next).run P w2 = _
            rw [hcc]
            exact exec_w this
          unfold Oper.wp
          rw [hrun]
          apply hK2
          obtain ⟨acf, f1, f2⟩ := hfin A.isNone (fun hnn => by
            apply Classical.byContradiction
            intro hne
            obtain ⟨ad, rfl, _⟩ := hA hne
            cases hnn)
          have h3 := (put_step (d := o2.dst) (kd := true) (ac := cloneA2 z' rows full S) (S' := (cloneA2 z' rows full S).S) (w' := w2) (w := w2) (g := g2) (g' := g2) (v := .bool A.isNone) (c := .bool A.isNone) h2.rel.wr (Ext.refl g2) (Tr.refl g2 w2) (.data _ _ (.bool _)) rfl).relA h2 hdn2
          rw [← hdst2] at h3
          show cnd_.wp P _ _ w2
          rw [← hdst2]
          refine evC_ok hcl hm cnd_ _ hcd 0 h3 (seq_post hcl hm hrest rfl ?_)
          have f1' : evC cl 0 (cloneEnd z' bytes zero) (({ cloneA2 z' rows full S with S := (cloneA2 z' rows full S).S } : Ac).put (some 4) (.bool A.isNone)) = .ret acf := f1
          show EPost _ _ _ _ _ _ (evC cl 0 (cloneEnd z' bytes zero) _)
          rw [f1']
          intro a4 w4 g4 h4 t4 l4
          have hb4 : retOf [.t 2] acf ≠ .bad := by rw [f2]; exact fun h => by cases h
          obtain ⟨v, q1, q2⟩ := retOf_ok (g := g) (S := S) (w := w) hres h4 ((t1.trans hst.tr).trans t4) (by rw [l4]; rfl) hb4
          rw [f2] at q2
          exact ⟨h4.defers, v, q1, arr_to_list q2⟩
    · cases hx
  · cases hx
end
end Go.Proofs.YtfbcnpbhhooapaaGreatDoor.M

/- THE ABSTRACT MACHINE, thirty-ninth part: a function that recovers. -/
namespace Go.Proofs.YtfbcnpbhhooapaaGreatDoor.M
set_option linter.unusedSimpArgs false
set_option linter.unusedVariables false
set_option linter.unusedSectionVars false
open Go Classical
section
variable [Base] {g g' : Gh} {S S' : Sto} {w w' : World} {P : Program} {D : List Deferred}
/-- Slot t holds its own box still. -/
def Keeps (t : Nat) (r : OO) : Prop := ∀ ac, r = .ok ac → ac.e t = .ptr 0 t 0
theorem keeps_put {t : Nat} {d : Option Nat} {v : PV} {e : Nat → PV} (hd : d ≠ some t) (h : e t = .ptr 0 t 0) (S : Sto) : Keeps t (.ok (({ e := e, S := S } : Ac).put d v)) := by
  intro ac hac
  cases hac
  cases d with
  | none => exact h
  | some d =>
    have : t ≠ d := fun e => hd (by rw [e])
    simp only [Ac.put, upd, if_neg this]
    exact h
theorem keeps_upd {t d : Nat} {v : PV} {e : Nat → PV} {S : Sto} (hd : (some d : Option Nat) ≠ some t) (h : e t = .ptr 0 t 0) : Keeps t (.ok ⟨upd (killE d e) d v, S⟩) := by
  intro ac hac
  cases hac
  have : t ≠ d := fun e => hd (by rw [e])
  simp [upd, killE, h, PV.kill, this]
theorem keeps_set {t d : Nat} {v : PV} {e : Nat → PV} {S : Sto} (hd : (some d : Option Nat) ≠ some t) (h : e t = .ptr 0 t 0) : Keeps t (.ok ⟨upd e d v, S⟩) := by
  intro ac hac
  cases hac
  have : t ≠ d := fun e => hd (by rw [e])
  simp [upd, h, this]
theorem keeps_same {t : Nat} {e : Nat → PV} {S : Sto} (h : e t = .ptr 0 t 0) : Keeps t (.ok ⟨e, S⟩) := by
  intro ac hac
  cases hac
  exact h
theorem keeps_bad (t : Nat) : Keeps t .bad := fun ac h => by cases h
theorem keeps_pan (t : Nat) (v : PV) (S : Sto) : Keeps t (.pan v S) := fun ac h => by cases h
theorem keeps_newArr {kd : Bool} {t d : Nat} {A : Arr} {ac : Ac} (hd : (some d : Option Nat) ≠ some t) (h : ac.e t = .ptr 0 t 0) : Keeps t (newArr kd d A ac) := by
  unfold newArr
  split
  · exact keeps_upd hd h
  · split
    · exact keeps_set hd h
    · exact keeps_bad t
theorem keeps_append {kd : Bool} {t d sz bytes : Nat} {x y : PV} {ac : Ac} (hd : (some d : Option Nat) ≠ some t) (h : ac.e t = .ptr 0 t 0) : Keeps t (appendP kd d sz bytes x y ac) := by
  unfold appendP
  repeat' split
  all_goals first | exact keeps_bad t | exact keeps_newArr hd h | exact keeps_set hd h
theorem keeps_call {cl : Oracle} {kd : Bool} {t : Nat} {d : Option Nat} {f : PV} {args : List PV} {ac : Ac} (hd : d ≠ some t) (h : ac.e t = .ptr 0 t 0) : Keeps t (callP cl kd d f args ac) := by
  unfold callP
  split
  · split
    · split
      · rename_i r S' _
        dsimp only
        cases r with
        | v x => exact keeps_put hd h _
        | arr sz rows frz =>
          dsimp only
          cases d with
          | none => exact keeps_same h
          | some d =>
            dsimp only
            split
            · exact keeps_newArr hd h
            · exact keeps_put hd h _
      · exact keeps_pan _ _ _
      · exact keeps_bad t
    · exact keeps_bad t
  · exact keeps_bad t
theorem keeps_ex {cl : Oracle} {kd : Bool} {t : Nat} {d : Option Nat} {op : SOp} {ac : Ac} (hd : d ≠ some t) (h : ac.e t = .ptr 0 t 0) : Keeps t (ex cl kd d op ac) := by
  unfold ex
  split
  · split
    · exact keeps_put hd h _
    · exact keeps_bad t
  · split
    · exact keeps_newArr hd h
    · exact keeps_bad t
  · split
    · split
      · exact keeps_upd hd h
      · split
        · exact keeps_put hd h _
        · exact keeps_bad t
    · exact keeps_bad t
  · split
    · split
      · exact keeps_upd hd h
      · exact keeps_bad t
    · exact keeps_bad t
  · split
    · exact keeps_put hd h _
    · split
      · exact keeps_put hd h _
      · exact keeps_bad t
  · split
    · exact keeps_same h
    · exact keeps_bad t
  · split
    · exact keeps_append hd h
    · exact keeps_bad t
  · exact keeps_call hd h
  · split
    · exact keeps_pan _ _ _
    · exact keeps_bad t
  · split
    · exact keeps_put hd h _
    · exact keeps_bad t
theorem keeps_stp {cl : Oracle} {kd : Bool} {t : Nat} {o : SOper} {ac : Ac} (hd : o.dst ≠ some t) (h : ac.e t = .ptr 0 t 0) : Keeps t (stp cl kd o ac) := by
  unfold stp
  split
  · exact keeps_ex hd h
  · split
    · split
      · exact keeps_ex hd h
      · exact keeps_put hd h _
    · exact keeps_put hd h _
    · exact keeps_bad t
/-- What is left to show, if a panic leaves slot t's box as it is. -/
def EPostP (D : List Deferred) (n : Nat) (g : Gh) (l : Nat) (w : World) (Q : Exit → Act → World → Prop) (t : Nat) (c0 : Value) : EO → Prop
  | .nor ac' => ∀ a' w' g', RelA D n g' ac' a' w' → Tr g w g' w' → ac'.S.length = l → Q .normal a' w'
  | .pan v S => ∀ a' w' g' c, WR g' S w' → VR g' v c → VR g' (.ptr 0 t 0) c0 → Tr g w g' w' → S.length = l → a'.defers = D → a'.tmps.size = n → a'.eval (.tmp t) = c0 → Q (.panic [{ v := c, recovered := false }]) a' w'
  | _ => False
theorem EPostP.from {n l t : Nat} {c0 : Value} {g1 : Gh} {w1 : World} {Q : Exit → Act → World → Prop} {r : EO} (h : EPostP D n g l w Q t c0 r) (ht : Tr g w g1 w1) : EPostP D n g1 l w1 Q t c0 r := by
  cases r with
  | nor ac => exact fun a' w' g' h1 h2 h3 => h a' w' g' h1 (ht.trans h2) h3
  | pan v S => exact fun a' w' g' c h1 h2 h3 h4 h5 h6 h7 h8 => h a' w' g' c h1 h2 h3 (ht.trans h4) h5 h6 h7 h8
  | _ => exact h
theorem evOps_pan {cl : Oracle} (hcl : OracleOk P cl) {n t : Nat} {ops : Array Oper} {Q : Exit → Act → World → Prop} {c0 : Value} : ∀ (ol : List Oper) (l : List SOper), cOpers P n ops ol = some l → (∀ o ∈ l, o.dst ≠ some t) → ∀ {g : Gh} {ac : Ac} {a : Act} {w : World}, RelA D n g ac a w → ac.e t = .ptr 0 t 0 → a.eval (.tmp t) = c0 → EPostP D n g ac.S.length w Q t c0 (evOps cl l ac) → wpList P ops Q ol a w
  | [], l, hc, hd, g, ac, a, w, hr, he, h0, hp => by
    simp only [cOpers, Option.some.injEq] at hc
    subst hc
    exact hp a w g hr (Tr.refl g w) rfl
  | o :: ol, l, hc, hd, g, ac, a, w, hr, he, h0, hp => by
    simp only [cOpers] at hc
    split at hc
    · rename_i so sl ho hl
      obtain rfl := Option.some.inj hc
      have hs := stp_ok hcl ho (kd := true) hr (fun h => by cases h)
      obtain ⟨_, hdo, hdn, _⟩ := cOper_inv ho
      have hdt : so.dst ≠ some t := hd so (List.mem_cons_self ..)
      refine wpList_step fun K hK => ?_
      simp only [evOps] at hp
      cases hst : stp cl true so ac with
      | ok ac' =>
        have hk : ac'.e t = .ptr 0 t 0 := keeps_stp hdt he ac' hst
        rw [hst] at hs hp
        have := hs K Q (fun c w' g' hstep => hK _ _ (evOps_pan hcl ol sl hl (fun o h => hd o (List.mem_cons_of_mem _ h)) (hstep.relA hr hdn) hk ((eval_put_ne (by rw [← hdo]; exact hdt)).trans h0) (by rw [hstep.len]; exact hp.from hstep.tr)))
        unfold doOp at this
        exact this
      | pan v S =>
        rw [hst] at hs hp
        have hv : VR g (.ptr 0 t 0) c0 := by
          have := hr.rel.env t
          rw [he, h0] at this
          exact this
        have := hs K Q (fun c w' g' h1 h2 hx h3 h4 => hp a w' g' c h1 h2 (hv.mono hx) h3 h4 hr.defers hr.size h0)
        unfold doOp at this
        exact this
      | bad => rw [hst] at hp; exact hp.elim
    · cases hc
/-- Codes one behind the other. -/
def codes : List (Code × SC) → Code → Code
  | [], R => R
  | p :: l, R => p.1.seq (codes l R)
def seqs : List (Code × SC) → SC
  | [] => .skip
  | p :: l => .seq p.2 (seqs l)
theorem EPost.out {n l : Nat} {Q : Exit → Act → World → Prop} {T : Act → World → Prop} {r : EO} (hn : ∀ ac', r ≠ .nor ac') (h : EPost D n g l w (Exit.then T Q) r) : EPost D n g l w Q r := by
  cases r with
  | nor ac => exact absurd rfl (hn ac)
  | ext id ac => exact h
  | ret ac => exact h
  | pan v S => exact h
  | bad => exact h
theorem pre_ok {cl : Oracle} (hcl : OracleOk P cl) (hm : P.follows .mixedOrders = true) {n : Nat} {R : Code} {Q : Exit → Act → World → Prop} (N : Nat) : ∀ (l : List (Code × SC)), (∀ p ∈ l, cCode P n p.1 = some p.2) → ∀ {g : Gh} {ac : Ac} {a : Act} {w : World}, RelA D n g ac a w → EPost D n g ac.S.length w (Exit.then (R.wp P Q) Q) (evC cl N (seqs l) ac) → (codes l R).wp P Q a w
  | [], _, g, ac, a, w, hr, hp => by
    simp only [seqs, evC] at hp
    exact hp a w g hr (Tr.refl g w) rfl
  | p :: l, hl, g, ac, a, w, hr, hp => by
    simp only [seqs, evC] at hp
    refine wp_seq (evC_ok hcl hm p.1 p.2 (hl p (List.mem_cons_self ..)) N hr (EPost.behind (fun e => by rw [e] at hp; exact hp) (fun hn => ?_) fun ac' he a' w' g' h1 h2 h3 => ?_))
    · cases he : evC cl N p.2 ac with
      | nor ac' => exact absurd he (hn ac')
      | ext id ac' => rw [he] at hp; exact hp
      | ret ac' => rw [he] at hp; exact hp
      | pan v S => rw [he] at hp; exact hp
      | bad => rw [he] at hp; exact hp
    · rw [he] at hp
      exact pre_ok hcl hm N l (fun q hq => hl q (List.mem_cons_of_mem _ hq)) h1 (by rw [h3]; exact hp.from h2)
/-- The parts of a function that recovers. -/
structure RecParts (P : Program) (f fk : Nat) (fn : Func) (r : RecF) (l : List (Code × SC)) (i4 i5 : Nat) (o1 o2 : Oper) (ops : Array Oper) (cz : Code) (ty : Nat) : Prop where
  func : P.funcs[f]? = some fn
  name : fn.name ≠ "runtime.NumGoroutine"
  body : fn.body = some (codes l ((Code.region i4 #[o1, o2] false).seq ((Code.region i5 ops false).seq cz)))
  mk_ : o1.op = .makeFunc (.func fk) #[] #[.tmp r.t0]
  mkd : o1.dst = some r.d
  mkg : o1.guard = none
  df : ∃ ts, o2.op = .defer ⟨.value (.tmp r.d), #[], ts⟩
  dfd : o2.dst = none
  dfg : o2.guard = none
  pre : r.pre = seqs l
  cpre : ∀ p ∈ l, cCode P fn.ntmps p.1 = some p.2
  cops : cOpers P fn.ntmps ops ops.toList = some r.ops
  cpost : cCode P fn.ntmps cz = some r.post
  cres : cRes P fn.ntmps fn.results.toList = some r.res
  nargs : r.nargs ≤ fn.ntmps
  dn : r.d < fn.ntmps
  tn : r.d ≠ r.t0
  dst : ∀ o ∈ r.ops, o.dst ≠ some r.t0
  kty : ∃ k, kOf P ty = some k ∧ k.getD 1 = 1
  enter : ∀ (v : Value) (w : World), (callFunc fk #[v]).run P w = .ok (.enter fk #[v]) w
  idle : ∀ (v : Value) (w : World), CallsD P fk #[v] .returning w fun e u' w' => (∃ v, e = .returned v) ∧ u' = .returning ∧ w' = w
  takes : ∀ (v : Value) (k : IntKind) (m : Int) (w w' : World), (Instr.storeAt ty v (.int k m)).run P w = .ok () w' →
    CallsD P fk #[v] (.panicking [{ v := .iface r.T (.int k m), recovered := false }]) w fun e u' w'' => (∃ v, e = .returned v) ∧ u' = .panicking [{ v := .iface r.T (.int k m), recovered := true }] ∧ w'' = w'
theorem int_inv {k : IntKind} {m : Int} {c : Value} (h : VR g (.int k m) c) : c = .int k m := by
  cases h with
  | data _ _ h => cases h; rfl
theorem iface_int {t : Nat} {k : IntKind} {m : Int} {c : Value} (h : VR g (.iface t (.int k m)) c) : c = .iface t (.int k m) := by
  cases h with
  | data _ _ h => cases h with | iface _ _ _ h => cases h; rfl
  | iface _ _ c h => rw [int_inv h]
theorem enter_rel {n : Nat} {args : List PV} {cs : Array Value} (hw : WR g S w) (ha : ArgsR g args cs) (hsz : cs.size ≤ n) : RelA [] n g.push (ac0 args S) { tmps := cs ++ Array.replicate (n - cs.size) undef, defers := [] } w := by
  refine ⟨⟨push_wr hw, fun t => ?_⟩, by simp; omega, rfl, Nat.succ_pos _⟩
  show VR g.push (argE (args.map PV.up) t) ((cs ++ Array.replicate (n - cs.size) undef).getD t undef)
  unfold argE
  rw [List.getElem?_map, Array.getD_eq_getD_getElem?]
  cases hat : args[t]? with
  | some v =>
    have hlt := (List.getElem?_eq_some_iff.1 hat).1
    rw [Array.getElem?_append_left (by rw [← ha.1]; exact hlt)]
    simp only [Option.map_some, Option.getD_some]
    rw [← Array.getD_eq_getD_getElem?]
    exact (ha.2 t v hat).up (Gh.pop_push g)
  | none =>
    have hge := List.getElem?_eq_none_iff.1 hat
    rw [Array.getElem?_append_right (by rw [← ha.1]; exact hge)]
    simp only [Option.map_none, Option.getD_none]
    rw [Array.getElem?_replicate]
    split <;> exact .undef
section
variable {f fk : Nat} {fn : Func} {r : RecF} {l : List (Code × SC)} {i4 i5 : Nat} {o1 o2 : Oper} {ops : Array Oper} {cz : Code} {ty : Nat}
theorem RecParts.inv (R : RecParts P f fk fn r l i4 i5 o1 o2 ops cz ty) (v : Value) (w : World) : (invoke (.fn (.func fk) #[v]) #[]).run P w = .ok (.enter fk #[v]) w := by
  have := R.enter v w
  simpa [invoke] using this
/-- Behind the region that may panic. -/
theorem RecParts.behind (R : RecParts P f fk fn r l i4 i5 o1 o2 ops cz ty) {cl : Oracle} (hcl : OracleOk P cl) (hm : P.follows .mixedOrders = true) (N : Nat) {gi : Gh} {ac : Ac} {a : Act} {w' : World} {v : Value} (hr : RelA [{ target := .fn (.func fk) #[v], args := #[] }] fn.ntmps gi ac a w') (ht : Tr g.push w gi w') (hl : ac.S.length = S.length + 1) (hb : recC r.res (evC cl N r.post ac) ≠ .bad) :
    cz.wp P (bodyPostD P fn (CallPost g S w (recC r.res (evC cl N r.post ac)))) a w' := by
  have fin : ∀ ac6 a6 w6 g6, RelA [{ target := .fn (.func fk) #[v], args := #[] }] fn.ntmps g6 ac6 a6 w6 → Tr gi w' g6 w6 → ac6.S.length = ac.S.length → retOf r.res ac6 ≠ .bad → Leaves P fn a6.tmps (CallPost g S w (retOf r.res ac6)) a6.defers .returning w6 := by
    intro ac6 a6 w6 g6 k1 k2 k3 hb6
    obtain ⟨u, q1, q2⟩ := retOf_ok R.cres k1 (ht.trans k2) (k3.trans hl) hb6
    rw [k1.defers]
    refine leaves_cons (f := fk) (args := #[v]) (by simp) (R.inv v w6) ((R.idle v w6).mono ?_)
    rintro e u' w'' ⟨⟨v', rfl⟩, rfl, rfl⟩
    exact ⟨u, q1, q2⟩
  refine evC_ok hcl hm cz r.post R.cpost N hr ?_
  cases he : evC cl N r.post ac with
  | nor ac6 => rw [he] at hb; exact fun a6 w6 g6 k1 k2 k3 => fin ac6 a6 w6 g6 k1 k2 k3 hb
  | ret ac6 => rw [he] at hb; exact fun a6 w6 g6 k1 k2 k3 => fin ac6 a6 w6 g6 k1 k2 k3 hb
  | ext i ac => rw [he] at hb; exact absurd rfl hb
  | pan v S => rw [he] at hb; exact absurd rfl hb
  | bad => rw [he] at hb; exact absurd rfl hb
theorem rec_ok (R : RecParts P f fk fn r l i4 i5 o1 o2 ops cz ty) : RecOk P f r := by
  intro cl N hcl hm args S hla hb g w cs hw ha
  left
  refine ⟨by unfold callFunc; simp [R.func, R.name, R.body], calls_of_wp_defers R.func R.body ?_⟩
  have hsz : cs.size ≤ fn.ntmps := by rw [← ha.1, hla]; exact R.nargs
  rw [R.pre] at hb ⊢
  refine pre_ok hcl hm N l R.cpre (enter_rel hw ha hsz) ?_
  cases he : evC cl N (seqs l) (ac0 args S) with
  | bad => rw [he] at hb; exact absurd rfl hb
  | pan v S => rw [he] at hb; exact absurd rfl hb
  | ext i ac => rw [he] at hb; exact absurd rfl hb
  | ret ac =>
    rw [he] at hb
    intro a' w' g' h1 h2 h3
    obtain ⟨v, q1, q2⟩ := retOf_ok R.cres h1 h2 h3 hb
    show Leaves P fn a'.tmps _ a'.defers .returning w'
    rw [h1.defers]
    exact ⟨v, q1, q2⟩
  | nor ac =>
    rw [he] at hb
    intro a' w' g' h1 h2 h3
    obtain ⟨ts, hdf⟩ := R.df
    refine wp_seq (wp_region_list ?_)
    refine wpList_step fun K hK => ?_
    rw [if_pos (by simp [Region.wanted, R.mkg])]
    have e1 : (execOp a'.eval o1).run P w' = .ok (.value (.func (.func fk) #[] #[a'.eval (.tmp r.t0)])) w' := by
      unfold execOp
      rw [R.mk_]
      simp [Instr.makeFunc]
    unfold Oper.wp
    rw [e1]
    refine hK _ _ (wpList_step fun K hK => ?_)
    rw [if_pos (by simp [Region.wanted, R.dfg])]
    have hd4 : (a'.put o1.dst (.func (.func fk) #[] #[a'.eval (.tmp r.t0)])).eval (.tmp r.d) = .func (.func fk) #[] #[a'.eval (.tmp r.t0)] := by
      rw [R.mkd]
      exact eval_put_same (by rw [h1.size]; exact R.dn)
    have e2 : (execOp (a'.put o1.dst (.func (.func fk) #[] #[a'.eval (.tmp r.t0)])).eval o2).run P w' = .ok (.defer { target := .fn (.func fk) #[a'.eval (.tmp r.t0)], args := #[] }) w' := by
      unfold execOp
      rw [hdf]
      simp [resolve, hd4, Deferred.ofValue]
    unfold Oper.wp
    rw [e2]
    refine hK _ _ ?_
    rw [R.mkd, R.dfd]
    have hr5 : RelA [{ target := .fn (.func fk) #[a'.eval (.tmp r.t0)], args := #[] }] fn.ntmps g' (ac.put (some r.d) .junk) (({ a'.put (some r.d) (.func (.func fk) #[] #[a'.eval (.tmp r.t0)]) with defers := { target := .fn (.func fk) #[a'.eval (.tmp r.t0)], args := #[] } :: (a'.put (some r.d) (.func (.func fk) #[] #[a'.eval (.tmp r.t0)])).defers } : Act).put none undef) w' := by
      refine ⟨⟨h1.rel.wr, fun t => ?_⟩, ?_, ?_, h1.ne⟩
      · show VR g' ((ac.put (some r.d) .junk).e t) ((a'.put (some r.d) (.func (.func fk) #[] #[a'.eval (.tmp r.t0)])).eval (.tmp t))
        by_cases e : t = r.d
        · subst e
          simp only [Ac.put, upd, if_true]
          exact .junk _
        · rw [eval_put_ne (fun h => e (Option.some.inj h).symm)]
          simp only [Ac.put, upd, if_neg e]
          exact h1.rel.env t
      · show (a'.put (some r.d) (.func (.func fk) #[] #[a'.eval (.tmp r.t0)])).tmps.size = _
        rw [Act.put_size]
        exact h1.size
      · show _ :: (a'.put (some r.d) (.func (.func fk) #[] #[a'.eval (.tmp r.t0)])).defers = _
        rw [Act.put_defers_, h1.defers]
    have hl5 : (ac.put (some r.d) .junk).S.length = S.length + 1 := h3
    have hev : (({ a'.put (some r.d) (.func (.func fk) #[] #[a'.eval (.tmp r.t0)]) with defers := { target := .fn (.func fk) #[a'.eval (.tmp r.t0)], args := #[] } :: (a'.put (some r.d) (.func (.func fk) #[] #[a'.eval (.tmp r.t0)])).defers } : Act).put none undef).eval (.tmp r.t0) = a'.eval (.tmp r.t0) := by
      show (a'.put (some r.d) (.func (.func fk) #[] #[a'.eval (.tmp r.t0)])).eval (.tmp r.t0) = _
      exact eval_put_ne (fun h => R.tn (Option.some.inj h))
    refine wp_seq (wp_region_list ?_)
    by_cases h0 : ac.e r.t0 = .ptr 0 r.t0 0
    · refine evOps_pan hcl ops.toList r.ops R.cops R.dst hr5 (by
        have : r.t0 ≠ r.d := fun e => R.tn e.symm
        simp only [Ac.put, upd, if_neg this]
        exact h0) hev ?_
      simp only [recB] at hb ⊢
      cases ho : evOps cl r.ops (ac.put (some r.d) .junk) with
      | bad => rw [ho] at hb; exact absurd rfl hb
      | ext i ac => rw [ho] at hb; exact absurd rfl hb
      | ret ac => rw [ho] at hb; exact absurd rfl hb
      | nor ac5 =>
        rw [ho] at hb
        exact fun a5 w5 g5 k1 k2 k3 => R.behind hcl hm N k1 (h2.trans k2) (k3.trans hl5) hb
      | pan v S5 =>
        rw [ho] at hb
        intro a6 w6 g6 c k1 k2 k3 k4 k5 k6 k7 k8
        show Leaves P fn a6.tmps (CallPost g S w (recV r (ac.e r.t0 = .ptr 0 r.t0 0) v S5)) a6.defers (.panicking [{ v := c, recovered := false }]) w6
        have hb' : recV r (ac.e r.t0 = .ptr 0 r.t0 0) v S5 ≠ .bad := hb
        unfold recV at hb' ⊢
        split at hb'
        · rename_i t k m
          by_cases ht : ac.e r.t0 = .ptr 0 r.t0 0 ∧ t = r.T
          · rw [if_pos ht] at hb' ⊢
            obtain ⟨_, rfl⟩ := ht
            cases hst : storeP S5 1 (.ptr 0 r.t0 0) (.int k m) with
            | none => rw [hst] at hb'; exact absurd rfl hb'
            | some S7 =>
              rw [hst] at hb'
              dsimp only at hb' ⊢
              obtain ⟨kk, hk1, hk2⟩ := R.kty
              obtain ⟨w7, g7, hrun, w7r, x7, t7, l7⟩ := store_ok k1 hk1 k3 (VR.data _ _ (FR.int k m)) (by rw [hk2]; exact hst)
              rw [iface_int k2, k6]
              refine leaves_cons (f := fk) (args := #[a'.eval (.tmp r.t0)]) (by simp) (R.inv _ w6) ((R.takes _ k m w6 w7 hrun).mono ?_)
              rintro e u' w'' ⟨⟨v', rfl⟩, rfl, rfl⟩
              have hrel : RelA a6.defers fn.ntmps g7 ⟨upd (fun _ => .junk) r.t0 (.ptr 0 r.t0 0), S7⟩ a6 w'' := by
                refine ⟨⟨w7r, fun t => ?_⟩, k7, rfl, by show 0 < S7.length; omega⟩
                by_cases e : t = r.t0
                · have h7 : VR g7 (.ptr 0 r.t0 0) (a6.eval (.tmp r.t0)) := by rw [k8]; exact k3.mono x7
                  simp only [upd, e, if_true]
                  exact h7
                · simp only [upd, if_neg e]
                  exact .junk _
              obtain ⟨u, q1, q2⟩ := retOf_ok (S := S) R.cres hrel (h2.trans (k4.trans t7)) (by show S7.length = _; omega) hb'
              exact ⟨u, q1, q2⟩
          · rw [if_neg ht] at hb'; exact absurd rfl hb'
        · exact absurd rfl hb'
    · refine evOps_ok hcl ops.toList r.ops R.cops hr5 ?_
      simp only [recB] at hb ⊢
      cases ho : evOps cl r.ops (ac.put (some r.d) .junk) with
      | bad => rw [ho] at hb; exact absurd rfl hb
      | ext i ac => rw [ho] at hb; exact absurd rfl hb
      | ret ac => rw [ho] at hb; exact absurd rfl hb
      | nor ac5 =>
        rw [ho] at hb
        exact fun a5 w5 g5 k1 k2 k3 => R.behind hcl hm N k1 (h2.trans k2) (k3.trans hl5) hb
      | pan v S5 =>
        rw [ho] at hb
        have hb' : recV r (ac.e r.t0 = .ptr 0 r.t0 0) v S5 ≠ .bad := hb
        unfold recV at hb'
        split at hb'
        · rw [if_neg (fun h => h0 h.1)] at hb'; exact absurd rfl hb'
        · exact absurd rfl hb'
end
end
end Go.Proofs.YtfbcnpbhhooapaaGreatDoor.M

/- Values as data, and what is reckoned of them: no program in sight. -/
namespace Go.Proofs.YtfbcnpbhhooapaaGreatDoor.M
set_option linter.unusedSimpArgs false
set_option linter.unusedVariables false
open Go Classical
/-- A value of package api. -/
inductive V where
  | mk (k n : Int) (s : List UInt8) (l : List V)
def V.k : V → Int | .mk k _ _ _ => k
def V.n : V → Int | .mk _ n _ _ => n
def V.s : V → List UInt8 | .mk _ _ s _ => s
def V.l : V → List V | .mk _ _ _ l => l
mutual
def enc : V → List PV
  | .mk k n s l => [.int .i64 k, .int .i64 n, .str s, .list 4 (encL l) false]
def encL : List V → List (List PV)
  | [] => []
  | v :: vs => enc v :: encL vs
end
mutual
def deep : V → Nat
  | .mk k _ _ l => if k = 4 then 1 + deepL l else 0
def deepL : List V → Nat
  | [] => 0
  | v :: vs => max (deep v) (deepL vs)
end
theorem encL_length : ∀ vs : List V, (encL vs).length = vs.length
  | [] => by simp [encL]
  | v :: vs => by simp [encL, encL_length vs]
theorem encL_get : ∀ (vs : List V) (i : Nat), (encL vs)[i]? = (vs[i]?).map enc
  | [], i => by simp [encL]
  | v :: vs, 0 => by simp [encL]
  | v :: vs, i + 1 => by simp [encL, encL_get vs i]
theorem enc_eq (v : V) : enc v = [.int .i64 v.k, .int .i64 v.n, .str v.s, .list 4 (encL v.l) false] := by cases v; simp [enc, V.k, V.n, V.s, V.l]
end Go.Proofs.YtfbcnpbhhooapaaGreatDoor.M

/- Words for the trees that lift.py prints: data and their cells. -/
namespace Go.Proofs.YtfbcnpbhhooapaaGreatDoor.M
set_option linter.unusedSimpArgs false
set_option linter.unusedVariables false
open Go Classical
/-- It fits 64 bits. -/
def I64 (x : Int) : Prop := -9223372036854775808 ≤ x ∧ x ≤ 9223372036854775807
theorem I64.wrap {x : Int} (h : I64 x) : IntKind.i64.wrap x = x := wrap_i64 h.1 h.2
/-- It fits 8 bits. -/
def U8 (x : Int) : Prop := 0 ≤ x ∧ x ≤ 255
theorem U8.wrap {x : Int} (h : U8 x) : IntKind.u8.wrap x = x := by
  obtain ⟨h1, h2⟩ := h
  simp only [IntKind.wrap, IntKind.min, IntKind.max, IntKind.signed, IntKind.bits]
  simp
  omega
def U64 (x : Int) : Prop := 0 ≤ x ∧ x ≤ 18446744073709551615
theorem U64.wrap {x : Int} (h : U64 x) : IntKind.u64.wrap x = x := by
  obtain ⟨h1, h2⟩ := h
  simp only [IntKind.wrap, IntKind.min, IntKind.max, IntKind.signed, IntKind.bits]
  simp
  omega
def eI (x : Int) : List PV := [.int .i64 x]
def eK (k : IntKind) (x : Int) : List PV := [.int k x]
def eB (x : UInt8) : List PV := [.int .u8 (x.toNat : Nat)]
def eS (x : List UInt8) : List PV := [.str x]
def eO (x : Bool) : List PV := [.bool x]
def eF (x : Nat) : List PV := [.func x []]
def eLB (x : List UInt8) : List PV := [.list 1 (x.map eB) false]
def eLS (x : List (List UInt8)) : List PV := [.list 1 (x.map eS) false]
theorem encL_map : ∀ xs : List V, encL xs = xs.map enc
  | [] => by simp [encL]
  | x :: xs => by simp [encL, encL_map xs]
theorem encL_nil : encL [] = [] := by simp [encL]
theorem encL_cons (x : V) (xs : List V) : encL (x :: xs) = enc x :: encL xs := by simp [encL]
theorem encL_app (xs ys : List V) : encL (xs ++ ys) = encL xs ++ encL ys := by simp [encL_map]
theorem encL_drop (xs : List V) (n : Nat) : (encL xs).drop n = encL (xs.drop n) := by simp [encL_map]
theorem encL_take (xs : List V) (n : Nat) : (encL xs).take n = encL (xs.take n) := by simp [encL_map]
theorem map_drop' {α β : Type} (f : α → β) (xs : List α) (n : Nat) : (xs.map f).drop n = (xs.drop n).map f := by simp
theorem map_take' {α β : Type} (f : α → β) (xs : List α) (n : Nat) : (xs.map f).take n = (xs.take n).map f := by simp
theorem take_len {α : Type} (xs : List α) : xs.take xs.length = xs := List.take_length
theorem take_app {α : Type} (xs ys : List α) (n : Nat) : (xs ++ ys).take (xs.length + n) = xs ++ ys.take n := by rw [List.take_append, List.take_of_length_le (by omega)]; congr 2; omega
theorem take_encL_app (xs : List V) (ys : List (List PV)) (n : Nat) : (encL xs ++ ys).take (xs.length + n) = encL xs ++ ys.take n := by
  have := take_app (encL xs) ys n
  rwa [encL_length] at this
theorem take_map_app {α : Type} (f : α → List PV) (xs : List α) (ys : List (List PV)) (n : Nat) : (xs.map f ++ ys).take (xs.length + n) = xs.map f ++ ys.take n := by
  have := take_app (xs.map f) ys n
  rwa [List.length_map] at this
theorem bytesOf_eB : ∀ xs : List UInt8, bytesOf (xs.map eB) = some xs
  | [] => rfl
  | x :: xs => by
    have h : UInt8.ofNat ((x.toNat : Nat) : Int).toNat = x := by simp
    simp only [List.map_cons, eB, bytesOf, bytesOf_eB xs, Option.map_some, h]
theorem bytes_eB (s : List UInt8) : (s.map fun b => ([PV.int .u8 b.toNat] : List PV)) = s.map eB := rfl
theorem cnd_and {SP : Prg} {a b : SC} {ac : Ac} {p q : Bool} : cnd SP (.bool (p && q)) a b ac = if p = true ∧ q = true then E SP a ac else E SP b ac := by cases p <;> cases q <;> rfl
noncomputable def stO (ac : Ac) (r : Option Sto) : OO :=
  match r with
  | some S => .ok ⟨ac.e, S⟩
  | none => .bad
theorem stO_some (ac : Ac) (S : Sto) : stO ac (some S) = .ok ⟨ac.e, S⟩ := rfl
theorem ex_store {cl : Oracle} {kd : Bool} {k : Nat} {x v : X} {ac : Ac} : ex cl kd none (.store k x v) ac = stO ac (storeP ac.S k (ac.ev x) (ac.ev v)) := by
  unfold stO
  cases h : storeP ac.S k (ac.ev x) (ac.ev v) <;> simp only [ex, h]
end Go.Proofs.YtfbcnpbhhooapaaGreatDoor.M

/- Words for pointers: boxes of frames further out; library functions over a function. -/
namespace Go.Proofs.YtfbcnpbhhooapaaGreatDoor.M
set_option linter.unusedSimpArgs false
set_option linter.unusedVariables false
open Go Classical
/-- What comes back: a result, or a panic. -/
def po (T : Nat) (o : Option Int) (r : Ret) (S : Sto) : CO := match o with | none => .ok r S | some e => .pan (.iface T (.int .i64 e)) S
theorem po_none (T : Nat) (r : Ret) (S : Sto) : po T none r S = .ok r S := rfl
theorem po_some (T : Nat) (e : Int) (r : Ret) (S : Sto) : po T (some e) r S = .pan (.iface T (.int .i64 e)) S := rfl
theorem take_some {o : Option (List PV)} {k : Nat} {l : List PV} (h : o.map (List.take k) = some l) : ∃ r, o = some (l ++ r) := by
  cases o with
  | none => cases h
  | some c => simp only [Option.map_some, Option.some.injEq] at h; exact ⟨c.drop k, by rw [← h, List.take_append_drop]⟩
theorem o_getBox_lt : ∀ {S : Sto} {n t : Nat} {c : List PV}, getBox S n t = some c → n < S.length
  | [], _, _, _, h => by simp [getBox] at h
  | _ :: _, 0, _, _, _ => by simp
  | _ :: S, n + 1, t, c, h => by have := o_getBox_lt (S := S) (n := n) (t := t) (c := c) h; simp; omega
theorem o_length_setBox : ∀ (S : Sto) (n t : Nat) (c : List PV), (setBox S n t c).length = S.length
  | [], _, _, _ => rfl
  | _ :: _, 0, _, _ => rfl
  | _ :: S, n + 1, t, c => by simp [setBox, o_length_setBox S n t c]
theorem o_length_setArr : ∀ (S : Sto) (n : Nat) (k : AK) (A : Arr), (setArr S n k A).length = S.length
  | [], _, _, _ => rfl
  | _ :: _, 0, _, _ => rfl
  | _ :: S, n + 1, t, c => by simp [setArr, o_length_setArr S n t c]
theorem o_getBox_setBox : ∀ {S : Sto} {n : Nat} (t : Nat) (c : List PV), n < S.length → getBox (setBox S n t c) n t = some c
  | [], _, _, _, h => by simp at h
  | _ :: _, 0, _, _, _ => by simp [setBox, getBox, upd]
  | _ :: S, n + 1, t, c, h => by simp only [setBox, getBox]; exact o_getBox_setBox t c (by simpa using h)
theorem o_getArr_setArr : ∀ {S : Sto} {n : Nat} (k : AK) (A : Arr), n < S.length → getArr (setArr S n k A) n k = some A
  | [], _, _, _, h => by simp at h
  | _ :: _, 0, _, _, _ => by simp [setArr, getArr, updK]
  | _ :: S, n + 1, t, c, h => by simp only [setArr, getArr]; exact o_getArr_setArr t c (by simpa using h)
theorem o_getBox_setArr : ∀ (S : Sto) (m : Nat) (k : AK) (A : Arr) (n t : Nat), getBox (setArr S m k A) n t = getBox S n t
  | [], _, _, _, _, _ => rfl
  | _ :: _, 0, _, _, 0, _ => rfl
  | _ :: _, 0, _, _, _ + 1, _ => rfl
  | _ :: _, _ + 1, _, _, 0, _ => rfl
  | _ :: S, m + 1, k, A, n + 1, t => by simp only [setArr, getBox]; exact o_getBox_setArr S m k A n t
theorem o_getArr_setBox : ∀ (S : Sto) (m t : Nat) (c : List PV) (n : Nat) (k : AK), getArr (setBox S m t c) n k = getArr S n k
  | [], _, _, _, _, _ => rfl
  | _ :: _, 0, _, _, 0, _ => rfl
  | _ :: _, 0, _, _, _ + 1, _ => rfl
  | _ :: _, _ + 1, _, _, 0, _ => rfl
  | _ :: S, m + 1, k, A, n + 1, t => by simp only [setBox, getArr]; exact o_getArr_setBox S m k A n t
theorem o_upd_upd {α : Type} (f : Nat → α) (i : Nat) (a b : α) : upd (upd f i a) i b = upd f i b := by
  funext j; simp only [upd]; split <;> rfl
theorem o_updK_updK {α : Type} (f : AK → α) (i : AK) (a b : α) : updK (updK f i a) i b = updK f i b := by
  funext j; simp only [updK]; split <;> rfl
theorem o_setBox_setBox : ∀ (S : Sto) (n t : Nat) (a b : List PV), setBox (setBox S n t a) n t b = setBox S n t b
  | [], _, _, _, _ => rfl
  | _ :: _, 0, _, _, _ => by simp [setBox, o_upd_upd]
  | _ :: S, n + 1, t, a, b => by simp only [setBox, o_setBox_setBox S n t a b]
theorem o_setArr_setArr : ∀ (S : Sto) (n : Nat) (k : AK) (a b : Arr), setArr (setArr S n k a) n k b = setArr S n k b
  | [], _, _, _, _ => rfl
  | _ :: _, 0, _, _, _ => by simp [setArr, o_updK_updK]
  | _ :: S, n + 1, t, a, b => by simp only [setArr, o_setArr_setArr S n t a b]
theorem o_setBox_setArr : ∀ (S : Sto) (m : Nat) (k : AK) (A : Arr) (n t : Nat) (c : List PV), setBox (setArr S m k A) n t c = setArr (setBox S n t c) m k A
  | [], _, _, _, _, _, _ => rfl
  | _ :: _, 0, _, _, 0, _, _ => rfl
  | _ :: _, 0, _, _, _ + 1, _, _ => rfl
  | _ :: _, _ + 1, _, _, 0, _, _ => rfl
  | _ :: S, m + 1, k, A, n + 1, t, c => by simp only [setArr, setBox, o_setBox_setArr S m k A n t c]
theorem o_setBox_same : ∀ {S : Sto} {n t : Nat} {c : List PV}, getBox S n t = some c → setBox S n t c = S
  | [], _, _, _, h => rfl
  | f :: _, 0, t, c, h => by
    simp only [getBox] at h
    have : upd f.box t (some c) = f.box := by funext j; simp only [upd]; split <;> simp_all
    simp [setBox, this]
  | _ :: S, n + 1, t, c, h => by simp only [setBox]; rw [o_setBox_same (S := S) (n := n) h]
theorem o_setArr_same : ∀ {S : Sto} {n : Nat} {k : AK} {A : Arr}, getArr S n k = some A → setArr S n k A = S
  | [], _, _, _, h => rfl
  | f :: _, 0, t, c, h => by
    simp only [getArr] at h
    have : updK f.arr t (some c) = f.arr := by funext j; simp only [updK]; split <;> simp_all
    simp [setArr, this]
  | _ :: S, n + 1, t, c, h => by simp only [setArr]; rw [o_setArr_same (S := S) (n := n) h]
theorem o_getBox_ne : ∀ (S : Sto) (n t : Nat) (c : List PV) (m u : Nat), n ≠ m → getBox (setBox S n t c) m u = getBox S m u
  | [], _, _, _, _, _, _ => rfl
  | _ :: _, 0, _, _, 0, _, h => absurd rfl h
  | _ :: _, 0, _, _, _ + 1, _, _ => rfl
  | _ :: _, _ + 1, _, _, 0, _, _ => rfl
  | _ :: S, n + 1, t, c, m + 1, u, h => by simp only [setBox, getBox]; exact o_getBox_ne S n t c m u (fun e => h (by rw [e]))
theorem o_getArr_ne : ∀ (S : Sto) (n : Nat) (k : AK) (c : Arr) (m : Nat) (u : AK), n ≠ m → getArr (setArr S n k c) m u = getArr S m u
  | [], _, _, _, _, _, _ => rfl
  | _ :: _, 0, _, _, 0, _, h => absurd rfl h
  | _ :: _, 0, _, _, _ + 1, _, _ => rfl
  | _ :: _, _ + 1, _, _, 0, _, _ => rfl
  | _ :: S, n + 1, t, c, m + 1, u, h => by simp only [setArr, getArr]; exact o_getArr_ne S n t c m u (fun e => h (by rw [e]))
theorem o_setBox_comm : ∀ (S : Sto) (n t : Nat) (c : List PV) (m u : Nat) (d : List PV), n ≠ m → setBox (setBox S m u d) n t c = setBox (setBox S n t c) m u d
  | [], _, _, _, _, _, _, _ => rfl
  | _ :: _, 0, _, _, 0, _, _, h => absurd rfl h
  | _ :: _, 0, _, _, _ + 1, _, _, _ => rfl
  | _ :: _, _ + 1, _, _, 0, _, _, _ => rfl
  | _ :: S, n + 1, t, c, m + 1, u, d, h => by simp only [setBox]; rw [o_setBox_comm S n t c m u d (fun e => h (by rw [e]))]
theorem o_setArr_comm : ∀ (S : Sto) (n : Nat) (t : AK) (c : Arr) (m : Nat) (u : AK) (d : Arr), n ≠ m → setArr (setArr S m u d) n t c = setArr (setArr S n t c) m u d
  | [], _, _, _, _, _, _, _ => rfl
  | _ :: _, 0, _, _, 0, _, _, h => absurd rfl h
  | _ :: _, 0, _, _, _ + 1, _, _, _ => rfl
  | _ :: _, _ + 1, _, _, 0, _, _, _ => rfl
  | _ :: S, n + 1, t, c, m + 1, u, d, h => by simp only [setArr]; rw [o_setArr_comm S n t c m u d (fun e => h (by rw [e]))]
/-- Boxes of two frames. -/
theorem two_ne {n m : Nat} (h : n ≠ m) : (∀ (S : Sto) (t : Nat) (c : List PV) (u : Nat), getBox (setBox S n t c) m u = getBox S m u) ∧ (∀ (S : Sto) (t : Nat) (c : List PV) (u : Nat), getBox (setBox S m t c) n u = getBox S n u) ∧
    (∀ (S : Sto) (t : AK) (c : Arr) (u : AK), getArr (setArr S n t c) m u = getArr S m u) ∧ (∀ (S : Sto) (t : AK) (c : Arr) (u : AK), getArr (setArr S m t c) n u = getArr S n u) ∧
    (∀ (S : Sto) (t : Nat) (c : List PV) (u : Nat) (d : List PV), setBox (setBox S m u d) n t c = setBox (setBox S n t c) m u d) ∧ (∀ (S : Sto) (t : AK) (c : Arr) (u : AK) (d : Arr), setArr (setArr S m u d) n t c = setArr (setArr S n t c) m u d) :=
  ⟨fun S t c u => o_getBox_ne S n t c m u h, fun S t c u => o_getBox_ne S m t c n u (Ne.symm h), fun S t c u => o_getArr_ne S n t c m u h, fun S t c u => o_getArr_ne S m t c n u (Ne.symm h), fun S t c u d => o_setBox_comm S n t c m u d h, fun S t c u d => o_setArr_comm S n t c m u d h⟩
theorem o_upN_int : ∀ (n : Nat) (k : IntKind) (x : Int), PV.upN n (.int k x) = .int k x
  | 0, _, _ => rfl
  | n + 1, k, x => by simp [PV.upN, o_upN_int n k x, PV.up]
theorem o_upN_bool : ∀ (n : Nat) (x : Bool), PV.upN n (.bool x) = .bool x
  | 0, _ => rfl
  | n + 1, x => by simp [PV.upN, o_upN_bool n x, PV.up]
theorem o_upN_str : ∀ (n : Nat) (x : List UInt8), PV.upN n (.str x) = .str x
  | 0, _ => rfl
  | n + 1, x => by simp [PV.upN, o_upN_str n x, PV.up]
theorem o_upN_list : ∀ (n z : Nat) (x : List (List PV)) (f : Bool), PV.upN n (.list z x f) = .list z x f
  | 0, _, _, _ => rfl
  | n + 1, z, x, f => by simp [PV.upN, o_upN_list n z x f, PV.up]
theorem o_upN_sl : ∀ (n m : Nat) (a : AK) (o l v g : Nat) (f : Bool), PV.upN n (.sl m a o l v g f) = .sl (m + n) a o l v g f
  | 0, _, _, _, _, _, _, _ => rfl
  | n + 1, m, a, o, l, v, g, f => by simp [PV.upN, o_upN_sl n m a o l v g f, PV.up]; omega
theorem o_upL_map : ∀ (l : List PV), PV.upL l = l.map PV.up
  | [] => rfl
  | v :: l => by simp [PV.upL, o_upL_map l]
theorem o_upN_agg : ∀ (n : Nat) (l : List PV), PV.upN n (.agg l) = .agg (l.map (PV.upN n))
  | 0, l => by simp [PV.upN]
  | n + 1, l => by simp [PV.upN, o_upN_agg n l, PV.up, o_upL_map]
theorem o_dnN_int : ∀ (n : Nat) (k : IntKind) (x : Int), PV.dnN n (.int k x) = some (.int k x)
  | 0, _, _ => rfl
  | n + 1, k, x => by simp [PV.dnN, PV.dn, o_dnN_int n k x]
theorem o_dnN_bool : ∀ (n : Nat) (x : Bool), PV.dnN n (.bool x) = some (.bool x)
  | 0, _ => rfl
  | n + 1, x => by simp [PV.dnN, PV.dn, o_dnN_bool n x]
theorem o_dnN_str : ∀ (n : Nat) (x : List UInt8), PV.dnN n (.str x) = some (.str x)
  | 0, _ => rfl
  | n + 1, x => by simp [PV.dnN, PV.dn, o_dnN_str n x]
theorem o_upN_func : ∀ (n f : Nat), PV.upN n (.func f []) = .func f []
  | 0, _ => rfl
  | n + 1, f => by simp [PV.upN, o_upN_func n f, PV.up, PV.upL]
theorem app_lit {α : Type} (xs : List α) (a : α) (l : List α) (b : α) (m : List α) : (xs ++ (a :: l)) ++ (b :: m) = xs ++ (a :: (l ++ (b :: m))) := by simp
theorem succ_ne_zero' (n : Nat) : (n + 1 = 0) = False := by simp
mutual
theorem o_kill_up (d : Nat) : ∀ v : PV, v.up.kill d = v.up
  | .bool _ | .int _ _ | .str _ | .nils _ | .list _ _ _ | .rowp _ _ | .nili | .nile | .undef | .junk => by simp [PV.up, PV.kill]
  | .agg vs => by simp [PV.up, PV.kill, o_killL_up d vs]
  | .tup vs => by simp [PV.up, PV.kill, o_killL_up d vs]
  | .ptr n t o => by simp [PV.up, PV.kill]
  | .elem n a i o v g => by simp [PV.up, PV.kill]
  | .sl n a o l v g f => by simp [PV.up, PV.kill]
  | .func f caps => by simp [PV.up, PV.kill, o_killL_up d caps]
  | .iface t v => by simp [PV.up, PV.kill, o_kill_up d v]
theorem o_killL_up (d : Nat) : ∀ vs : List PV, PV.killL d (PV.upL vs) = PV.upL vs
  | [] => by simp [PV.upL, PV.killL]
  | v :: vs => by simp [PV.upL, PV.killL, o_kill_up d v, o_killL_up d vs]
end
/-- The first that is so; -1: none. -/
def findI {α : Type} (p : α → Bool) : Nat → List α → Int
  | _, [] => -1
  | i, x :: xs => if p x = true then (i : Int) else findI p (i + 1) xs
theorem findI_any {α : Type} (p : α → Bool) : ∀ (i : Nat) (xs : List α), (0 ≤ findI p i xs) ↔ xs.any p = true
  | i, [] => by simp [findI]
  | i, x :: xs => by
    have := findI_any p (i + 1) xs
    simp only [findI, List.any_cons]
    cases p x <;> simp [this]
theorem findI_dec {α : Type} (p : α → Bool) (xs : List α) : decide (0 ≤ findI p 0 xs) = xs.any p := by
  have := findI_any p 0 xs
  cases h : xs.any p <;> simp [h] at this ⊢ <;> omega
/-- A row, one behind it, and a row behind that: all of it. -/
theorem take_app3 {α β : Type} (f : α → β) (a c : List α) (x : β) : (a.map f ++ [x] ++ c.map f).take (a.length + 1 + c.length) = a.map f ++ [x] ++ c.map f := List.take_of_length_le (by simp; omega)
theorem set_get {α : Type} (l : List α) (i : Nat) (a : α) : (l.set i a)[i]? = (l[i]?).map fun _ => a := by
  rw [List.getElem?_set]
  by_cases h : i < l.length
  · simp [h]
  · simp [h]
theorem take_set {α β : Type} (f : α → β) (l : List α) (i : Nat) (x : β) : ((l.map f).set i x).take l.length = (l.map f).set i x := List.take_of_length_le (by simp)
end Go.Proofs.YtfbcnpbhhooapaaGreatDoor.M

/- All the laws by which the machine is reckoned, in one. -/
namespace Go.Proofs.YtfbcnpbhhooapaaGreatDoor.M
open Go Classical
set_option maxRecDepth 10000
theorem V_k (k n : Int) (s : List UInt8) (l : List V) : (V.mk k n s l).k = k := rfl
theorem V_n (k n : Int) (s : List UInt8) (l : List V) : (V.mk k n s l).n = n := rfl
theorem V_s (k n : Int) (s : List UInt8) (l : List V) : (V.mk k n s l).s = s := rfl
theorem V_l (k n : Int) (s : List UInt8) (l : List V) : (V.mk k n s l).l = l := rfl
theorem lw0 : type_of% (And.intro @List.map_cons.{0,0} <| And.intro @List.map_nil.{0,0} <| And.intro @PV.up.eq_1 <| And.intro @PV.up.eq_2 <| And.intro @PV.up.eq_3 <| And.intro @PV.up.eq_4 <| And.intro @PV.up.eq_5 <| And.intro @PV.up.eq_6 <| And.intro @PV.up.eq_7 <| And.intro @PV.up.eq_8 <| And.intro @PV.up.eq_9 <| And.intro @PV.up.eq_10 <| And.intro @PV.up.eq_11 <| And.intro @PV.up.eq_12 <| And.intro @PV.up.eq_13 <| And.intro @PV.up.eq_14 <| And.intro @PV.up.eq_15 <| And.intro @PV.up.eq_16 <| And.intro @PV.upL.eq_1 <| And.intro @PV.upL.eq_2 <| And.intro @E_seq <| And.intro @E_reg <| And.intro @E_block <| And.intro @E_cnd <| And.intro @E_skip <| And.intro @E_exit <| And.intro @E_ret <| And.intro @E_dreg <| And.intro @thC_nor <| And.intro @thC_ret <| And.intro @thC_ext <| And.intro @thC_pan <| And.intro @inBlk_ext <| And.intro @inBlk_nor <| And.intro @inBlk_ret <| And.intro @inBlk_pan <| And.intro @evOps_cons <| And.intro @evOps_nil <| And.intro @thOps_ok <| And.intro @thOps_pan <| And.intro @evD_cons <| And.intro @evD_nil <| And.intro @thD_tot <| And.intro @thD_same <| And.intro @List.tail_cons.{0} <| And.intro @stp_none <| And.intro @stp_some <| And.intro @gd_tt <| And.intro @gd_ff <| And.intro @gd_tf <| And.intro @gd_ft <| And.intro @gd_undef <| And.intro @gd_td <| And.intro @gd_fd <| And.intro @ex_v <| And.intro @vo_some <| And.intro @ex.eq_1 <| And.intro @ex.eq_2 <| And.intro @ex.eq_3 <| @ex.eq_4) := And.intro @List.map_cons.{0,0} <| And.intro @List.map_nil.{0,0} <| And.intro @PV.up.eq_1 <| And.intro @PV.up.eq_2 <| And.intro @PV.up.eq_3 <| And.intro @PV.up.eq_4 <| And.intro @PV.up.eq_5 <| And.intro @PV.up.eq_6 <| And.intro @PV.up.eq_7 <| And.intro @PV.up.eq_8 <| And.intro @PV.up.eq_9 <| And.intro @PV.up.eq_10 <| And.intro @PV.up.eq_11 <| And.intro @PV.up.eq_12 <| And.intro @PV.up.eq_13 <| And.intro @PV.up.eq_14 <| And.intro @PV.up.eq_15 <| And.intro @PV.up.eq_16 <| And.intro @PV.upL.eq_1 <| And.intro @PV.upL.eq_2 <| And.intro @E_seq <| And.intro @E_reg <| And.intro @E_block <| And.intro @E_cnd <| And.intro @E_skip <| And.intro @E_exit <| And.intro @E_ret <| And.intro @E_dreg <| And.intro @thC_nor <| And.intro @thC_ret <| And.intro @thC_ext <| And.intro @thC_pan <| And.intro @inBlk_ext <| And.intro @inBlk_nor <| And.intro @inBlk_ret <| And.intro @inBlk_pan <| And.intro @evOps_cons <| And.intro @evOps_nil <| And.intro @thOps_ok <| And.intro @thOps_pan <| And.intro @evD_cons <| And.intro @evD_nil <| And.intro @thD_tot <| And.intro @thD_same <| And.intro @List.tail_cons.{0} <| And.intro @stp_none <| And.intro @stp_some <| And.intro @gd_tt <| And.intro @gd_ff <| And.intro @gd_tf <| And.intro @gd_ft <| And.intro @gd_undef <| And.intro @gd_td <| And.intro @gd_fd <| And.intro @ex_v <| And.intro @vo_some <| And.intro @ex.eq_1 <| And.intro @ex.eq_2 <| And.intro @ex.eq_3 <| @ex.eq_4
theorem lw1 : type_of% (And.intro @ex.eq_5 <| And.intro @ex.eq_6 <| And.intro @ex.eq_7 <| And.intro @ex.eq_8 <| And.intro @ex_store <| And.intro @stO_some <| And.intro @ex.eq_11 <| And.intro @ex.eq_12 <| And.intro @ex.eq_13 <| And.intro @ex.eq_14 <| And.intro @vop.eq_1 <| And.intro @vop.eq_2 <| And.intro @vop.eq_3 <| And.intro @vop.eq_4 <| And.intro @vop.eq_5 <| And.intro @vop.eq_6 <| And.intro @vop.eq_7 <| And.intro @vop.eq_8 <| And.intro @vop.eq_9 <| And.intro @vop.eq_10 <| And.intro @vop.eq_11 <| And.intro @vop.eq_12 <| And.intro @vop.eq_13 <| And.intro @vop.eq_14 <| And.intro @vop.eq_15 <| And.intro @vop.eq_16 <| And.intro @vop.eq_17 <| And.intro @vop.eq_18 <| And.intro @vop.eq_19 <| And.intro @vop.eq_20 <| And.intro @vop.eq_21 <| And.intro @vop.eq_22 <| And.intro @ev_t <| And.intro @ev_c <| And.intro @put_some <| And.intro @put_none <| And.intro @upd_same <| And.intro @upd_ne <| And.intro @updK_same <| And.intro @updK_ne <| And.intro @ne_eq.{1} <| And.intro @argE_at <| And.intro @List.getElem?_cons_zero.{0} <| And.intro @List.getElem?_cons_succ.{0} <| And.intro @Option.getD_some.{0} <| And.intro @PV.cells.eq_1 <| And.intro @PV.cells.eq_2 <| And.intro @List.all_cons.{0} <| And.intro @List.all_nil.{0} <| And.intro @PV.one.eq_1 <| And.intro @PV.one.eq_2 <| And.intro @PV.one.eq_3 <| And.intro @PV.one.eq_4 <| And.intro @PV.one.eq_5 <| And.intro @Bool.and_true <| And.intro @Bool.true_and <| And.intro @if_true.{1} <| And.intro @and_self <| And.intro @true_and <| @and_true) := And.intro @ex.eq_5 <| And.intro @ex.eq_6 <| And.intro @ex.eq_7 <| And.intro @ex.eq_8 <| And.intro @ex_store <| And.intro @stO_some <| And.intro @ex.eq_11 <| And.intro @ex.eq_12 <| And.intro @ex.eq_13 <| And.intro @ex.eq_14 <| And.intro @vop.eq_1 <| And.intro @vop.eq_2 <| And.intro @vop.eq_3 <| And.intro @vop.eq_4 <| And.intro @vop.eq_5 <| And.intro @vop.eq_6 <| And.intro @vop.eq_7 <| And.intro @vop.eq_8 <| And.intro @vop.eq_9 <| And.intro @vop.eq_10 <| And.intro @vop.eq_11 <| And.intro @vop.eq_12 <| And.intro @vop.eq_13 <| And.intro @vop.eq_14 <| And.intro @vop.eq_15 <| And.intro @vop.eq_16 <| And.intro @vop.eq_17 <| And.intro @vop.eq_18 <| And.intro @vop.eq_19 <| And.intro @vop.eq_20 <| And.intro @vop.eq_21 <| And.intro @vop.eq_22 <| And.intro @ev_t <| And.intro @ev_c <| And.intro @put_some <| And.intro @put_none <| And.intro @upd_same <| And.intro @upd_ne <| And.intro @updK_same <| And.intro @updK_ne <| And.intro @ne_eq.{1} <| And.intro @argE_at <| And.intro @List.getElem?_cons_zero.{0} <| And.intro @List.getElem?_cons_succ.{0} <| And.intro @Option.getD_some.{0} <| And.intro @PV.cells.eq_1 <| And.intro @PV.cells.eq_2 <| And.intro @List.all_cons.{0} <| And.intro @List.all_nil.{0} <| And.intro @PV.one.eq_1 <| And.intro @PV.one.eq_2 <| And.intro @PV.one.eq_3 <| And.intro @PV.one.eq_4 <| And.intro @PV.one.eq_5 <| And.intro @Bool.and_true <| And.intro @Bool.true_and <| And.intro @if_true.{1} <| And.intro @and_self <| And.intro @true_and <| @and_true
theorem lw2 : type_of% (And.intro @killS.eq_1 <| And.intro @killS.eq_2 <| And.intro @kill_box <| And.intro @kill_arr <| And.intro @e_box <| And.intro @e_arr <| And.intro @AK.tmp.eq_1 <| And.intro @AK.tmp.eq_2 <| And.intro @PV.killL.eq_1 <| And.intro @PV.killL.eq_2 <| And.intro @PV.kill.eq_1 <| And.intro @PV.kill.eq_2 <| And.intro @PV.kill.eq_3 <| And.intro @PV.kill.eq_4 <| And.intro @PV.kill.eq_5 <| And.intro @PV.kill.eq_6 <| And.intro @PV.kill.eq_7 <| And.intro @PV.kill.eq_8 <| And.intro @PV.kill.eq_9 <| And.intro @PV.kill.eq_10 <| And.intro @PV.kill.eq_11 <| And.intro @PV.kill.eq_12 <| And.intro @PV.kill.eq_13 <| And.intro @PV.kill.eq_14 <| And.intro @PV.kill.eq_15 <| And.intro @PV.kill.eq_16 <| And.intro @killE_at <| And.intro @newBox.eq_1 <| And.intro @newBox.eq_2 <| And.intro @initC.eq_1 <| And.intro @initC.eq_2 <| And.intro @initC.eq_3 <| And.intro @initA.eq_1 <| And.intro @initA.eq_2 <| And.intro @initA.eq_3 <| And.intro @ld.eq_1 <| And.intro @ld.eq_2 <| And.intro @ld.eq_3 <| And.intro @ld.eq_4 <| And.intro @getBox.eq_1 <| And.intro @getBox.eq_2 <| And.intro @getBox.eq_3 <| And.intro @setBox.eq_1 <| And.intro @setBox.eq_2 <| And.intro @setBox.eq_3 <| And.intro @getArr.eq_1 <| And.intro @getArr.eq_2 <| And.intro @getArr.eq_3 <| And.intro @setArr.eq_1 <| And.intro @setArr.eq_2 <| And.intro @setArr.eq_3 <| And.intro @pickC.eq_1 <| And.intro @pickC.eq_2 <| And.intro @Option.map_some.{0,0} <| And.intro @Option.map_none.{0,0} <| And.intro @PV.upN.eq_1 <| And.intro @PV.upN.eq_2 <| And.intro @binP.eq_1 <| And.intro @binP.eq_2 <| @binP.eq_3) := And.intro @killS.eq_1 <| And.intro @killS.eq_2 <| And.intro @kill_box <| And.intro @kill_arr <| And.intro @e_box <| And.intro @e_arr <| And.intro @AK.tmp.eq_1 <| And.intro @AK.tmp.eq_2 <| And.intro @PV.killL.eq_1 <| And.intro @PV.killL.eq_2 <| And.intro @PV.kill.eq_1 <| And.intro @PV.kill.eq_2 <| And.intro @PV.kill.eq_3 <| And.intro @PV.kill.eq_4 <| And.intro @PV.kill.eq_5 <| And.intro @PV.kill.eq_6 <| And.intro @PV.kill.eq_7 <| And.intro @PV.kill.eq_8 <| And.intro @PV.kill.eq_9 <| And.intro @PV.kill.eq_10 <| And.intro @PV.kill.eq_11 <| And.intro @PV.kill.eq_12 <| And.intro @PV.kill.eq_13 <| And.intro @PV.kill.eq_14 <| And.intro @PV.kill.eq_15 <| And.intro @PV.kill.eq_16 <| And.intro @killE_at <| And.intro @newBox.eq_1 <| And.intro @newBox.eq_2 <| And.intro @initC.eq_1 <| And.intro @initC.eq_2 <| And.intro @initC.eq_3 <| And.intro @initA.eq_1 <| And.intro @initA.eq_2 <| And.intro @initA.eq_3 <| And.intro @ld.eq_1 <| And.intro @ld.eq_2 <| And.intro @ld.eq_3 <| And.intro @ld.eq_4 <| And.intro @getBox.eq_1 <| And.intro @getBox.eq_2 <| And.intro @getBox.eq_3 <| And.intro @setBox.eq_1 <| And.intro @setBox.eq_2 <| And.intro @setBox.eq_3 <| And.intro @getArr.eq_1 <| And.intro @getArr.eq_2 <| And.intro @getArr.eq_3 <| And.intro @setArr.eq_1 <| And.intro @setArr.eq_2 <| And.intro @setArr.eq_3 <| And.intro @pickC.eq_1 <| And.intro @pickC.eq_2 <| And.intro @Option.map_some.{0,0} <| And.intro @Option.map_none.{0,0} <| And.intro @PV.upN.eq_1 <| And.intro @PV.upN.eq_2 <| And.intro @binP.eq_1 <| And.intro @binP.eq_2 <| @binP.eq_3
theorem lw3 : type_of% (And.intro @binP.eq_4 <| And.intro @binP.eq_5 <| And.intro @binP.eq_6 <| And.intro @binP.eq_7 <| And.intro @binP.eq_8 <| And.intro @binP.eq_9 <| And.intro @binP.eq_10 <| And.intro @binP.eq_11 <| And.intro @binP.eq_12 <| And.intro @binP.eq_13 <| And.intro @binP.eq_14 <| And.intro @binP.eq_15 <| And.intro @binP.eq_16 <| And.intro @binInt.eq_1 <| And.intro @binInt.eq_2 <| And.intro @binInt.eq_3 <| And.intro @binInt.eq_4 <| And.intro @binInt.eq_5 <| And.intro @binInt.eq_6 <| And.intro @binInt.eq_7 <| And.intro @binInt.eq_8 <| And.intro @binInt.eq_9 <| And.intro @binInt.eq_10 <| And.intro @binInt.eq_11 <| And.intro @binInt.eq_12 <| And.intro @binStr.eq_1 <| And.intro @binStr.eq_2 <| And.intro @binStr.eq_3 <| And.intro @binStr.eq_4 <| And.intro @binStr.eq_5 <| And.intro @binStr.eq_6 <| And.intro @binStr.eq_7 <| And.intro @binStr.eq_8 <| And.intro @binB.eq_1 <| And.intro @binB.eq_2 <| And.intro @unP.eq_1 <| And.intro @unP.eq_2 <| And.intro @unP.eq_3 <| And.intro @cnd_true <| And.intro @cnd_false <| And.intro @cnd_dec <| And.intro @cnd_not <| And.intro @not_false_eq_true <| And.intro @not_true_eq_false <| And.intro @Nat.zero_add <| And.intro @Nat.add_zero <| And.intro @fin_ret <| And.intro @fin_nor <| And.intro @List.length_cons.{0} <| And.intro @List.length_nil.{0} <| And.intro @List.drop_succ_cons.{0} <| And.intro @List.drop_zero.{0} <| And.intro @List.take_succ_cons.{0} <| And.intro @List.take_zero.{0} <| And.intro @fillP.eq_1 <| And.intro @fillP.eq_2 <| And.intro @setAt.eq_1 <| And.intro @setAt.eq_2 <| And.intro @List.set_cons_zero.{0} <| @List.set_cons_succ.{0}) := And.intro @binP.eq_4 <| And.intro @binP.eq_5 <| And.intro @binP.eq_6 <| And.intro @binP.eq_7 <| And.intro @binP.eq_8 <| And.intro @binP.eq_9 <| And.intro @binP.eq_10 <| And.intro @binP.eq_11 <| And.intro @binP.eq_12 <| And.intro @binP.eq_13 <| And.intro @binP.eq_14 <| And.intro @binP.eq_15 <| And.intro @binP.eq_16 <| And.intro @binInt.eq_1 <| And.intro @binInt.eq_2 <| And.intro @binInt.eq_3 <| And.intro @binInt.eq_4 <| And.intro @binInt.eq_5 <| And.intro @binInt.eq_6 <| And.intro @binInt.eq_7 <| And.intro @binInt.eq_8 <| And.intro @binInt.eq_9 <| And.intro @binInt.eq_10 <| And.intro @binInt.eq_11 <| And.intro @binInt.eq_12 <| And.intro @binStr.eq_1 <| And.intro @binStr.eq_2 <| And.intro @binStr.eq_3 <| And.intro @binStr.eq_4 <| And.intro @binStr.eq_5 <| And.intro @binStr.eq_6 <| And.intro @binStr.eq_7 <| And.intro @binStr.eq_8 <| And.intro @binB.eq_1 <| And.intro @binB.eq_2 <| And.intro @unP.eq_1 <| And.intro @unP.eq_2 <| And.intro @unP.eq_3 <| And.intro @cnd_true <| And.intro @cnd_false <| And.intro @cnd_dec <| And.intro @cnd_not <| And.intro @not_false_eq_true <| And.intro @not_true_eq_false <| And.intro @Nat.zero_add <| And.intro @Nat.add_zero <| And.intro @fin_ret <| And.intro @fin_nor <| And.intro @List.length_cons.{0} <| And.intro @List.length_nil.{0} <| And.intro @List.drop_succ_cons.{0} <| And.intro @List.drop_zero.{0} <| And.intro @List.take_succ_cons.{0} <| And.intro @List.take_zero.{0} <| And.intro @fillP.eq_1 <| And.intro @fillP.eq_2 <| And.intro @setAt.eq_1 <| And.intro @setAt.eq_2 <| And.intro @List.set_cons_zero.{0} <| @List.set_cons_succ.{0}
theorem lw4 : type_of% (And.intro @storeP.eq_1 <| And.intro @storeP.eq_2 <| And.intro @storeP.eq_3 <| And.intro @stCells.eq_1 <| And.intro @stCells.eq_2 <| And.intro @stCell.eq_1 <| And.intro @stCell.eq_2 <| And.intro @stCell.eq_3 <| And.intro @stCell.eq_4 <| And.intro @PV.dnN.eq_1 <| And.intro @PV.dnN.eq_2 <| And.intro @PV.dn.eq_1 <| And.intro @PV.dn.eq_2 <| And.intro @PV.dn.eq_3 <| And.intro @PV.dn.eq_4 <| And.intro @PV.dn.eq_5 <| And.intro @PV.dn.eq_6 <| And.intro @PV.dn.eq_7 <| And.intro @PV.dn.eq_8 <| And.intro @PV.dn.eq_9 <| And.intro @PV.dn.eq_10 <| And.intro @PV.dn.eq_11 <| And.intro @PV.dn.eq_12 <| And.intro @PV.dn.eq_13 <| And.intro @PV.dn.eq_14 <| And.intro @PV.dn.eq_15 <| And.intro @PV.dn.eq_16 <| And.intro @PV.dn.eq_17 <| And.intro @PV.dn.eq_18 <| And.intro @PV.dn.eq_19 <| And.intro @PV.dnL.eq_1 <| And.intro @PV.dnL.eq_2 <| And.intro @retOf.eq_1 <| And.intro @rdRes.eq_1 <| And.intro @rdRes.eq_2 <| And.intro @rdRes.eq_3 <| And.intro @retL.eq_1 <| And.intro @retL.eq_2 <| And.intro @ret1.eq_1 <| And.intro @ret1.eq_2 <| And.intro @ret1.eq_3 <| And.intro @ret1.eq_4 <| And.intro @retV.eq_1 <| And.intro @hand.eq_1 <| And.intro @hand.eq_2 <| And.intro @hand1.eq_1 <| And.intro @hand1.eq_2 <| And.intro @hand1.eq_3 <| And.intro @hand1.eq_4 <| And.intro @handL.eq_1 <| And.intro @handL.eq_2 <| And.intro @handA.eq_1 <| And.intro @handA.eq_2 <| And.intro @callP.eq_1 <| And.intro @callP.eq_2 <| And.intro @List.append_nil.{0} <| And.intro @List.nil_append.{0} <| And.intro @List.any_cons.{0} <| And.intro @List.any_nil.{0} <| @PV.hasSl.eq_1) := And.intro @storeP.eq_1 <| And.intro @storeP.eq_2 <| And.intro @storeP.eq_3 <| And.intro @stCells.eq_1 <| And.intro @stCells.eq_2 <| And.intro @stCell.eq_1 <| And.intro @stCell.eq_2 <| And.intro @stCell.eq_3 <| And.intro @stCell.eq_4 <| And.intro @PV.dnN.eq_1 <| And.intro @PV.dnN.eq_2 <| And.intro @PV.dn.eq_1 <| And.intro @PV.dn.eq_2 <| And.intro @PV.dn.eq_3 <| And.intro @PV.dn.eq_4 <| And.intro @PV.dn.eq_5 <| And.intro @PV.dn.eq_6 <| And.intro @PV.dn.eq_7 <| And.intro @PV.dn.eq_8 <| And.intro @PV.dn.eq_9 <| And.intro @PV.dn.eq_10 <| And.intro @PV.dn.eq_11 <| And.intro @PV.dn.eq_12 <| And.intro @PV.dn.eq_13 <| And.intro @PV.dn.eq_14 <| And.intro @PV.dn.eq_15 <| And.intro @PV.dn.eq_16 <| And.intro @PV.dn.eq_17 <| And.intro @PV.dn.eq_18 <| And.intro @PV.dn.eq_19 <| And.intro @PV.dnL.eq_1 <| And.intro @PV.dnL.eq_2 <| And.intro @retOf.eq_1 <| And.intro @rdRes.eq_1 <| And.intro @rdRes.eq_2 <| And.intro @rdRes.eq_3 <| And.intro @retL.eq_1 <| And.intro @retL.eq_2 <| And.intro @ret1.eq_1 <| And.intro @ret1.eq_2 <| And.intro @ret1.eq_3 <| And.intro @ret1.eq_4 <| And.intro @retV.eq_1 <| And.intro @hand.eq_1 <| And.intro @hand.eq_2 <| And.intro @hand1.eq_1 <| And.intro @hand1.eq_2 <| And.intro @hand1.eq_3 <| And.intro @hand1.eq_4 <| And.intro @handL.eq_1 <| And.intro @handL.eq_2 <| And.intro @handA.eq_1 <| And.intro @handA.eq_2 <| And.intro @callP.eq_1 <| And.intro @callP.eq_2 <| And.intro @List.append_nil.{0} <| And.intro @List.nil_append.{0} <| And.intro @List.any_cons.{0} <| And.intro @List.any_nil.{0} <| @PV.hasSl.eq_1
theorem lw5 : type_of% (And.intro @PV.hasSl.eq_2 <| And.intro @PV.isSl.eq_1 <| And.intro @PV.isSl.eq_2 <| And.intro @Bool.or_false <| And.intro @Bool.false_or <| And.intro @Bool.false_eq_true <| And.intro @if_false.{1} <| And.intro @slcP.eq_1 <| And.intro @slcP.eq_2 <| And.intro @slcP.eq_3 <| And.intro @slcP.eq_4 <| And.intro @slcGo.eq_1 <| And.intro @fullOf.eq_1 <| And.intro @fullOf.eq_2 <| And.intro @idx.eq_1 <| And.intro @idx.eq_2 <| And.intro @idx.eq_3 <| And.intro @iaddrP.eq_1 <| And.intro @iaddrP.eq_2 <| And.intro @iaddrP.eq_3 <| And.intro @iaddrP.eq_4 <| And.intro @lenP.eq_1 <| And.intro @lenP.eq_2 <| And.intro @lenP.eq_3 <| And.intro @lenP.eq_4 <| And.intro @lenS.eq_1 <| And.intro @lenS.eq_2 <| And.intro @appendP.eq_1 <| And.intro @newArr.eq_1 <| And.intro @view.eq_1 <| And.intro @view.eq_2 <| And.intro @view.eq_3 <| And.intro @view.eq_4 <| And.intro @srcRows.eq_1 <| And.intro @srcRows.eq_2 <| And.intro @srcRows.eq_3 <| And.intro @bigRow.eq_1 <| And.intro @okA.eq_1 <| And.intro @okA.eq_2 <| And.intro @okA.eq_3 <| And.intro @eqCells.eq_1 <| And.intro @eqCells.eq_2 <| And.intro @eqCells.eq_3 <| And.intro @eqCells.eq_4 <| And.intro @eqCells.eq_5 <| And.intro @convP.eq_1 <| And.intro @convP.eq_2 <| And.intro @convP.eq_3 <| And.intro @convP.eq_4 <| And.intro @convP.eq_5 <| And.intro @slsP.eq_1 <| And.intro @slsP.eq_2 <| And.intro @gd_tb <| And.intro @gd_fb <| And.intro @List.cons_append.{0} <| And.intro @Option.getD_none.{0} <| And.intro @List.getElem?_nil.{0} <| And.intro @AK.slot.injEq <| And.intro @AK.cell.injEq <| @decide_true) := And.intro @PV.hasSl.eq_2 <| And.intro @PV.isSl.eq_1 <| And.intro @PV.isSl.eq_2 <| And.intro @Bool.or_false <| And.intro @Bool.false_or <| And.intro @Bool.false_eq_true <| And.intro @if_false.{1} <| And.intro @slcP.eq_1 <| And.intro @slcP.eq_2 <| And.intro @slcP.eq_3 <| And.intro @slcP.eq_4 <| And.intro @slcGo.eq_1 <| And.intro @fullOf.eq_1 <| And.intro @fullOf.eq_2 <| And.intro @idx.eq_1 <| And.intro @idx.eq_2 <| And.intro @idx.eq_3 <| And.intro @iaddrP.eq_1 <| And.intro @iaddrP.eq_2 <| And.intro @iaddrP.eq_3 <| And.intro @iaddrP.eq_4 <| And.intro @lenP.eq_1 <| And.intro @lenP.eq_2 <| And.intro @lenP.eq_3 <| And.intro @lenP.eq_4 <| And.intro @lenS.eq_1 <| And.intro @lenS.eq_2 <| And.intro @appendP.eq_1 <| And.intro @newArr.eq_1 <| And.intro @view.eq_1 <| And.intro @view.eq_2 <| And.intro @view.eq_3 <| And.intro @view.eq_4 <| And.intro @srcRows.eq_1 <| And.intro @srcRows.eq_2 <| And.intro @srcRows.eq_3 <| And.intro @bigRow.eq_1 <| And.intro @okA.eq_1 <| And.intro @okA.eq_2 <| And.intro @okA.eq_3 <| And.intro @eqCells.eq_1 <| And.intro @eqCells.eq_2 <| And.intro @eqCells.eq_3 <| And.intro @eqCells.eq_4 <| And.intro @eqCells.eq_5 <| And.intro @convP.eq_1 <| And.intro @convP.eq_2 <| And.intro @convP.eq_3 <| And.intro @convP.eq_4 <| And.intro @convP.eq_5 <| And.intro @slsP.eq_1 <| And.intro @slsP.eq_2 <| And.intro @gd_tb <| And.intro @gd_fb <| And.intro @List.cons_append.{0} <| And.intro @Option.getD_none.{0} <| And.intro @List.getElem?_nil.{0} <| And.intro @AK.slot.injEq <| And.intro @AK.cell.injEq <| @decide_true
theorem lw6 : type_of% (And.intro @decide_false <| And.intro @Bool.not_true <| And.intro @Bool.not_false <| And.intro @Option.isNone_none.{0} <| And.intro @Option.isSome_none.{0} <| And.intro @Option.isSome_some.{0} <| And.intro @Option.isNone_some.{0} <| And.intro @prep.eq_1 <| And.intro @prep.eq_2 <| And.intro @Ac.kill.eq_1 <| And.intro @PV.int.injEq <| And.intro @beq_self_eq_true.{0} <| And.intro @decide_eq_true_eq <| And.intro @Bool.not_eq_true <| And.intro @decide_eq_false_iff_not <| And.intro @true_or <| And.intro @or_true <| And.intro @false_or <| And.intro @or_false <| And.intro @false_and <| And.intro @and_false <| And.intro @Bool.not_not <| And.intro @Classical.not_not <| And.intro @Bool.false_and <| And.intro @Bool.and_false <| And.intro @Bool.and_self <| And.intro @ite_self.{1} <| And.intro @PV.pure.eq_1 <| And.intro @PV.pure.eq_2 <| And.intro @PV.pure.eq_3 <| And.intro @PV.pure.eq_4 <| And.intro @PV.pure.eq_5 <| And.intro @PV.pure.eq_6 <| And.intro @PV.pure.eq_7 <| And.intro @PV.pure.eq_8 <| And.intro @PV.pure.eq_9 <| And.intro @PV.plain.eq_1 <| And.intro @PV.plain.eq_2 <| And.intro @PV.plain.eq_3 <| And.intro @PV.plain.eq_4 <| And.intro @PV.plain.eq_5 <| And.intro @PV.plain.eq_6 <| And.intro @PV.plain.eq_7 <| And.intro @PV.plain.eq_8 <| And.intro @PV.plain.eq_9 <| And.intro @PV.plainL.eq_1 <| And.intro @PV.plainL.eq_2 <| And.intro @Ret.plain.eq_1 <| And.intro @Ret.plain.eq_2 <| And.intro @allPure.eq_1 <| And.intro @List.isEmpty_nil.{0} <| And.intro @List.isEmpty_cons.{0} <| And.intro @Bool.or_true <| And.intro @Bool.true_or <| And.intro @encL_length <| And.intro @List.length_map.{0,0} <| And.intro @encL_get <| And.intro @List.getElem?_map.{0,0} <| And.intro @encL_drop <| @encL_take) := And.intro @decide_false <| And.intro @Bool.not_true <| And.intro @Bool.not_false <| And.intro @Option.isNone_none.{0} <| And.intro @Option.isSome_none.{0} <| And.intro @Option.isSome_some.{0} <| And.intro @Option.isNone_some.{0} <| And.intro @prep.eq_1 <| And.intro @prep.eq_2 <| And.intro @Ac.kill.eq_1 <| And.intro @PV.int.injEq <| And.intro @beq_self_eq_true.{0} <| And.intro @decide_eq_true_eq <| And.intro @Bool.not_eq_true <| And.intro @decide_eq_false_iff_not <| And.intro @true_or <| And.intro @or_true <| And.intro @false_or <| And.intro @or_false <| And.intro @false_and <| And.intro @and_false <| And.intro @Bool.not_not <| And.intro @Classical.not_not <| And.intro @Bool.false_and <| And.intro @Bool.and_false <| And.intro @Bool.and_self <| And.intro @ite_self.{1} <| And.intro @PV.pure.eq_1 <| And.intro @PV.pure.eq_2 <| And.intro @PV.pure.eq_3 <| And.intro @PV.pure.eq_4 <| And.intro @PV.pure.eq_5 <| And.intro @PV.pure.eq_6 <| And.intro @PV.pure.eq_7 <| And.intro @PV.pure.eq_8 <| And.intro @PV.pure.eq_9 <| And.intro @PV.plain.eq_1 <| And.intro @PV.plain.eq_2 <| And.intro @PV.plain.eq_3 <| And.intro @PV.plain.eq_4 <| And.intro @PV.plain.eq_5 <| And.intro @PV.plain.eq_6 <| And.intro @PV.plain.eq_7 <| And.intro @PV.plain.eq_8 <| And.intro @PV.plain.eq_9 <| And.intro @PV.plainL.eq_1 <| And.intro @PV.plainL.eq_2 <| And.intro @Ret.plain.eq_1 <| And.intro @Ret.plain.eq_2 <| And.intro @allPure.eq_1 <| And.intro @List.isEmpty_nil.{0} <| And.intro @List.isEmpty_cons.{0} <| And.intro @Bool.or_true <| And.intro @Bool.true_or <| And.intro @encL_length <| And.intro @List.length_map.{0,0} <| And.intro @encL_get <| And.intro @List.getElem?_map.{0,0} <| And.intro @encL_drop <| @encL_take
theorem lw7 : type_of% (And.intro @map_drop' <| And.intro @map_take' <| And.intro @take_len <| And.intro @take_encL_app <| And.intro @take_map_app <| And.intro @nat_nonneg <| And.intro @Int.toNat_natCast <| And.intro @cnd_b <| And.intro @cnd_and <| And.intro @wrap_i64 <| And.intro @bytesOf.eq_1 <| And.intro @bytesOf.eq_2 <| And.intro @bytesOf.eq_3 <| And.intro @bytesOf_eB <| And.intro @bytes_eB <| And.intro @eI.eq_1 <| And.intro @eK.eq_1 <| And.intro @eB.eq_1 <| And.intro @eS.eq_1 <| And.intro @eO.eq_1 <| And.intro @rowsP.eq_1 <| And.intro @rowsP.eq_2 <| And.intro @List.replicate.eq_1.{0} <| And.intro @List.replicate.eq_2.{0} <| And.intro @List.length_append.{0} <| And.intro @encL_nil <| And.intro @encL_cons <| And.intro @encL_app <| @List.map_append.{0,0}) := And.intro @map_drop' <| And.intro @map_take' <| And.intro @take_len <| And.intro @take_encL_app <| And.intro @take_map_app <| And.intro @nat_nonneg <| And.intro @Int.toNat_natCast <| And.intro @cnd_b <| And.intro @cnd_and <| And.intro @wrap_i64 <| And.intro @bytesOf.eq_1 <| And.intro @bytesOf.eq_2 <| And.intro @bytesOf.eq_3 <| And.intro @bytesOf_eB <| And.intro @bytes_eB <| And.intro @eI.eq_1 <| And.intro @eK.eq_1 <| And.intro @eB.eq_1 <| And.intro @eS.eq_1 <| And.intro @eO.eq_1 <| And.intro @rowsP.eq_1 <| And.intro @rowsP.eq_2 <| And.intro @List.replicate.eq_1.{0} <| And.intro @List.replicate.eq_2.{0} <| And.intro @List.length_append.{0} <| And.intro @encL_nil <| And.intro @encL_cons <| And.intro @encL_app <| @List.map_append.{0,0}
theorem nat_le_self (n : Nat) : (n ≤ n) = True := by simp
theorem ex_w {cl : Oracle} {kd : Bool} {d : Option Nat} {o : VO} {ac : Ac} : ex cl kd d (.w o) ac = vo d ac (vop ac.ev [] o) := rfl
theorem thF_nor {SP : Prg} {ac : Ac} {ops : List SOper} {tot : List Bool} : thF SP (.nor ac) ops tot = evD (call SP) ops tot (prep ops ac) := rfl
theorem joinA_nil (a : List PV) : joinA a [] = a := by simp [joinA]
theorem joinA_meth (a vs : List PV) : joinA a [.tup vs] = vs ++ a := rfl
theorem joinA_two (a : List PV) (u v : PV) (r : List PV) : joinA a (u :: v :: r) = a ++ (u :: v :: r) := by cases u <;> rfl
theorem joinA_bool (a : List PV) (b : Bool) : joinA a [.bool b] = a ++ [.bool b] := rfl
theorem joinA_int (a : List PV) (k : IntKind) (n : Int) : joinA a [.int k n] = a ++ [.int k n] := rfl
theorem joinA_str (a : List PV) (s : List UInt8) : joinA a [.str s] = a ++ [.str s] := rfl
theorem joinA_nils (a : List PV) (z : Nat) : joinA a [.nils z] = a ++ [.nils z] := rfl
theorem joinA_list (a : List PV) (z : Nat) (r : List (List PV)) (f : Bool) : joinA a [.list z r f] = a ++ [.list z r f] := rfl
theorem joinA_agg (a : List PV) (vs : List PV) : joinA a [.agg vs] = a ++ [.agg vs] := rfl
theorem joinA_ptr (a : List PV) (n t o : Nat) : joinA a [.ptr n t o] = a ++ [.ptr n t o] := rfl
theorem joinA_rowp (a : List PV) (r : List PV) (o : Nat) : joinA a [.rowp r o] = a ++ [.rowp r o] := rfl
theorem joinA_elem (a : List PV) (n : Nat) (k : AK) (i o v g : Nat) : joinA a [.elem n k i o v g] = a ++ [.elem n k i o v g] := rfl
theorem joinA_sl (a : List PV) (n : Nat) (k : AK) (o l v g : Nat) (f : Bool) : joinA a [.sl n k o l v g f] = a ++ [.sl n k o l v g f] := rfl
theorem joinA_func (a : List PV) (f : Nat) (c : List PV) : joinA a [.func f c] = a ++ [.func f c] := rfl
theorem joinA_iface (a : List PV) (t : Nat) (v : PV) : joinA a [.iface t v] = a ++ [.iface t v] := rfl
theorem joinA_nili (a : List PV)  : joinA a [.nili] = a ++ [.nili] := rfl
theorem lw : type_of% (And.intro nat_le_self <| And.intro @ex_w <| And.intro @E_sreg <| And.intro @thF_nor <| And.intro @frzC.eq_1 <| And.intro @frzC.eq_2 <| And.intro @o_upN_func <| And.intro @app_lit <| And.intro @joinA_nil <| And.intro @joinA_meth <| And.intro @joinA_two <| And.intro @joinA_bool <| And.intro @joinA_int <| And.intro @joinA_str <| And.intro @joinA_nils <| And.intro @joinA_list <| And.intro @joinA_agg <| And.intro @joinA_ptr <| And.intro @joinA_rowp <| And.intro @joinA_elem <| And.intro @joinA_sl <| And.intro @joinA_func <| And.intro @joinA_iface <| And.intro @joinA_nili <| And.intro @vop.eq_23 <| And.intro @vop.eq_24 <| And.intro @ac0.eq_1 <| And.intro @o_length_setBox <| And.intro @o_length_setArr <| And.intro @o_getBox_setBox <| And.intro @o_getArr_setArr <| And.intro @o_getBox_setArr <| And.intro @o_getArr_setBox <| And.intro @o_setBox_setBox <| And.intro @o_setArr_setArr <| And.intro @o_setBox_setArr <| And.intro @o_setBox_same <| And.intro @o_setArr_same <| And.intro @o_upN_int <| And.intro @o_upN_bool <| And.intro @o_upN_str <| And.intro @o_upN_list <| And.intro @o_upN_sl <| And.intro @o_upN_agg <| And.intro @o_dnN_int <| And.intro @o_dnN_bool <| And.intro @o_dnN_str <| And.intro @succ_ne_zero' <| And.intro @o_killL_up <| And.intro @AK.isCell.eq_1 <| And.intro @AK.isCell.eq_2 <| And.intro lw0 <| And.intro lw1 <| And.intro lw2 <| And.intro lw3 <| And.intro lw4 <| And.intro lw5 <| And.intro lw6 <| lw7) := And.intro nat_le_self <| And.intro @ex_w <| And.intro @E_sreg <| And.intro @thF_nor <| And.intro @frzC.eq_1 <| And.intro @frzC.eq_2 <| And.intro @o_upN_func <| And.intro @app_lit <| And.intro @joinA_nil <| And.intro @joinA_meth <| And.intro @joinA_two <| And.intro @joinA_bool <| And.intro @joinA_int <| And.intro @joinA_str <| And.intro @joinA_nils <| And.intro @joinA_list <| And.intro @joinA_agg <| And.intro @joinA_ptr <| And.intro @joinA_rowp <| And.intro @joinA_elem <| And.intro @joinA_sl <| And.intro @joinA_func <| And.intro @joinA_iface <| And.intro @joinA_nili <| And.intro @vop.eq_23 <| And.intro @vop.eq_24 <| And.intro @ac0.eq_1 <| And.intro @o_length_setBox <| And.intro @o_length_setArr <| And.intro @o_getBox_setBox <| And.intro @o_getArr_setArr <| And.intro @o_getBox_setArr <| And.intro @o_getArr_setBox <| And.intro @o_setBox_setBox <| And.intro @o_setArr_setArr <| And.intro @o_setBox_setArr <| And.intro @o_setBox_same <| And.intro @o_setArr_same <| And.intro @o_upN_int <| And.intro @o_upN_bool <| And.intro @o_upN_str <| And.intro @o_upN_list <| And.intro @o_upN_sl <| And.intro @o_upN_agg <| And.intro @o_dnN_int <| And.intro @o_dnN_bool <| And.intro @o_dnN_str <| And.intro @succ_ne_zero' <| And.intro @o_killL_up <| And.intro @AK.isCell.eq_1 <| And.intro @AK.isCell.eq_2 <| And.intro lw0 <| And.intro lw1 <| And.intro lw2 <| And.intro lw3 <| And.intro lw4 <| And.intro lw5 <| And.intro lw6 <| lw7
theorem nil_all {p : Nat → Prop} : (∀ x ∈ ([] : List Nat), p x) = True := by simp
theorem pure_ptr (n t o : Nat) : (PV.ptr n t o).pure = false := rfl
theorem fin_pan {res : List RX} {v : PV} {S : Sto} : fin res (.pan v S) = match v.dn with | some v => .pan v S.tail | none => .bad := rfl
theorem nxT_ok {K : Ac → EO} {ac : Ac} : nxT K (.ok ac) = K ac := rfl
theorem nxT_pan {K : Ac → EO} {v : PV} {S : Sto} : nxT K (.pan v S) = .pan v S := rfl
theorem sameE_nor {ds : List Nat} {a b : Ac} : sameE ds (.nor a) (.nor b) = (a.S = b.S ∧ ∀ d ∈ ds, a.e d = b.e d) := rfl
theorem sameE_pan {ds : List Nat} {v v' : PV} {S S' : Sto} : sameE ds (.pan v S) (.pan v' S') = (v = v' ∧ S = S') := rfl
theorem stpI_eq {cl : Oracle} {l : List SOper} {i : Nat} {ac : Ac} : stpI cl l i ac = match l[i]? with | some o => stp cl false o ac | none => .bad := rfl
theorem lx : type_of% (And.intro @po_none <| And.intro @po_some <| And.intro @fin_pan <| And.intro @E_treg <| And.intro @evT.eq_1 <| And.intro @evT.eq_2 <| And.intro @evTs.eq_1 <| And.intro @evTs.eq_2 <| And.intro @nxT_ok <| And.intro @nxT_pan <| And.intro @sameE_nor <| And.intro @sameE_pan <| And.intro @stpI_eq <| And.intro @List.forall_mem_cons.{0} <| And.intro @nil_all <| And.intro @pure_ptr <| And.intro (show IntKind.u64.bits = 64 from rfl) <| And.intro (show min 1 64 = 1 from rfl) <| And.intro (show (2 : Int) ^ 1 = 2 from rfl) <| And.intro @decide_not <| And.intro @isnileP_eql <| And.intro @isnileP_neq <| And.intro @Option.bind_some.{0,0} <| And.intro @UInt8.toNat_zero <| And.intro @UInt8.ofNat_toNat <| And.intro @Int.natCast_zero <| And.intro @Int.ofNat_eq_natCast <| And.intro @Nat.zero_le <| And.intro @Nat.sub_zero <| And.intro @take_app3 <| And.intro @set_get <| And.intro @take_set <| And.intro @List.length_set.{0} <| And.intro @List.map_set.{0,0} <| @Int.cast_ofNat_Int) := And.intro @po_none <| And.intro @po_some <| And.intro @fin_pan <| And.intro @E_treg <| And.intro @evT.eq_1 <| And.intro @evT.eq_2 <| And.intro @evTs.eq_1 <| And.intro @evTs.eq_2 <| And.intro @nxT_ok <| And.intro @nxT_pan <| And.intro @sameE_nor <| And.intro @sameE_pan <| And.intro @stpI_eq <| And.intro @List.forall_mem_cons.{0} <| And.intro @nil_all <| And.intro @pure_ptr <| And.intro (show IntKind.u64.bits = 64 from rfl) <| And.intro (show min 1 64 = 1 from rfl) <| And.intro (show (2 : Int) ^ 1 = 2 from rfl) <| And.intro @decide_not <| And.intro @isnileP_eql <| And.intro @isnileP_neq <| And.intro @Option.bind_some.{0,0} <| And.intro @UInt8.toNat_zero <| And.intro @UInt8.ofNat_toNat <| And.intro @Int.natCast_zero <| And.intro @Int.ofNat_eq_natCast <| And.intro @Nat.zero_le <| And.intro @Nat.sub_zero <| And.intro @take_app3 <| And.intro @set_get <| And.intro @take_set <| And.intro @List.length_set.{0} <| And.intro @List.map_set.{0,0} <| @Int.cast_ofNat_Int
end Go.Proofs.YtfbcnpbhhooapaaGreatDoor.M

/- The program's structs as data, and their cells. Printed by a program of this session (lift.py). -/
namespace Go.Proofs.YtfbcnpbhhooapaaGreatDoor.M
open Go
structure Part where
  Ref : Bool
  Text : List UInt8
def ePart (x : Part) : List PV := [.bool x.Ref, .str x.Text]
structure Node where
  Kind : Int
  Num : Int
  Text : List UInt8
  Parts : List Part
  Kids : List Int
def eNode (x : Node) : List PV := [.int .i64 x.Kind, .int .i64 x.Num, .str x.Text, .list 2 (x.Parts.map ePart) false, .list 1 (x.Kids.map eI) false]
structure Attr where
  Name : List UInt8
  Expr : List Node
def eAttr (x : Attr) : List PV := [.str x.Name, .list 5 (x.Expr.map eNode) false]
structure Block where
  Kind : Int
  Label : List UInt8
  Attrs : List Attr
  Blocks : List Block
mutual
def eBlock : Block → List PV
  | .mk a0 a1 a2 a3 => [.int .i64 a0, .str a1, .list 2 (a2.map eAttr) false, .list 4 (eBlocks a3) false]
def eBlocks : List Block → List (List PV)
  | [] => []
  | b :: r => eBlock b :: eBlocks r
end
theorem eBlocks_eq : ∀ l, eBlocks l = l.map eBlock
  | [] => rfl
  | b :: r => by rw [eBlocks, eBlocks_eq r]; rfl
theorem eBlock_eq (x : Block) : eBlock x = [.int .i64 x.Kind, .str x.Label, .list 2 (x.Attrs.map eAttr) false, .list 4 (x.Blocks.map eBlock) false] := by cases x; rw [eBlock, eBlocks_eq]
structure Parsed where
  L : List Block
  E : Int
def eParsed (x : Parsed) : List PV := [.list 4 (x.L.map eBlock) false, .int .i64 x.E]
structure Read where
  L : List Node
  E : Int
def eRead (x : Read) : List PV := [.list 5 (x.L.map eNode) false, .int .i64 x.E]
structure Token where
  Kind : Int
  Text : List UInt8
  Num : Int
  Parts : List Part
  At : Int
def eToken (x : Token) : List PV := [.int .i64 x.Kind, .str x.Text, .int .i64 x.Num, .list 2 (x.Parts.map ePart) false, .int .i64 x.At]
structure PTokens where
  l : List Token
  pos : Int
def ePTokens (x : PTokens) : List PV := [.list 5 (x.l.map eToken) false, .int .i64 x.pos]
structure PExprs where
  tokens : PTokens
  out : List Node
  deep : Int
def ePExprs (x : PExprs) : List PV := [.list 5 (x.tokens.l.map eToken) false, .int .i64 x.tokens.pos, .list 5 (x.out.map eNode) false, .int .i64 x.deep]
structure PBlocks where
  exprs : PExprs
def ePBlocks (x : PBlocks) : List PV := [.list 5 (x.exprs.tokens.l.map eToken) false, .int .i64 x.exprs.tokens.pos, .list 5 (x.exprs.out.map eNode) false, .int .i64 x.exprs.deep]
structure SWriter where
  out : List UInt8
def eSWriter (x : SWriter) : List PV := [.list 1 (x.out.map eB) false]
structure Tokens where
  L : List Token
  E : Int
def eTokens (x : Tokens) : List PV := [.list 5 (x.L.map eToken) false, .int .i64 x.E]
structure reader where
  l : List Token
  i : Int
  deep : Int
  e : Int
  out : List Node
def ereader (x : reader) : List PV := [.list 5 (x.l.map eToken) false, .int .i64 x.i, .int .i64 x.deep, .int .i64 x.e, .list 5 (x.out.map eNode) false]
structure SBlocks where
  writer : SWriter
def eSBlocks (x : SBlocks) : List PV := [.list 1 (x.writer.out.map eB) false]
structure LText where
  left : List UInt8
  pos : Int
def eLText (x : LText) : List PV := [.str x.left, .int .i64 x.pos]
structure LTokens where
  text : LText
  out : List Token
def eLTokens (x : LTokens) : List PV := [.str x.text.left, .int .i64 x.text.pos, .list 5 (x.out.map eToken) false]
/-- All cells' laws in one. -/
theorem le : type_of% (And.intro @enc_eq <| And.intro @eI.eq_1 <| And.intro @eK.eq_1 <| And.intro @eB.eq_1 <| And.intro @eS.eq_1 <| And.intro @eO.eq_1 <| And.intro @eF.eq_1 <| And.intro @eLB.eq_1 <| And.intro @eLS.eq_1 <| And.intro @V_k <| And.intro @V_n <| And.intro @V_s <| And.intro @V_l <| And.intro @encL_nil <| And.intro @encL_cons <| And.intro @encL_app <| And.intro @List.map_cons.{0,0} <| And.intro @List.map_nil.{0,0} <| And.intro @List.map_append.{0,0} <| And.intro @ePart.eq_1 <| And.intro @eNode.eq_1 <| And.intro @eAttr.eq_1 <| And.intro @eParsed.eq_1 <| And.intro @eRead.eq_1 <| And.intro @eToken.eq_1 <| And.intro @ePTokens.eq_1 <| And.intro @ePExprs.eq_1 <| And.intro @ePBlocks.eq_1 <| And.intro @eSWriter.eq_1 <| And.intro @eTokens.eq_1 <| And.intro @ereader.eq_1 <| And.intro @eSBlocks.eq_1 <| And.intro @eLText.eq_1 <| And.intro @eLTokens.eq_1 <| @eBlock_eq) := And.intro @enc_eq <| And.intro @eI.eq_1 <| And.intro @eK.eq_1 <| And.intro @eB.eq_1 <| And.intro @eS.eq_1 <| And.intro @eO.eq_1 <| And.intro @eF.eq_1 <| And.intro @eLB.eq_1 <| And.intro @eLS.eq_1 <| And.intro @V_k <| And.intro @V_n <| And.intro @V_s <| And.intro @V_l <| And.intro @encL_nil <| And.intro @encL_cons <| And.intro @encL_app <| And.intro @List.map_cons.{0,0} <| And.intro @List.map_nil.{0,0} <| And.intro @List.map_append.{0,0} <| And.intro @ePart.eq_1 <| And.intro @eNode.eq_1 <| And.intro @eAttr.eq_1 <| And.intro @eParsed.eq_1 <| And.intro @eRead.eq_1 <| And.intro @eToken.eq_1 <| And.intro @ePTokens.eq_1 <| And.intro @ePExprs.eq_1 <| And.intro @ePBlocks.eq_1 <| And.intro @eSWriter.eq_1 <| And.intro @eTokens.eq_1 <| And.intro @ereader.eq_1 <| And.intro @eSBlocks.eq_1 <| And.intro @eLText.eq_1 <| And.intro @eLTokens.eq_1 <| @eBlock_eq
/-- A goal that is reckoned with facts. -/
theorem aa {p q : Prop} (a : p) (b : q) : p ∧ q := ⟨a, b⟩
theorem fi {p F : Prop} (f : F) (h : F → p := by intro f; simp only [f, lw, lx, le, Nat.reduceMul, UInt8.reduceToNat, reduceIte, reduceCtorEq, Nat.reduceEqDiff, Nat.reduceAdd, Nat.reduceLeDiff, Nat.reduceSub, Nat.reduceLT, Int.reduceEq, Int.reduceLT, Int.reduceLE, Int.reduceToNat, Int.reduceAdd, Int.reduceSub, Int.reduceMul, Int.reduceNeg]) : p := h f
end Go.Proofs.YtfbcnpbhhooapaaGreatDoor.M

/- Functions that recover. Printed by a program of this session (rcv.py). -/
namespace Go.Proofs.YtfbcnpbhhooapaaGreatDoor.M
open Go
noncomputable section
def rcv_parse_reading : RecF := ⟨2, (.seq (.reg [ ⟨(some 4), none, (.alloc [(.int .i64 0)])⟩]) (.seq (.reg [ ⟨(some 7), none, (.v (.mov (.t 0)))⟩, ⟨(some 8), none, (.call (.c (.func 60 [])) [(.t 7)])⟩, ⟨(some 6), none, (.v (.mov (.t 8)))⟩, ⟨(some 9), none, (.v (.extract 0 (.t 6)))⟩, ⟨(some 10), none, (.v (.extract 1 (.t 6)))⟩, ⟨(some 5), none, (.v (.mov (.t 9)))⟩, ⟨none, none, (.store 1 (.t 4) (.t 10))⟩]) (.seq (.seq (.reg [ ⟨(some 11), none, (.v (.load none (.t 4)))⟩, ⟨(some 12), none, (.v (.bin .neq (.t 11) (.c (.int .i64 0))))⟩]) (.cond (.t 12) (.seq (.reg [ ⟨(some 13), none, (.v (.load none (.t 4)))⟩, ⟨none, none, (.store 1 (.t 4) (.t 13))⟩]) .ret) .skip)) .skip))), 14, 4, [⟨(some 15), none, (.v (.mov (.t 1)))⟩, ⟨(some 16), none, (.v (.mov (.t 5)))⟩, ⟨(some 17), none, (.v (.build [(.nils 5), (.int .i64 0)] [(0, 1, (.t 16))]))⟩, ⟨(some 18), none, (.v (.build [(.nils 5), (.int .i64 0), (.nils 5), (.int .i64 0)] [(0, 2, (.t 17))]))⟩, ⟨(some 19), none, (.v (.build [(.nils 5), (.int .i64 0), (.nils 5), (.int .i64 0)] [(0, 4, (.t 18))]))⟩, ⟨(some 20), none, (.box (.t 19))⟩, ⟨(some 21), none, (.call (.t 15) [(.t 20)])⟩], (.seq (.reg [ ⟨none, none, (.store 1 (.t 4) (.c (.int .i64 0)))⟩]) .ret), [(.cell 4 none)], 116⟩
def pre_parse_reading_0 : SC := (.reg [⟨(some 4), none, (.alloc [(.int .i64 0)])⟩])
def pre_parse_reading_1 : SC := (.reg [⟨(some 7), none, (.v (.mov (.t 0)))⟩, ⟨(some 8), none, (.call (.c (.func 60 [])) [(.t 7)])⟩, ⟨(some 6), none, (.v (.mov (.t 8)))⟩, ⟨(some 9), none, (.v (.extract 0 (.t 6)))⟩, ⟨(some 10), none, (.v (.extract 1 (.t 6)))⟩, ⟨(some 5), none, (.v (.mov (.t 9)))⟩, ⟨none, none, (.store 1 (.t 4) (.t 10))⟩])
def pre_parse_reading_2 : SC := (.seq (.reg [⟨(some 11), none, (.v (.load none (.t 4)))⟩, ⟨(some 12), none, (.v (.bin .neq (.t 11) (.c (.int .i64 0))))⟩]) (.cond (.t 12) (.seq (.reg [⟨(some 13), none, (.v (.load none (.t 4)))⟩, ⟨none, none, (.store 1 (.t 4) (.t 13))⟩]) .ret) .skip))
def hd_parse_reading : Code → Code | .seq a _ => a | c => c
def tl_parse_reading : Code → Code | .seq _ b => b | c => c
def rg_parse_reading : Code → Array Oper | .region _ o _ => o | _ => #[]
def ri_parse_reading : Code → Nat | .region i _ _ => i | _ => 0
noncomputable def b_parse_reading : Code := (Tryz.f36.body).getD .skip
noncomputable def o1_parse_reading : Oper := (rg_parse_reading (hd_parse_reading (tl_parse_reading (tl_parse_reading (tl_parse_reading b_parse_reading)))))[0]!
noncomputable def o2_parse_reading : Oper := (rg_parse_reading (hd_parse_reading (tl_parse_reading (tl_parse_reading (tl_parse_reading b_parse_reading)))))[1]!
theorem ta_parse_reading (v : Value) (w : World) : (Instr.typeAssert (.iface 116 v) 20 116 true).run Tryz.prog w = .ok (.tuple #[v, .bool true]) w := by
  have hu : Tryz.prog.underlying 116 = some (.int .i64) := by kernel_rfl
  simp [Instr.typeAssert, run_underlying hu, go_sem, Result.andThen]
theorem idle_parse_reading (v : Value) (w : World) : CallsD Tryz.prog 61 #[v] .returning w fun e u' w' => (∃ v, e = .returned v) ∧ u' = .returning ∧ w' = w := by
  refine callsD_of_wpS Tryz.func61 rfl fun c₀ cs hu => ?_
  apply wpS_seq
  apply wpS_region
  simp [wpOpsS, go_sem, recoverD, hu, Tryz.ntmps61, Exit.thenS]
  apply wpS_seq
  apply wpS_region
  simp [wpOpsS, go_sem, Exit.thenS]
  refine wpS_cond (t := false) (by simp [Act.eval, Array.replicate]) ?_
  simp only [Bool.false_eq_true, if_false]
  refine wpS_of_wp (wp_skip ?_)
  cases c₀
  simp_all [bodyPostS, results, Tryz.results61]
theorem takes_parse_reading (v : Value) (k : IntKind) (m : Int) (w w' : World) (h : (Instr.storeAt 27 v (.int k m)).run Tryz.prog w = .ok () w') :
    CallsD Tryz.prog 61 #[v] (.panicking [{ v := .iface 116 (.int k m), recovered := false }]) w fun e u' w'' => (∃ v, e = .returned v) ∧ u' = .panicking [{ v := .iface 116 (.int k m), recovered := true }] ∧ w'' = w' := by
  refine callsD_of_wpS Tryz.func61 rfl fun c₀ cs hu => ?_
  apply wpS_seq
  apply wpS_region
  simp [wpOpsS, go_sem, recoverD, hu, Tryz.ntmps61, Exit.thenS]
  apply wpS_seq
  apply wpS_region
  simp [wpOpsS, go_sem, Exit.thenS]
  refine wpS_cond (t := true) (by simp [Act.eval, Array.replicate]) ?_
  simp only [if_true]
  apply wpS_seq
  apply wpS_region
  simp [wpOpsS, go_sem, Exit.thenS, ta_parse_reading]
  apply wpS_seq
  apply wpS_seq
  apply wpS_region
  simp [wpOpsS, go_sem, Exit.thenS]
  refine wpS_cond (t := false) (by simp [Act.eval, Array.replicate]) ?_
  simp only [Bool.false_eq_true, if_false]
  refine wpS_of_wp (wp_skip ?_)
  simp only [Exit.thenS]
  apply wpS_region
  simp [wpOpsS, Region.wanted, show List.range.loop 2 [] = [0, 1] from rfl, List.range, execOp, Act.eval, Act.put, Oper.upon, h, bodyPostS, results, Tryz.results61]
noncomputable def b2_parse_reading : Code := (Tryz.f61.body).getD .skip
theorem rcvOk_parse_reading [Base] : RecOk Tryz.prog 36 rcv_parse_reading := rec_ok (fk := 61) (fn := Tryz.f36) (l := [(hd_parse_reading b_parse_reading, pre_parse_reading_0), (hd_parse_reading (tl_parse_reading b_parse_reading), pre_parse_reading_1), (hd_parse_reading (tl_parse_reading (tl_parse_reading b_parse_reading)), pre_parse_reading_2)]) (i4 := ri_parse_reading (hd_parse_reading (tl_parse_reading (tl_parse_reading (tl_parse_reading b_parse_reading))))) (i5 := ri_parse_reading (hd_parse_reading (tl_parse_reading (tl_parse_reading (tl_parse_reading (tl_parse_reading b_parse_reading)))))) (o1 := o1_parse_reading) (o2 := o2_parse_reading) (ops := (rg_parse_reading (hd_parse_reading (tl_parse_reading (tl_parse_reading (tl_parse_reading (tl_parse_reading b_parse_reading))))))) (cz := (tl_parse_reading (tl_parse_reading (tl_parse_reading (tl_parse_reading (tl_parse_reading b_parse_reading)))))) (ty := 27)
  { func := Tryz.func36
    name := by decide
    body := by rfl
    mk_ := by rfl
    mkd := by rfl
    mkg := by rfl
    df := ⟨_, by rfl⟩
    dfd := by rfl
    dfg := by rfl
    pre := by rfl
    cpre := by
      intro p hp
      simp only [List.mem_cons, List.not_mem_nil, or_false] at hp
      rcases hp with rfl | rfl | rfl
      all_goals kernel_rfl
    cops := by kernel_rfl
    cpost := by kernel_rfl
    cres := by kernel_rfl
    nargs := by decide
    dn := by decide
    tn := by decide
    dst := by decide
    kty := ⟨none, by kernel_rfl, rfl⟩
    enter := fun v w => by unfold callFunc; simp [Tryz.func61, show Tryz.f61.body = some b2_parse_reading from rfl, show ¬ Tryz.f61.name = "runtime.NumGoroutine" from by decide]
    idle := idle_parse_reading
    takes := takes_parse_reading }
end
end Go.Proofs.YtfbcnpbhhooapaaGreatDoor.M

/- slices.Backward over ints: its contract: the values, from the last to the first. -/
namespace Go.Proofs.YtfbcnpbhhooapaaGreatDoor.Bk
open Go Go.RowKit Go.Shelf
attribute [local go_sem] Oper.semAt_some
/-- What has come when k rounds are over: f 0, .., f (k - 1). -/
def upto {α : Type} (f : Nat → α) (k : Nat) : List α := (List.range k).map f
theorem upto_succ {α : Type} (f : Nat → α) (k : Nat) : upto f (k + 1) = upto f k ++ [f k] := by simp [upto, List.range_succ]
theorem upto_length {α : Type} (f : Nat → α) (k : Nat) : (upto f k).length = k := by simp [upto]
/-- What the k-th round is handed: the index, the value. -/
def bk (zs : List Int) (k : Nat) : Int × Int := ((zs.length : Int) - 1 - k, zs[zs.length - 1 - k]?.getD 0)
/-- What a round keeps: what lies below n₀, and block Bs. -/
structure Kq (n₀ Bs : Nat) (W W' : World) : Prop where
  b : Below n₀ W W'
  k : W'.heap[Bs]? = W.heap[Bs]?
theorem Kq.refl (n₀ Bs : Nat) (W : World) : Kq n₀ Bs W W := ⟨Below.refl _ _, rfl⟩
theorem Kq.trans {n₀ Bs : Nat} {A B C : World} (h : Kq n₀ Bs A B) (k : Kq n₀ Bs B C) : Kq n₀ Bs A C := ⟨h.b.trans k.b, k.k.trans h.k⟩
theorem Kq.cell {n₀ Bs : Nat} {A B : World} (h : Kq n₀ Bs A B) : B.cell? ⟨Bs, 0, none⟩ = A.cell? ⟨Bs, 0, none⟩ := by simp [World.cell?, h.k]
theorem Kq.put {n₀ Bs : Nat} {w : World} (hn : n₀ ≤ w.heap.size) (hB : Bs < w.heap.size) (W : World) (l : Nat) (o o' : Obj) (hl : w.heap.size ≤ l) (h : W.heap[l]? = some o) (h1 : o.isCells = false) (h2 : o.isWalk = false) : Kq n₀ Bs W (W.putObj l o') :=
  ⟨belowK_b hn W l o o' hl h h1 h2, (belowK_b (w := w) (Nat.le_refl _) W l o o' hl h h1 h2).block Bs hB⟩
set_option maxRecDepth 100000 in
set_option maxHeartbeats 4000000 in
theorem back1_in (F : Fence) (n : Nat) (h8 : F.fn 117) (hro : F.round = none) (hn : 1 ≤ n) (l Bs n₀ b off cap : Nat) (zs : List Int) (hne : 0 < zs.length) (hreach : zs.length * 8 ≤ 140737488351232) (hb : b < n₀) (J Jx : List (Int × Int) → World → Prop)
    (hY : ∀ pre x W, J pre W → pre.length < zs.length → YieldAt F (n - 1) Tryz.prog l #[.int .i64 x.1, .int .i64 x.2] W fun e W' =>
      (e = .returned (.bool true) ∧ J (pre ++ [x]) W' ∧ Kq n₀ Bs W W') ∨ (e = .returned (.bool false) ∧ Jx (pre ++ [x]) W'))
    (W : World) (hBs : W.cell? ⟨Bs, 0, none⟩ = some (.slice (some ⟨b, off, none⟩) zs.length cap)) (hc : ∀ j, j < zs.length → W.cell? ⟨b, off + j, none⟩ = some (.int .i64 (zs[j]?.getD 0))) (h0 : J [] W) :
    CallsIn F n Tryz.prog 117 #[.func (.yield l) #[] #[], .pointer (some ⟨Bs, 0, none⟩)] W fun e W' => (∃ v, e = .returned v) ∧
      ((∃ ys, ys = upto (bk zs) zs.length ∧ J ys W') ∨ (∃ pre, (∃ k, k ≤ zs.length ∧ pre = upto (bk zs) k) ∧ Jx pre W')) := by
  refine callsIn_of_wp Tryz.func117 rfl h8 ?_ hro
  simp only [Tryz.ntmps117, List.size_toArray, List.length_cons, List.length_nil, Nat.reduceAdd, Nat.reduceSub, Array.replicate_succ, Array.replicate_zero, List.push_toArray, List.append_toArray, List.nil_append, List.cons_append]
  gi_wp2
  gi_loopw [3] (fun i wr => ∃ k : Nat, k ≤ zs.length ∧ i = .int .i64 ((zs.length : Int) - 1 - k) ∧ J (upto (bk zs) k) wr ∧ Kq n₀ Bs W wr)
    (fun i _ => (intOf i + 1).toNat)
  case atStart => exact ⟨0, Nat.zero_le _, by simp, h0, Kq.refl _ _ _⟩
  case round =>
    obtain ⟨k, hk, rfl, hJs, hnx⟩ := hrel
    have hBs' := hnx.cell.trans hBs
    have hcx : k < zs.length → wr.cell? ⟨b, off + (zs.length - 1 - k), none⟩ = some (.int .i64 (zs[zs.length - 1 - k]?.getD 0)) := fun h => (hnx.b.cell (p := ⟨b, off + (zs.length - 1 - k), none⟩) hb).trans (hc _ (by omega))
    by_cases hlt : k < zs.length
    · obtain ⟨fn, tmps, assign, body, hy, hR⟩ := hY _ (bk zs k) wr hJs (by rw [upto_length]; exact hlt)
      dsimp only [bk] at hy
      have hcx' := hcx hlt
      gi_wp2
      refine hR.mono ?_
      rintro e W3 (⟨rfl, hJ3, hk3⟩ | ⟨rfl, hJx3⟩)
      · -- the round goes on
        gi_wp2
        go_roundw
        case rel => exact ⟨k + 1, by omega, by simp; omega, by rw [upto_succ]; exact hJ3, hnx.trans hk3⟩
        case measure => simp [intOf]; omega
      · gi_wp2
        refine bodyPost_ret (results_none rfl _ _ _) rfl ?_
        exact ⟨⟨_, rfl⟩, .inr ⟨_, ⟨k + 1, by omega, (upto_succ _ _).symm⟩, hJx3⟩⟩
    · obtain rfl : k = zs.length := by omega
      gi_wp2
      go_end0
      exact ⟨⟨_, rfl⟩, .inl ⟨_, rfl, hJs⟩⟩
set_option maxRecDepth 100000 in
set_option maxHeartbeats 4000000 in
/-- .. where there is nothing: no round. -/
theorem back0_in (F : Fence) (n : Nat) (h8 : F.fn 117) (hro : F.round = none) (l Bs : Nat) (A : Option Addr) (cap : Nat) (J : List (Int × Int) → World → Prop) (W : World) (hBs : W.cell? ⟨Bs, 0, none⟩ = some (.slice A 0 cap)) (h0 : J [] W) :
    CallsIn F n Tryz.prog 117 #[.func (.yield l) #[] #[], .pointer (some ⟨Bs, 0, none⟩)] W fun e W' => (∃ v, e = .returned v) ∧ J [] W' := by
  refine callsIn_of_wp Tryz.func117 rfl h8 ?_ hro
  simp only [Tryz.ntmps117, List.size_toArray, List.length_cons, List.length_nil, Nat.reduceAdd, Nat.reduceSub, Array.replicate_succ, Array.replicate_zero, List.push_toArray, List.append_toArray, List.nil_append, List.cons_append]
  gi_wp2
  gi_loopw [3] (fun i wr => i = .int .i64 (-1) ∧ J [] wr) (fun _ _ => 0)
  case atStart => exact ⟨rfl, h0⟩
  case round =>
    obtain ⟨rfl, hJs⟩ := hrel
    gi_wp2
    go_end0
    exact ⟨⟨_, rfl⟩, hJs⟩
set_option maxHeartbeats 1000000 in
/-- slices.Backward(s): the slice value is boxed; the function value captures the box. -/
theorem backward_in (F : Fence) (n : Nat) (h5 : F.fn 75) (hro : F.round = none) (a : Option Addr) (len cap : Nat) (w : World) :
    CallsIn F n Tryz.prog 75 #[.slice a len cap] w fun e w' => e = .returned (.func (.func 117) #[] #[.pointer (some ⟨w.heap.size, 0, none⟩)]) ∧ w' = w.alloc (.cells #[.slice a len cap] 39) := by
  refine callsIn_of_wp Tryz.func75 rfl h5 ?_ hro
  simp only [Tryz.ntmps75, List.size_toArray, List.length_cons, List.length_nil, Nat.reduceAdd, Nat.reduceSub, Array.replicate_succ, Array.replicate_zero, List.push_toArray, List.append_toArray, List.nil_append, List.cons_append]
  gi_wp2
  go_ret
  exact ⟨rfl, rfl⟩
/-- The slice value sv holds the ints zs. -/
def Ints (n₀ : Nat) (W : World) (sv : Value) (zs : List Int) : Prop :=
  (∃ A cap, sv = .slice A 0 cap ∧ zs = []) ∨ (0 < zs.length ∧ ∃ b off cap, sv = .slice (some ⟨b, off, none⟩) zs.length cap ∧ b < n₀ ∧ ∀ j, j < zs.length → W.cell? ⟨b, off + j, none⟩ = some (.int .i64 (zs[j]?.getD 0)))
theorem Ints.below {n₀ : Nat} {A B : World} (h : Below n₀ A B) {sv : Value} {zs : List Int} : Ints n₀ A sv zs → Ints n₀ B sv zs
  | .inl e => .inl e
  | .inr ⟨h0, b, off, cap, e, hb, hc⟩ => .inr ⟨h0, b, off, cap, e, hb, fun j hj => (h.cell (p := ⟨b, off + j, none⟩) hb).trans (hc j hj)⟩
theorem back_stops (F : Fence) (n : Nat) (h8 : F.fn 117) (hro : F.round = none) (hn : 1 ≤ n) (Bs n₀ : Nat) (sv : Value) (zs : List Int) (hreach : zs.length * 8 ≤ 140737488351232) (w : World) (hBs : Bs < w.heap.size) (hn₀ : n₀ ≤ w.heap.size)
    (hc : w.cell? ⟨Bs, 0, none⟩ = some sv) (hI : Ints n₀ w sv zs) :
    SeqStopsK F n Tryz.prog 117 #[.pointer (some ⟨Bs, 0, none⟩)] (fun x : Int × Int => #[Value.int .i64 x.1, Value.int .i64 x.2]) (Kq n₀ Bs) (fun ys => ys = upto (bk zs) zs.length)
      (fun pre => ∃ k, k ≤ zs.length ∧ pre = upto (bk zs) k) zs.length w := fun l J Jx W hW _ _ hY h0 => by
  have hc' := (hW.cell (p := ⟨Bs, 0, none⟩) hBs).trans hc
  rcases hI.below (hW.mono hn₀) with ⟨A, cap, rfl, rfl⟩ | ⟨hp, b, off, cap, rfl, hb, hcs⟩
  · exact (back0_in F n h8 hro l Bs A cap J W hc' h0).mono fun e W' ⟨he, hj⟩ => ⟨he, .inl ⟨_, rfl, hj⟩⟩
  · exact back1_in F n h8 hro hn l Bs n₀ b off cap zs hp hreach hb J Jx hY W hc' hcs h0
end Go.Proofs.YtfbcnpbhhooapaaGreatDoor.Bk

/- parse.begin: what it yields, if kids, plain and itself (for what stands ahead) yield what is told. -/
namespace Go.Proofs.YtfbcnpbhhooapaaGreatDoor.Bk
open Go Go.RowKit Go.Shelf
attribute [local go_sem] Oper.semAt_some
/-- The kids, from the last to the first: each ends where the one behind it begins. -/
def run (o : Int → Int) : Int → List Int → Int
  | f, [] => f
  | f, k :: ks => if k < 0 ∨ k ≠ f - 1 then -1 else if o k < 0 then -1 else run o (o k) ks
theorem upto_snd (zs : List Int) : ∀ k, k ≤ zs.length → (upto (bk zs) k).map (·.2) = zs.reverse.take k
  | 0, _ => by simp [upto]
  | k + 1, h => by
    rw [upto_succ, List.map_append, upto_snd zs k (by omega), List.take_add_one, List.getElem?_reverse (by omega)]
    have : zs.length - 1 - k < zs.length := by omega
    simp [bk, this]
theorem keeps_below {W W' : World} (h : Below W.heap.size W W') : KeepsOthers W W' := ⟨h.size, fun j o hj _ => by
  rw [h.block j (Array.getElem?_eq_some_iff.1 hj).1]; exact hj⟩
/-- The boxes of a call. -/
structure Bx (w : World) (lv r : Value) (nd : Array Value) (W : World) : Prop where
  below : Below w.heap.size w W
  size : w.heap.size + 3 ≤ W.heap.size
  h2 : W.heap[w.heap.size]? = some (.cells #[lv] 35 (0, 0))
  h4 : W.heap[w.heap.size + 1]? = some (.cells #[r] 3 (0, 0))
  h5 : W.heap[w.heap.size + 2]? = some (.cells nd 41 (0, 0))
theorem Bx.on {w : World} {lv r : Value} {nd : Array Value} {W W' : World} (h : Bx w lv r nd W) (hb : Below (w.heap.size + 3) W W') : Bx w lv r nd W' :=
  ⟨h.below.trans (hb.mono (by omega)), Nat.le_trans h.size hb.size, (hb.block _ (by omega)).trans h.h2, (hb.block _ (by omega)).trans h.h4, (hb.block _ (by omega)).trans h.h5⟩
theorem Bx.c2 {w : World} {lv r : Value} {nd : Array Value} {W : World} (h : Bx w lv r nd W) : W.cell? ⟨w.heap.size, 0, none⟩ = some lv := by simp [World.cell?, h.h2]
theorem Bx.c4 {w : World} {lv r : Value} {nd : Array Value} {W : World} (h : Bx w lv r nd W) : W.cell? ⟨w.heap.size + 1, 0, none⟩ = some r := by simp [World.cell?, h.h4]
theorem Bx.f4 {w : World} {lv r : Value} {nd : Array Value} {W : World} (h : Bx w lv r nd W) : W.frozen? ⟨w.heap.size + 1, 0, none⟩ = false := by simp [World.frozen?, h.h4]
theorem Bx.c5 {w : World} {lv r : Value} {nd : Array Value} {W : World} (h : Bx w lv r nd W) (j : Nat) : W.cell? ⟨w.heap.size + 2, j, none⟩ = nd[j]? := by simp [World.cell?, h.h5]
theorem Bx.new (w : World) (lv r : Value) (nd : Array Value) : Bx w lv r nd (((w.alloc (.cells #[lv] 35)).alloc (.cells #[r] 3)).alloc (.cells nd 41)) := by
  refine ⟨(((Below.refl _ w).alloc (Nat.le_refl _) _).alloc (by simp) _).alloc (by simp; omega) _, by simp, ?_, ?_, ?_⟩
  · exact (Below.heap_alloc _ _ _ (by simp; omega)).trans ((Below.heap_alloc _ _ _ (by simp)).trans (World.alloc_heap_new w _))
  · refine (Below.heap_alloc _ _ _ (by simp)).trans ?_
    have := World.alloc_heap_new (w.alloc (.cells #[lv] 35)) (.cells #[r] 3)
    rwa [World.size_alloc] at this
  · have := World.alloc_heap_new ((w.alloc (.cells #[lv] 35)).alloc (.cells #[r] 3)) (.cells nd 41)
    rwa [World.size_alloc, World.size_alloc] at this
/-- Between two rounds. -/
structure Ls (w : World) (bf : Nat) (lv sv : Value) (r f : Int) (W : World) : Prop where
  below : Below w.heap.size w W
  lt : w.heap.size + 2 < bf
  l : Boxed W w.heap.size 35 lv
  r : Boxed W (w.heap.size + 1) 3 (.int .i64 r)
  f : Boxed W bf 3 (.int .i64 f)
  s : Boxed W (bf + 1) 39 sv
theorem Ls.own {w : World} {bf : Nat} {lv sv : Value} {r f : Int} {W W' : World} {B : Nat} {row : Option Nat} (h : Ls w bf lv sv r f W) (hB : w.heap.size ≤ B) (hg : W.grownBy W' row) (hr : ∀ r, row = some r → B ≤ r ∧ ∃ o : Obj, W.heap[r]? = some o ∧ o.isCells = false) : Ls w bf lv sv r f W' := by
  have hb : ∀ (B : Nat) (t : TypeId) (v : Value), Boxed W B t v → Boxed W' B t v := fun B t v h => h.kept hg (fun e => by
    obtain ⟨_, o, ho, hc⟩ := hr B e.symm
    rw [show W.heap[B]? = _ from h] at ho; cases ho; cases hc)
  exact ⟨h.below.grown hg h.below.size (fun k e => Nat.le_trans hB (hr k e).1), h.lt, hb _ _ _ h.l, hb _ _ _ h.r, hb _ _ _ h.f, hb _ _ _ h.s⟩
theorem Ls.setR {w : World} {bf : Nat} {lv sv : Value} {r f : Int} {W : World} (h : Ls w bf lv sv r f W) (r' : Int) : Ls w bf lv sv r' f (W.setCell ⟨w.heap.size + 1, 0, none⟩ (.int .i64 r')) :=
  have hl := h.lt
  ⟨h.below.setCell (p := ⟨w.heap.size + 1, 0, none⟩) (by simp) _, h.lt, h.l.other (by omega) _, h.r.set _, h.f.other (by omega) _, h.s.other (by omega) _⟩
theorem Ls.setF {w : World} {bf : Nat} {lv sv : Value} {r f : Int} {W : World} (h : Ls w bf lv sv r f W) (f' : Int) : Ls w bf lv sv r f' (W.setCell ⟨bf, 0, none⟩ (.int .i64 f')) :=
  have hl := h.lt
  ⟨h.below.setCell (p := ⟨bf, 0, none⟩) (by simp; omega) _, h.lt, h.l.other (by omega) _, h.r.other (by omega) _, h.f.set _, h.s.other (by omega) _⟩
theorem Ls.on {w : World} {bf : Nat} {lv sv : Value} {r f : Int} {W W' : World} (h : Ls w bf lv sv r f W) (hb : Below W.heap.size W W') : Ls w bf lv sv r f W' :=
  have k : ∀ (B : Nat) (t : TypeId) (v : Value), Boxed W B t v → Boxed W' B t v := fun B t v h => (hb.block B h.lt).trans h
  ⟨h.below.trans (hb.mono h.below.size), h.lt, k _ _ _ h.l, k _ _ _ h.r, k _ _ _ h.f, k _ _ _ h.s⟩
theorem Ls.kq {w : World} {bf : Nat} {lv sv : Value} {r f r' f' : Int} {W W' : World} (h : Ls w bf lv sv r f W) (h' : Ls w bf lv sv r' f' W') (hb : Below w.heap.size W W') : Kq w.heap.size (bf + 1) W W' := ⟨hb, (show W'.heap[bf + 1]? = _ from h'.s).trans (show W.heap[bf + 1]? = _ from h.s).symm⟩
def LI (w : World) (bf : Nat) (lv sv : Value) (o : Int → Int) (e : Nat) (pre : List (Int × Int)) (W : World) : Prop := ∃ f : Int, Ls w bf lv sv 0 f W ∧ 0 ≤ f ∧ f ≤ e ∧ ∀ rest, run o e (pre.map (·.2) ++ rest) = run o f rest
def LX (w : World) (bf : Nat) (lv sv : Value) (o : Int → Int) (e : Nat) (c : Code) (pre : List (Int × Int)) (W : World) : Prop := ∃ f : Int, Ls w bf lv sv (-1) f W ∧ c = .ret ∧ ∀ rest, run o e (pre.map (·.2) ++ rest) = -1
theorem LI.own {w : World} {bf : Nat} {lv sv : Value} {o : Int → Int} {e B : Nat} (hB : w.heap.size ≤ B) : OwnFrom B (LI w bf lv sv o e) := fun s W W' row ⟨f, h1, h2⟩ hg hr => ⟨f, h1.own hB hg hr, h2⟩
theorem LX.own {w : World} {bf : Nat} {lv sv : Value} {o : Int → Int} {e B : Nat} (hB : w.heap.size ≤ B) (c : Code) : OwnFrom B (LX w bf lv sv o e c) := fun s W W' row ⟨f, h1, h2⟩ hg hr => ⟨f, h1.own hB hg hr, h2⟩
set_option maxRecDepth 100000 in
set_option maxHeartbeats 4000000 in
theorem begin_in (w : World) (bl ol ln cp e : Nat) (kind num : Int) (text : ByteArray) (A3 A4 : Option Addr) (l3 c3 l4 c4 : Nat) (ks : List Int) (kk : Int) (pp : Bool) (o : Int → Int) (res : Int)
    (hbl : bl < w.heap.size) (he : e < ln) (hln : ln ≤ 1000000000) (hlc : ln ≤ cp)
    (q0 : w.cell? ⟨bl, ol + e * 5, none⟩ = some (.int .i64 kind)) (q1 : w.cell? ⟨bl, ol + e * 5 + 1, none⟩ = some (.int .i64 num)) (q2 : w.cell? ⟨bl, ol + e * 5 + 2, none⟩ = some (.string text)) (q3 : w.cell? ⟨bl, ol + e * 5 + 3, none⟩ = some (.slice A3 l3 c3)) (q4 : w.cell? ⟨bl, ol + e * 5 + 4, none⟩ = some (.slice A4 l4 c4))
    (hl4 : l4 = ks.length) (hks : Ints w.heap.size w (.slice A4 l4 c4) ks) (hreach : ks.length ≤ 1000000000)
    (hK : ∀ W, Below w.heap.size w W → Calls Tryz.prog 73 #[.int .i64 kind] W fun x W' => x = .returned (.int .i64 kk) ∧ Below W.heap.size W W')
    (hP : (kk = ks.length ∨ kk = -1) → ∀ W, Below w.heap.size w W → Calls Tryz.prog 74 #[.agg #[.int .i64 kind, .int .i64 num, .string text, .slice A3 l3 c3, .slice A4 l4 c4]] W fun x W' => x = .returned (.bool pp) ∧ Below W.heap.size W W')
    (hB : (kk = ks.length ∨ kk = -1) → pp = true → ∀ k : Int, 0 ≤ k → k < e → o k ≤ k ∧ ∀ W, Below w.heap.size w W → Calls Tryz.prog 47 #[.slice (some ⟨bl, ol, none⟩) ln cp, .int .i64 k] W fun x W' => x = .returned (.int .i64 (o k)) ∧ Below W.heap.size W W')
    (hr : res = if (kk ≠ ks.length ∧ kk ≠ -1) ∨ pp = false then -1 else run o e ks.reverse) :
    Calls Tryz.prog 47 #[.slice (some ⟨bl, ol, none⟩) ln cp, .int .i64 (e : Int)] w fun x w' =>
      x = .returned (.int .i64 res) ∧ Below w.heap.size w w' := by
  subst hl4
  refine (callsIn_wide (n := 9)).1 ?_
  refine callsIn_of_wp_marks Tryz.func47 rfl trivial ?_ rfl
  simp only [Tryz.ntmps47, List.size_toArray, List.length_cons, List.length_nil, Nat.reduceAdd, Nat.reduceSub, Array.replicate_succ, Array.replicate_zero, List.push_toArray, List.append_toArray, List.nil_append, List.cons_append]
  gi_wp2
  refine ⟨trivial, ?_⟩
  have hx0 := Bx.new w (.slice (some ⟨bl, ol, none⟩) ln cp) (.int .i64 0) #[.int .i64 kind, .int .i64 num, .string text, .slice A3 l3 c3, .slice A4 ks.length c4]
  refine (callsIn_wide.2 (hK _ hx0.below)).mono ?_
  rintro x w1 ⟨rfl, hb1⟩
  have hx1 := hx0.on (hb1.mono (by simp))
  have a2 := hx1.c2
  have a4 := hx1.c4
  have f4 := hx1.f4
  have a50 := hx1.c5 0
  have a51 := hx1.c5 1
  have a52 := hx1.c5 2
  have a53 := hx1.c5 3
  have a54 := hx1.c5 4
  simp only [List.getElem?_toArray, List.getElem?_cons_zero, List.getElem?_cons_succ] at a50 a51 a52 a53 a54
  gi_wp2
  · refine ⟨trivial, ?_⟩
    refine ((callsIn_wide (n := 8)).2 (hP (.inl (by assumption)) w1 hx1.below)).mono ?_
    rintro x w2 ⟨rfl, hb2⟩
    have hx2 := hx1.on (hb2.mono hx1.size)
    have d2 := hx2.c2
    have d4 := hx2.c4
    have g4 := hx2.f4
    have d54 := hx2.c5 4
    simp only [List.getElem?_toArray, List.getElem?_cons_zero, List.getElem?_cons_succ] at d54
    cases pp with
    | false =>
      gi_wp2
      have hb4 : Boxed w2 (w.heap.size + 1) 3 (.int .i64 0) := hx2.h4
      have hc5 := (hb4.set (.int .i64 (-1))).cell
      refine ⟨.int .i64 (-1), ?_, by rw [hr]; simp, hx2.below.setCell (p := ⟨w.heap.size + 1, 0, none⟩) (by simp) _⟩
      simp [results, Tryz.f47, go_sem, hc5]
    | true =>
      have hx3 := hx2.on (((Below.refl _ w2).alloc hx2.size (.cells #[.int .i64 (e : Int)] 3)))
      have hz : w.heap.size + 1 + 1 < w2.heap.size := by have := hx2.size; omega
      have e54 := hx3.c5 4
      simp only [List.getElem?_toArray, List.getElem?_cons_zero, List.getElem?_cons_succ] at e54
      gi_wp2
      refine ⟨trivial, ?_⟩
      refine (backward_in Fence.wide 8 trivial rfl A4 ks.length c4 _).mono ?_
      rintro x w4 ⟨rfl, rfl⟩
      gi_wp2
      have hW2 := hx2.below.size
      have hz2 := hx2.size
      obtain ⟨W0, hW0⟩ : ∃ W0, (w2.alloc (.cells #[.int .i64 (e : Int)] 3)).alloc (.cells #[.slice A4 ks.length c4] 39) = W0 := ⟨_, rfl⟩
      have hs0 : W0.heap.size = w2.heap.size + 2 := by rw [← hW0]; simp
      have hK0 : Boxed W0 (w2.heap.size + 1) 39 (.slice A4 ks.length c4) := by
        rw [← hW0]
        have := Boxed.new (w2.alloc (.cells #[.int .i64 (e : Int)] 3)) 39 (.slice A4 ks.length c4)
        rwa [World.size_alloc] at this
      have hF0 : Boxed W0 w2.heap.size 3 (.int .i64 (e : Int)) := by
        rw [← hW0]
        exact (Boxed.new w2 3 (.int .i64 (e : Int))).alloc _
      have hb0 : Below w2.heap.size w2 W0 := by
        rw [← hW0]
        exact ((Below.refl _ w2).alloc (Nat.le_refl _) _).alloc (by simp) _
      have hx4 := hx2.on (hb0.mono hz2)
      have hL0 : Ls w w2.heap.size (.slice (some ⟨bl, ol, none⟩) ln cp) (.slice A4 ks.length c4) 0 e W0 := ⟨hx4.below, by omega, hx4.h2, hx4.h4, hF0, hK0⟩
      rw [hW0]
      refine wpIn_rangeFunc_ownG (w0 := W0) rfl (by decide) (gf := 117) (lb := #[.pointer (some ⟨w2.heap.size + 1, 0, none⟩)]) rfl trivial (enters_of Tryz.func117 (by kernel_rfl) rfl)
        (back_stops Fence.wide 8 trivial rfl (by decide) (w2.heap.size + 1) w.heap.size _ ks (by omega) W0 (by omega) (by omega) hK0.cell (hks.below hx4.below)) (fun h k => Kq.trans h k) (fun W l o o' => Kq.put (by omega) (by omega) W l o o') (Below.refl _ _) (fun _ => rfl)
        (LI w w2.heap.size (.slice (some ⟨bl, ol, none⟩) ln cp) (.slice A4 ks.length c4) o e)
        (LX w w2.heap.size (.slice (some ⟨bl, ol, none⟩) ln cp) (.slice A4 ks.length c4) o e)
        (LI.own (by omega)) (LX.own (by omega)) ⟨e, hL0, by omega, by omega, fun rest => rfl⟩ ?a1 ?assign ?body ?done ?stop
      case assign =>
        intro l x W K hK
        gi_wp2
        exact hK
      case body =>
        rintro l pre ⟨x1, x2⟩ W ⟨f, hL, hf0, hfe, hrun⟩ _
        have b2 := hL.l.cell
        have b4 := hL.r.cell
        have b4f := hL.r.frozen
        have b7 := hL.f.cell
        have b7f := hL.f.frozen
        have stop : (x2 < 0 ∨ x2 ≠ f - 1) → ∀ rest, run o e ((pre ++ [(x1, x2)]).map (·.2) ++ rest) = -1 := fun h rest => by
          rw [List.map_append, List.append_assoc, hrun]
          simp only [List.map_cons, List.map_nil, List.cons_append, List.nil_append, run]
          rw [if_pos h]
        gi_wp2
        · have hq : x2 < 0 ∨ (x2 != f - 1) = true := by assumption
          exact ⟨(KeepsOthers.setCell _ _ _).from _, f, hL.setR _, rfl, stop (by simpa using hq)⟩
        · have hq : 0 ≤ x2 ∧ (x2 != f - 1) = false := by assumption
          have hx : x2 = f - 1 := by simpa using hq.2
          have h0 : 0 ≤ x2 := hq.1
          clear hq
          subst hx
          obtain ⟨ho, hc⟩ := hB (.inl (by assumption)) (by trivial) (f - 1) h0 (by omega)
          refine ⟨trivial, ?_⟩
          refine (CallsIn.inRound l ((callsIn_wide (n := 6)).2 (hc W hL.below))).mono ?_
          rintro y W5 ⟨rfl, hb5⟩
          have hL5 := hL.on hb5
          have hL6 := hL5.setF (o (f - 1))
          have c7 := hL5.f.cell
          have c7f := hL5.f.frozen
          have c8 := hL6.f.cell
          have c4 := hL6.r.cell
          have c45 := hL5.r.cell
          have c4g := hL5.r.frozen
          have c4f := hL6.r.frozen
          have go : ∀ rest, run o e ((pre ++ [(x1, f - 1)]).map (·.2) ++ rest) = if o (f - 1) < 0 then -1 else run o (o (f - 1)) rest := fun rest => by
            rw [List.map_append, List.append_assoc, hrun]
            simp only [List.map_cons, List.map_nil, List.cons_append, List.nil_append, run]
            rw [if_neg (by omega)]
          have keep : KeepsOthers W (W5.setCell ⟨w2.heap.size, 0, none⟩ (.int .i64 (o (f - 1)))) := (keeps_below hb5).trans (KeepsOthers.setCell _ _ _)
          have bel : Below w.heap.size W (W5.setCell ⟨w2.heap.size, 0, none⟩ (.int .i64 (o (f - 1)))) := (hb5.mono hL.below.size).setCell (p := ⟨w2.heap.size, 0, none⟩) (by simp; omega) _
          gi_wp2
          · have hn : o (f - 1) < 0 := by assumption
            exact ⟨(keep.trans (KeepsOthers.setCell _ _ _)).from _, _, hL6.setR _, rfl, fun rest => by rw [go, if_pos hn]⟩
          · have hn : 0 ≤ o (f - 1) := by assumption
            exact ⟨keep.from _, hL.kq hL6 bel, _, hL6, hn, by omega, fun rest => by rw [go, if_neg (by omega)]⟩
        · exact ⟨(KeepsOthers.setCell _ _ _).from _, f, hL.setR _, rfl, stop (.inl (by assumption))⟩
      case done =>
        rintro D ys W hD rfl ⟨f, hL, hf0, hfe, hrun⟩ hK
        have b4 := hL.r.cell
        have b4f := hL.r.frozen
        have b7 := hL.f.cell
        have hL6 := hL.setR f
        have hres : run o e ks.reverse = f := by
          have := hrun []
          rw [upto_snd ks ks.length (Nat.le_refl _), List.append_nil, List.take_of_length_le (by simp)] at this
          exact this
        gi_wp2
        have hK' := (KeepsOthers.setCell W ⟨w.heap.size + 1, 0, none⟩ (.int .i64 f)).same D _ hK rfl
        refine ⟨by simp, .inl ⟨_, _, rfl, run_takeDeferred hK', ?_⟩⟩
        have hc5 := cell_kept hL6.r.cell (grownBy_putObj' _ D (.deferred none)) (fun r e => by cases e; exact ⟨_, hK', rfl⟩)
        have e0 : res = f := by
          rw [hr, if_neg, hres]
          rintro (h | h)
          · rcases (show kk = ks.length ∨ kk = -1 from (.inl (by assumption))) with e | e
            · exact h.1 e
            · exact h.2 e
          · cases h
        refine ⟨.int .i64 f, ?_, by rw [e0], hL6.below.trans (belowK_b (w := w) (Nat.le_refl _) _ D _ _ (by omega) hK' rfl rfl)⟩
        simp [results, Tryz.f47, go_sem, hc5]
      case stop =>
        rintro D c pre W hD ⟨k, hk, rfl⟩ ⟨f, hL, rfl, hrun⟩ hK
        have hres : run o e ks.reverse = -1 := by
          have := hrun (ks.reverse.drop k)
          rw [upto_snd ks k hk, List.take_append_drop] at this
          exact this
        gi_wp2
        refine ⟨by simp, .inl ⟨_, _, rfl, run_takeDeferred hK, ?_⟩⟩
        have hc5 := cell_kept hL.r.cell (grownBy_putObj' _ D (.deferred none)) (fun r e => by cases e; exact ⟨_, hK, rfl⟩)
        have e0 : res = -1 := by
          rw [hr, hres]
          split <;> rfl
        refine ⟨.int .i64 (-1), ?_, by rw [e0], hL.below.trans (belowK_b (w := w) (Nat.le_refl _) _ D _ _ (by omega) hK rfl rfl)⟩
        simp [results, Tryz.f47, go_sem, hc5]
  · refine ⟨trivial, ?_⟩
    refine ((callsIn_wide (n := 8)).2 (hP (.inr (by assumption)) w1 hx1.below)).mono ?_
    rintro x w2 ⟨rfl, hb2⟩
    have hx2 := hx1.on (hb2.mono hx1.size)
    have d2 := hx2.c2
    have d4 := hx2.c4
    have g4 := hx2.f4
    have d54 := hx2.c5 4
    simp only [List.getElem?_toArray, List.getElem?_cons_zero, List.getElem?_cons_succ] at d54
    cases pp with
    | false =>
      gi_wp2
      have hb4 : Boxed w2 (w.heap.size + 1) 3 (.int .i64 0) := hx2.h4
      have hc5 := (hb4.set (.int .i64 (-1))).cell
      refine ⟨.int .i64 (-1), ?_, by rw [hr]; simp, hx2.below.setCell (p := ⟨w.heap.size + 1, 0, none⟩) (by simp) _⟩
      simp [results, Tryz.f47, go_sem, hc5]
    | true =>
      have hx3 := hx2.on (((Below.refl _ w2).alloc hx2.size (.cells #[.int .i64 (e : Int)] 3)))
      have hz : w.heap.size + 1 + 1 < w2.heap.size := by have := hx2.size; omega
      have e54 := hx3.c5 4
      simp only [List.getElem?_toArray, List.getElem?_cons_zero, List.getElem?_cons_succ] at e54
      gi_wp2
      refine ⟨trivial, ?_⟩
      refine (backward_in Fence.wide 8 trivial rfl A4 ks.length c4 _).mono ?_
      rintro x w4 ⟨rfl, rfl⟩
      gi_wp2
      have hW2 := hx2.below.size
      have hz2 := hx2.size
      obtain ⟨W0, hW0⟩ : ∃ W0, (w2.alloc (.cells #[.int .i64 (e : Int)] 3)).alloc (.cells #[.slice A4 ks.length c4] 39) = W0 := ⟨_, rfl⟩
      have hs0 : W0.heap.size = w2.heap.size + 2 := by rw [← hW0]; simp
      have hK0 : Boxed W0 (w2.heap.size + 1) 39 (.slice A4 ks.length c4) := by
        rw [← hW0]
        have := Boxed.new (w2.alloc (.cells #[.int .i64 (e : Int)] 3)) 39 (.slice A4 ks.length c4)
        rwa [World.size_alloc] at this
      have hF0 : Boxed W0 w2.heap.size 3 (.int .i64 (e : Int)) := by
        rw [← hW0]
        exact (Boxed.new w2 3 (.int .i64 (e : Int))).alloc _
      have hb0 : Below w2.heap.size w2 W0 := by
        rw [← hW0]
        exact ((Below.refl _ w2).alloc (Nat.le_refl _) _).alloc (by simp) _
      have hx4 := hx2.on (hb0.mono hz2)
      have hL0 : Ls w w2.heap.size (.slice (some ⟨bl, ol, none⟩) ln cp) (.slice A4 ks.length c4) 0 e W0 := ⟨hx4.below, by omega, hx4.h2, hx4.h4, hF0, hK0⟩
      rw [hW0]
      refine wpIn_rangeFunc_ownG (w0 := W0) rfl (by decide) (gf := 117) (lb := #[.pointer (some ⟨w2.heap.size + 1, 0, none⟩)]) rfl trivial (enters_of Tryz.func117 (by kernel_rfl) rfl)
        (back_stops Fence.wide 8 trivial rfl (by decide) (w2.heap.size + 1) w.heap.size _ ks (by omega) W0 (by omega) (by omega) hK0.cell (hks.below hx4.below)) (fun h k => Kq.trans h k) (fun W l o o' => Kq.put (by omega) (by omega) W l o o') (Below.refl _ _) (fun _ => rfl)
        (LI w w2.heap.size (.slice (some ⟨bl, ol, none⟩) ln cp) (.slice A4 ks.length c4) o e)
        (LX w w2.heap.size (.slice (some ⟨bl, ol, none⟩) ln cp) (.slice A4 ks.length c4) o e)
        (LI.own (by omega)) (LX.own (by omega)) ⟨e, hL0, by omega, by omega, fun rest => rfl⟩ ?a2 ?assign ?body ?done ?stop
      case assign =>
        intro l x W K hK
        gi_wp2
        exact hK
      case body =>
        rintro l pre ⟨x1, x2⟩ W ⟨f, hL, hf0, hfe, hrun⟩ _
        have b2 := hL.l.cell
        have b4 := hL.r.cell
        have b4f := hL.r.frozen
        have b7 := hL.f.cell
        have b7f := hL.f.frozen
        have stop : (x2 < 0 ∨ x2 ≠ f - 1) → ∀ rest, run o e ((pre ++ [(x1, x2)]).map (·.2) ++ rest) = -1 := fun h rest => by
          rw [List.map_append, List.append_assoc, hrun]
          simp only [List.map_cons, List.map_nil, List.cons_append, List.nil_append, run]
          rw [if_pos h]
        gi_wp2
        · have hq : x2 < 0 ∨ (x2 != f - 1) = true := by assumption
          exact ⟨(KeepsOthers.setCell _ _ _).from _, f, hL.setR _, rfl, stop (by simpa using hq)⟩
        · have hq : 0 ≤ x2 ∧ (x2 != f - 1) = false := by assumption
          have hx : x2 = f - 1 := by simpa using hq.2
          have h0 : 0 ≤ x2 := hq.1
          clear hq
          subst hx
          obtain ⟨ho, hc⟩ := hB (.inr (by assumption)) (by trivial) (f - 1) h0 (by omega)
          refine ⟨trivial, ?_⟩
          refine (CallsIn.inRound l ((callsIn_wide (n := 6)).2 (hc W hL.below))).mono ?_
          rintro y W5 ⟨rfl, hb5⟩
          have hL5 := hL.on hb5
          have hL6 := hL5.setF (o (f - 1))
          have c7 := hL5.f.cell
          have c7f := hL5.f.frozen
          have c8 := hL6.f.cell
          have c4 := hL6.r.cell
          have c45 := hL5.r.cell
          have c4g := hL5.r.frozen
          have c4f := hL6.r.frozen
          have go : ∀ rest, run o e ((pre ++ [(x1, f - 1)]).map (·.2) ++ rest) = if o (f - 1) < 0 then -1 else run o (o (f - 1)) rest := fun rest => by
            rw [List.map_append, List.append_assoc, hrun]
            simp only [List.map_cons, List.map_nil, List.cons_append, List.nil_append, run]
            rw [if_neg (by omega)]
          have keep : KeepsOthers W (W5.setCell ⟨w2.heap.size, 0, none⟩ (.int .i64 (o (f - 1)))) := (keeps_below hb5).trans (KeepsOthers.setCell _ _ _)
          have bel : Below w.heap.size W (W5.setCell ⟨w2.heap.size, 0, none⟩ (.int .i64 (o (f - 1)))) := (hb5.mono hL.below.size).setCell (p := ⟨w2.heap.size, 0, none⟩) (by simp; omega) _
          gi_wp2
          · have hn : o (f - 1) < 0 := by assumption
            exact ⟨(keep.trans (KeepsOthers.setCell _ _ _)).from _, _, hL6.setR _, rfl, fun rest => by rw [go, if_pos hn]⟩
          · have hn : 0 ≤ o (f - 1) := by assumption
            exact ⟨keep.from _, hL.kq hL6 bel, _, hL6, hn, by omega, fun rest => by rw [go, if_neg (by omega)]⟩
        · exact ⟨(KeepsOthers.setCell _ _ _).from _, f, hL.setR _, rfl, stop (.inl (by assumption))⟩
      case done =>
        rintro D ys W hD rfl ⟨f, hL, hf0, hfe, hrun⟩ hK
        have b4 := hL.r.cell
        have b4f := hL.r.frozen
        have b7 := hL.f.cell
        have hL6 := hL.setR f
        have hres : run o e ks.reverse = f := by
          have := hrun []
          rw [upto_snd ks ks.length (Nat.le_refl _), List.append_nil, List.take_of_length_le (by simp)] at this
          exact this
        gi_wp2
        have hK' := (KeepsOthers.setCell W ⟨w.heap.size + 1, 0, none⟩ (.int .i64 f)).same D _ hK rfl
        refine ⟨by simp, .inl ⟨_, _, rfl, run_takeDeferred hK', ?_⟩⟩
        have hc5 := cell_kept hL6.r.cell (grownBy_putObj' _ D (.deferred none)) (fun r e => by cases e; exact ⟨_, hK', rfl⟩)
        have e0 : res = f := by
          rw [hr, if_neg, hres]
          rintro (h | h)
          · rcases (show kk = ks.length ∨ kk = -1 from (.inr (by assumption))) with e | e
            · exact h.1 e
            · exact h.2 e
          · cases h
        refine ⟨.int .i64 f, ?_, by rw [e0], hL6.below.trans (belowK_b (w := w) (Nat.le_refl _) _ D _ _ (by omega) hK' rfl rfl)⟩
        simp [results, Tryz.f47, go_sem, hc5]
      case stop =>
        rintro D c pre W hD ⟨k, hk, rfl⟩ ⟨f, hL, rfl, hrun⟩ hK
        have hres : run o e ks.reverse = -1 := by
          have := hrun (ks.reverse.drop k)
          rw [upto_snd ks k hk, List.take_append_drop] at this
          exact this
        gi_wp2
        refine ⟨by simp, .inl ⟨_, _, rfl, run_takeDeferred hK, ?_⟩⟩
        have hc5 := cell_kept hL.r.cell (grownBy_putObj' _ D (.deferred none)) (fun r e => by cases e; exact ⟨_, hK, rfl⟩)
        have e0 : res = -1 := by
          rw [hr, hres]
          split <;> rfl
        refine ⟨.int .i64 (-1), ?_, by rw [e0], hL.below.trans (belowK_b (w := w) (Nat.le_refl _) _ D _ _ (by omega) hK rfl rfl)⟩
        simp [results, Tryz.f47, go_sem, hc5]
  · refine ⟨trivial, ?_⟩
    gi_wp2
    have hb4 : Boxed w1 (w.heap.size + 1) 3 (.int .i64 0) := hx1.h4
    have hc5 := (hb4.set (.int .i64 (-1))).cell
    refine ⟨.int .i64 (-1), ?_, ?_, hx1.below.setCell (p := ⟨w.heap.size + 1, 0, none⟩) (by simp) _⟩
    · simp [results, Tryz.f47, go_sem, hc5]
    · rw [hr, if_pos]
      exact .inl ⟨by assumption, by assumption⟩
end Go.Proofs.YtfbcnpbhhooapaaGreatDoor.Bk

/- parse.begin for the machine: what it asks, what it answers; that this is so. -/
namespace Go.Proofs.YtfbcnpbhhooapaaGreatDoor.M
set_option linter.unusedSimpArgs false
set_option linter.unusedVariables false
set_option linter.unusedSectionVars false
open Go Go.RowKit Classical
section
variable [Base] {g g' : Gh} {S S' : Sto} {w w' : World} {P : Program}
/-- What is known of frozen data alone. -/
def dataG (g : Gh) : Gh := ⟨fun _ _ => none, fun _ _ => none, g.fz⟩
theorem dataG_own (g : Gh) (x : Ow) : (dataG g).own x = none := by cases x <;> rfl
theorem dataG_wr {W : World} (hw : WR g S w) (hb : Below w.heap.size w W) : WR (dataG g) [] W where
  ok := ⟨Nat.le_trans hw.ok.size hb.size, fun k hk => (hb.block k (Nat.lt_of_lt_of_le hk hw.ok.size)).trans (hw.ok.keep k hk), fun x k h => by rw [dataG_own] at h; cases h⟩
  fz := fun b o v h => by
    have h1 := hw.fz b o v h
    have hlt := cell_lt h1
    unfold World.cell? at h1 ⊢
    rw [hb.block b hlt]
    exact h1
  box := fun n t b h => by cases h
  arr := fun n k ai h => by cases h
  inj := fun x y b h => by rw [dataG_own] at h; cases h
/-- What an oracle tells of data holds in every world that has grown out of this one. -/
theorem ask_ok {cl : Oracle} (hcl : OracleOk P cl) {f : Nat} {args : List PV} {v : PV} (ho : pureO cl f args = some v) {W : World} (hw : WR g S w) (hb : Below w.heap.size w W) {cs : Array Value} (ha : ArgsR (dataG g) args cs) (he : (callFunc f cs).run P W = .ok (.enter f cs) W) :
    Calls P f cs W fun e W' => ∃ c g', e = .returned c ∧ VR g' v c ∧ Below W.heap.size W W' := by
  have h1 := pureO_inv ho
  have h2 := hcl f args [] (by rw [h1]; intro e; cases e) (dataG g) W cs (dataG_wr hw hb) ha
  rw [h1] at h2
  rcases h2 with ⟨_, h2⟩ | ⟨c, W', h2, _⟩
  · refine h2.mono fun e W' h => ?_
    cases e with
    | returned c =>
      obtain ⟨g', _, _, ht, hv, _⟩ := h
      exact ⟨c, g', rfl, hv, ht.os, ht.tape, ht.output, ht.size, fun k hk => ht.keep k hk fun x => by rw [dataG_own]; exact fun e => by cases e⟩
    | panicked ch => exact h.elim
    | outgrown => exact h.elim
  · rw [he] at h2
    cases h2
theorem vr_int {g : Gh} {k : IntKind} {n : Int} {c : Value} (h : VR g (.int k n) c) : c = .int k n := by
  cases h with
  | data _ _ h => cases h; rfl
theorem vr_bool {g : Gh} {b : Bool} {c : Value} (h : VR g (.bool b) c) : c = .bool b := by
  cases h with
  | data _ _ h => cases h; rfl
/-! ### What begin asks -/
def kidsOf : List (List PV) → Option (List Int)
  | [] => some []
  | [.int .i64 k] :: l => (kidsOf l).map (k :: ·)
  | _ => none
def askAll (lv : PV) (k : List Int → Qn) : Nat → List Int → Qn
  | 0, acc => k acc
  | n + 1, acc => .ask 47 [lv, .int .i64 (acc.length : Nat)] fun r => match r with
    | .int .i64 v => if v ≤ (acc.length : Nat) then askAll lv k n (acc ++ [v]) else .no
    | _ => .no
def beginK (lv : PV) (kind num : Int) (text : List UInt8) (l3 l4 : PV) (ks : List Int) (e : Int) : Qn :=
  .ask 73 [.int .i64 kind] fun kk => match kk with
    | .int .i64 kk => if kk ≠ (ks.length : Nat) ∧ kk ≠ -1 then .ret (.int .i64 (-1)) else
      .ask 74 [.agg [.int .i64 kind, .int .i64 num, .str text, l3, l4]] fun pp => match pp with
        | .bool pp => if pp = false then .ret (.int .i64 (-1)) else askAll lv (fun rs => .ret (.int .i64 (Bk.run (fun k => (rs[k.toNat]?).getD 0) e ks.reverse))) e.toNat []
        | _ => .no
    | _ => .no
def beginQ : List PV → Qn
  | [.list 5 rows full, .int .i64 e] =>
    if 0 ≤ e ∧ e.toNat < rows.length ∧ rows.length ≤ 1000000000 then
      match rows[e.toNat]? with
      | some [.int .i64 kind, .int .i64 num, .str text, .list z3 r3 f3, .list 1 r4 f4] =>
        match kidsOf r4 with
        | some ks => if ks.length ≤ 1000000000 then beginK (.list 5 rows full) kind num text (.list z3 r3 f3) (.list 1 r4 f4) ks e else .no
        | none => .no
      | _ => .no
    else .no
  | _ => .no
theorem kidsOf_get : ∀ {r : List (List PV)} {ks : List Int}, kidsOf r = some ks → r = ks.map fun k => [PV.int .i64 k]
  | [], ks, h => by cases h; rfl
  | a :: l, ks, h => by
    unfold kidsOf at h
    split at h
    · rename_i e
      cases e
    · rename_i k l' e
      obtain ⟨q, hq, rfl⟩ := Option.map_eq_some_iff.1 h
      obtain ⟨rfl, rfl⟩ := List.cons.inj e
      rw [List.map_cons, ← kidsOf_get hq]
    · cases h
theorem argsR1 {v : PV} {c : Value} (h : VR g v c) : ArgsR g [v] #[c] := ⟨rfl, fun i u hu => by
  match i, hu with
  | 0, hu => cases hu; exact h⟩
theorem argsR2 {v u : PV} {c d : Value} (h : VR g v c) (h' : VR g u d) : ArgsR g [v, u] #[c, d] := ⟨rfl, fun i x hx => by
  match i, hx with
  | 0, hx => cases hx; exact h
  | 1, hx => cases hx; exact h'⟩
theorem vr_agg5 {a0 a1 a2 a3 a4 : PV} {u0 u1 u2 u3 u4 : Value} (h0 : VR g a0 u0) (h1 : VR g a1 u1) (h2 : VR g a2 u2) (h3 : VR g a3 u3) (h4 : VR g a4 u4) : VR g (.agg [a0, a1, a2, a3, a4]) (.agg #[u0, u1, u2, u3, u4]) :=
  .agg _ _ rfl fun i v hv => by
    match i, hv with
    | 0, hv => cases hv; exact h0
    | 1, hv => cases hv; exact h1
    | 2, hv => cases hv; exact h2
    | 3, hv => cases hv; exact h3
    | 4, hv => cases hv; exact h4
theorem askAll_ev {o : Nat → List PV → Option PV} {lv : PV} {k : List Int → Qn} {v : PV} : ∀ (n : Nat) (acc : List Int), (askAll lv k n acc).ev o = some v → ∃ rs, rs.length = acc.length + n ∧ (∀ j, j < acc.length → rs[j]? = acc[j]?) ∧ (k rs).ev o = some v ∧ ∀ j, acc.length ≤ j → j < rs.length → ∃ u, rs[j]? = some u ∧ u ≤ (j : Nat) ∧ o 47 [lv, .int .i64 (j : Nat)] = some (.int .i64 u)
  | 0, acc, h => ⟨acc, rfl, fun _ _ => rfl, h, fun j h1 h2 => by omega⟩
  | n + 1, acc, h => by
    simp only [askAll, Qn.ev] at h
    cases ho : o 47 [lv, .int .i64 (acc.length : Nat)] with
    | none => rw [ho] at h; cases h
    | some r =>
      rw [ho] at h
      simp only at h
      split at h
      · rename_i u
        split at h
        · rename_i hu
          obtain ⟨rs, h1, h2, h3, h4⟩ := askAll_ev n (acc ++ [u]) h
          simp only [List.length_append, List.length_cons, List.length_nil] at h1 h2 h4
          refine ⟨rs, by omega, fun j hj => (h2 j (by omega)).trans (List.getElem?_append_left hj), h3, fun j hj1 hj2 => ?_⟩
          by_cases e : j = acc.length
          · subst e
            refine ⟨u, (h2 acc.length (by omega)).trans (by simp), hu, ho⟩
          · exact h4 j (by omega) hj2
        · cases h
      · cases h
end
theorem begin_orc [Base] : OrcOk Tryz.prog 47 beginQ := by
  intro cl hcl hm args v hq g S w cs hw ha
  unfold beginQ at hq
  split at hq
  · rename_i rows full e
    split at hq
    · rename_i hc
      obtain ⟨he0, hel, hrl⟩ := hc
      split at hq
      · rename_i kind num text z3 r3 f3 r4 f4 hrow
        split at hq
        · rename_i ks hks
          split at hq
          · rename_i hkl
            obtain ⟨c, d, rfl, h1, h2⟩ := args2 ha
            obtain rfl := vr_int h2
            cases h1 with
            | data _ _ h1 =>
              have h10 := h1
              cases h1 with
              | list _ _ _ A cap cv hl hf hs hA hcell hv =>
                have hne : rows ≠ [] := fun e => by rw [e] at hel; simp at hel
                obtain ⟨ad, rfl, hspot⟩ := hA hne
                obtain ⟨bl, ol, sp⟩ := ad
                simp only at hspot
                subst hspot
                have q : ∀ (j : Nat) (u : PV), [PV.int .i64 kind, .int .i64 num, .str text, .list z3 r3 f3, .list 1 r4 f4][j]? = some u → w.cell? ⟨bl, ol + (e.toNat * 5 + j), none⟩ = some (cv e.toNat j) ∧ FR g.fz u (cv e.toNat j) := fun j u hu =>
                  ⟨hw.fz _ _ _ (hcell ⟨bl, ol, none⟩ e.toNat j _ u rfl hrow hu), hv e.toNat j _ u hrow hu⟩
                obtain ⟨q0, v0⟩ := q 0 _ rfl
                obtain ⟨q1, v1⟩ := q 1 _ rfl
                obtain ⟨q2, v2⟩ := q 2 _ rfl
                obtain ⟨q3, v3⟩ := q 3 _ rfl
                obtain ⟨q4, v4⟩ := q 4 _ rfl
                have w3 := v3
                have w4 := v4
                generalize cv e.toNat 0 = u0 at *
                generalize cv e.toNat 1 = u1 at *
                generalize cv e.toNat 2 = u2 at *
                generalize cv e.toNat 3 = u3 at *
                generalize cv e.toNat 4 = u4 at *
                cases v0
                cases v1
                cases v2
                cases v3 with
                | list _ _ _ A3 c3 _ _ _ _ _ _ _ =>
                  cases v4 with
                  | list _ _ _ A4 c4 cv4 _ _ _ hA4 hcell4 hv4 =>
                    have hbl : bl < w.heap.size := cell_lt q0
                    have hr4 := kidsOf_get hks
                    have hl4 : r4.length = ks.length := by rw [hr4, List.length_map]
                    have hkid : ∀ j, j < ks.length → r4[j]? = some [.int .i64 ((ks[j]?).getD 0)] := fun j hj => by rw [hr4, List.getElem?_map, List.getElem?_eq_getElem hj]; rfl
                    have hI : Bk.Ints w.heap.size w (.slice A4 r4.length c4) ks := by
                      by_cases h0 : 0 < ks.length
                      · have hne4 : r4 ≠ [] := fun e => by rw [e] at hl4; simp at hl4; omega
                        obtain ⟨⟨b4, o4, sp4⟩, rfl, hs4⟩ := hA4 hne4
                        simp only at hs4
                        subst hs4
                        have hcell4' : ∀ j, j < ks.length → w.cell? ⟨b4, o4 + j, none⟩ = some (.int .i64 ((ks[j]?).getD 0)) := fun j hj => by
                          have h5 := hcell4 ⟨b4, o4, none⟩ j 0 _ _ rfl (hkid j hj) rfl
                          have h6 := hv4 j 0 _ _ (hkid j hj) rfl
                          have h7 := hw.fz _ _ _ h5
                          simp only [Nat.mul_one, Nat.add_zero] at h7
                          rw [h7, vr_int (g := g) (.data _ _ h6)]
                        exact .inr ⟨h0, b4, o4, c4, by rw [hl4], cell_lt (hcell4' 0 h0), hcell4'⟩
                      · exact .inl ⟨A4, c4, by rw [hl4, show ks.length = 0 by omega], List.length_eq_zero_iff.1 (by omega)⟩
                    have ee : e = ((e.toNat : Nat) : Int) := by omega
                    -- what is asked
                    unfold beginK at hq
                    simp only [Qn.ev] at hq
                    cases hk73 : pureO cl 73 [.int .i64 kind] with
                    | none => rw [hk73] at hq; cases hq
                    | some k73 =>
                      rw [hk73] at hq
                      simp only at hq
                      split at hq
                      · rename_i kk
                        have hK : ∀ W, Below w.heap.size w W → Calls Tryz.prog 73 #[.int .i64 kind] W fun x W' => x = .returned (.int .i64 kk) ∧ Below W.heap.size W W' := fun W hb =>
                          (ask_ok hcl hk73 hw hb (argsR1 (.data _ _ (.int _ _))) (enters_of Tryz.func73 (by kernel_rfl) rfl _ _)).mono fun x W' ⟨c, g', h1, h2, h3⟩ => ⟨by rw [h1, vr_int h2], h3⟩
                        have fin : ∀ (res : Int) (pp : Bool) (o : Int → Int),
                            ((kk = ks.length ∨ kk = -1) → ∀ W, Below w.heap.size w W → Calls Tryz.prog 74 #[.agg #[.int .i64 kind, .int .i64 num, .string ⟨text.toArray⟩, .slice A3 r3.length c3, .slice A4 r4.length c4]] W fun x W' => x = .returned (.bool pp) ∧ Below W.heap.size W W') →
                            ((kk = ks.length ∨ kk = -1) → pp = true → ∀ k : Int, 0 ≤ k → k < e.toNat → o k ≤ k ∧ ∀ W, Below w.heap.size w W → Calls Tryz.prog 47 #[.slice (some ⟨bl, ol, none⟩) rows.length cap, .int .i64 k] W fun x W' => x = .returned (.int .i64 (o k)) ∧ Below W.heap.size W W') →
                            (res = if (kk ≠ ks.length ∧ kk ≠ -1) ∨ pp = false then -1 else Bk.run o e.toNat ks.reverse) → v = .int .i64 res →
                            Answers Tryz.prog 47 #[.slice (some ⟨bl, ol, none⟩) rows.length cap, .int .i64 e] w (CallPost g S w (.ok (.v v) S)) := fun res pp o hP hB hr hv => by
                          have key := Bk.begin_in w bl ol rows.length cap e.toNat kind num ⟨text.toArray⟩ A3 A4 r3.length c3 r4.length c4 ks kk pp o res hbl hel hrl hl q0 q1 q2 q3 q4 hl4 hI hkl hK hP hB hr
                          rw [← ee] at key
                          subst hv
                          left
                          refine ⟨enters_of Tryz.func47 (by kernel_rfl) rfl _ _, key.mono fun x W' ⟨h1, h2⟩ => ?_⟩
                          subst h1
                          exact ext_post hw h2 (.data _ _ (.int _ _))
                        split at hq
                        · rename_i hkk
                          simp only [Qn.ev, Option.some.injEq] at hq
                          exact fin (-1) false (fun _ => 0) (fun h => absurd h (by rintro (h | h); exact hkk.1 h; exact hkk.2 h)) (fun _ h => by cases h) (by rw [if_pos (.inl hkk)]) hq.symm
                        · rename_i hkk
                          simp only [Qn.ev] at hq
                          cases hk74 : pureO cl 74 [.agg [.int .i64 kind, .int .i64 num, .str text, .list z3 r3 f3, .list 1 r4 f4]] with
                          | none => rw [hk74] at hq; cases hq
                          | some k74 =>
                            rw [hk74] at hq
                            simp only at hq
                            split at hq
                            · rename_i pp
                              have hP : (kk = ks.length ∨ kk = -1) → ∀ W, Below w.heap.size w W → Calls Tryz.prog 74 #[.agg #[.int .i64 kind, .int .i64 num, .string ⟨text.toArray⟩, .slice A3 r3.length c3, .slice A4 r4.length c4]] W fun x W' => x = .returned (.bool pp) ∧ Below W.heap.size W W' := fun _ W hb =>
                                (ask_ok hcl hk74 hw hb (argsR1 (vr_agg5 (.data _ _ (.int _ _)) (.data _ _ (.int _ _)) (.data _ _ (.str _)) (.data _ _ w3) (.data _ _ w4))) (enters_of Tryz.func74 (by kernel_rfl) rfl _ _)).mono fun x W' ⟨c, g', h1, h2, h3⟩ => ⟨by rw [h1, vr_bool h2], h3⟩
                              split at hq
                              · rename_i hpp
                                subst hpp
                                simp only [Qn.ev, Option.some.injEq] at hq
                                exact fin (-1) false (fun _ => 0) hP (fun _ h => by cases h) (by rw [if_pos (.inr rfl)]) hq.symm
                              · rename_i hpp
                                obtain ⟨rs, r1, r2, r3', r4'⟩ := askAll_ev _ _ hq
                                simp only [List.length_nil, Nat.zero_add] at r1 r4'
                                simp only [Qn.ev, Option.some.injEq] at r3'
                                refine fin _ pp (fun k => (rs[k.toNat]?).getD 0) hP (fun _ _ k k0 k1 => ?_) (by rw [if_neg (by rintro (h | h); exact hkk h; exact hpp h)]) (by rw [← r3', ← ee])
                                obtain ⟨u, u1, u2, u3⟩ := r4' k.toNat (by omega) (by omega)
                                have ek : ((k.toNat : Nat) : Int) = k := by omega
                                rw [ek] at u2 u3
                                have e1 : (rs[k.toNat]?).getD 0 = u := by rw [u1]; rfl
                                simp only [e1]
                                exact ⟨u2, fun W hb => (ask_ok hcl u3 hw hb (argsR2 (.data _ _ h10) (.data _ _ (.int _ _))) (enters_of Tryz.func47 (by kernel_rfl) rfl _ _)).mono fun x W' ⟨c, g', h1, h2, h3⟩ => ⟨by rw [h1, vr_int h2], h3⟩⟩
                            · cases hq
                      · cases hq
          · cases hq
        · cases hq
      · cases hq
    · cases hq
  · cases hq
end Go.Proofs.YtfbcnpbhhooapaaGreatDoor.M

/- Functions of Go's library that are told by contracts; and all functions, as the machine has them. Printed by a program of this session (lift.py). -/
namespace Go.Proofs.YtfbcnpbhhooapaaGreatDoor.M
set_option linter.unusedVariables false
open Go Classical
noncomputable def exts : Nat → Option XF := fun f => if f = 106 then some (.fn (itoaX)) else if f = 108 then some (.fn (boolX)) else if f = 94 then some (.fn (repeatX)) else if f = 112 then some (.fn (cutX)) else if f = 179 then some (.fn (indexX)) else if f = 129 then some (.fn (prefixX)) else if f = 162 then some (.fn (containsX)) else if f = 120 then some (.fn (replaceX)) else if f = 163 then some (.fn (atoiX 218)) else if f = 144 then some (.fn (cloneX 1 8)) else if f = 36 then some (.rcv rcv_parse_reading) else if f = 47 then some (.orc beginQ) else  none
noncomputable def SP : Prg := SPof Tryz.prog exts
theorem sp_strconv_Itoa : SP 106 = some (.ext (itoaX)) := rfl
theorem sp_strings_Cut : SP 112 = some (.ext (cutX)) := rfl
theorem sp_strings_IndexByte : SP 179 = some (.ext (indexX)) := rfl
theorem sp_strings_HasPrefix : SP 129 = some (.ext (prefixX)) := rfl
theorem sp_strings_Contains : SP 162 = some (.ext (containsX)) := rfl
theorem sp_strings_ReplaceAll : SP 120 = some (.ext (replaceX)) := rfl
theorem sp_strconv_Atoi : SP 163 = some (.ext (atoiX 218)) := rfl
theorem sp_slices_Clone_int_int : SP 144 = some (.ext (cloneX 1 8)) := rfl
theorem sp_parse_reading : SP 36 = some (.rcv rcv_parse_reading) := rfl
theorem sp_parse_begin : SP 47 = some (.orc beginQ) := rfl
end Go.Proofs.YtfbcnpbhhooapaaGreatDoor.M

/- What a call of a function yields, over plain data: a name for each. Printed by a program of this session (lift.py). -/
namespace Go.Proofs.YtfbcnpbhhooapaaGreatDoor.M
open Go Classical
def R_law2_ParseDeep (x0 : UInt8) (x1 : UInt8) (r0 : Bool) : Prop := ∀ (S : Sto), call SP 9 [.int .u8 ((x0.toNat : Nat) : Int), .int .u8 ((x1.toNat : Nat) : Int)] S = .ok (.v (.bool r0)) S
def R_law2_awake (r0 : Bool) : Prop := ∀ (S : Sto), call SP 15 [] S = .ok (.v (.bool r0)) S
def R_parse_Parse (x0 : List UInt8) (r0 : List Block) (r1 : Int) : Prop := ∀ (S : Sto), call SP 17 [.str x0] S = .ok (.v (.tup [.list 4 (r0.map eBlock) false, .int .i64 r1])) S
def R_law1_Num (x0 : Int) (r0 : Int) : Prop := ∀ (S : Sto), call SP 18 [.int .i64 x0] S = .ok (.v (.int .i64 r0)) S
def R_parse_Expr (x0 : List UInt8) (r0 : List Node) (r1 : Int) : Prop := ∀ (S : Sto), call SP 20 [.str x0] S = .ok (.v (.tup [.list 5 (r0.map eNode) false, .int .i64 r1])) S
def R_parse_Tree (x0 : List Node) (r0 : Bool) : Prop := ∀ (S : Sto), call SP 26 [.list 5 (x0.map eNode) false] S = .ok (.v (.bool r0)) S
def R_parse_Parse_1 (x0 : PBlocks) (x0_g2 : Nat) (x0_z2 : Bool) (x1 : List Block) (x1_g0 : Nat) (x1_z0 : Bool) (o : Option Int) (x0' : PBlocks) (x0'_g2 : Nat) (x0'_z2 : Bool) (x1' : List Block) (x1'_g0 : Nat) (x1'_z0 : Bool) : Prop := ∀ (S : Sto) (n0 : Nat) (t0 : Nat) (n1 : Nat) (t1 : Nat), (getBox S n0 t0).map (List.take 4) = some [.list 5 (x0.exprs.tokens.l.map eToken) false, .int .i64 x0.exprs.tokens.pos, .sl 0 (.cell t0 2) 0 x0.exprs.out.length x0.exprs.out.length x0_g2 false, .int .i64 x0.exprs.deep] ∧ getArr S n0 (.cell t0 2) = some ⟨5, x0.exprs.out.map eNode, x0_z2, x0_g2⟩ → (getBox S n1 t1).map (List.take 1) = some [.sl 0 (.cell t1 0) 0 x1.length x1.length x1_g0 false] ∧ getArr S n1 (.cell t1 0) = some ⟨4, x1.map eBlock, x1_z0, x1_g0⟩ → n0 ≠ n1 → call SP 37 [.ptr n0 t0 0, .ptr n1 t1 0] S = po 116 o (.v (.tup [])) (setArr (setBox (setArr (setBox S n0 t0 ([.list 5 (x0'.exprs.tokens.l.map eToken) false, .int .i64 x0'.exprs.tokens.pos, .sl 0 (.cell t0 2) 0 x0'.exprs.out.length x0'.exprs.out.length x0'_g2 false, .int .i64 x0'.exprs.deep] ++ ((getBox S n0 t0).getD []).drop 4)) n0 (.cell t0 2) ⟨5, x0'.exprs.out.map eNode, x0'_z2, x0'_g2⟩) n1 t1 ([.sl 0 (.cell t1 0) 0 x1'.length x1'.length x1'_g0 false] ++ ((getBox (setArr (setBox S n0 t0 ([.list 5 (x0'.exprs.tokens.l.map eToken) false, .int .i64 x0'.exprs.tokens.pos, .sl 0 (.cell t0 2) 0 x0'.exprs.out.length x0'.exprs.out.length x0'_g2 false, .int .i64 x0'.exprs.deep] ++ ((getBox S n0 t0).getD []).drop 4)) n0 (.cell t0 2) ⟨5, x0'.exprs.out.map eNode, x0'_z2, x0'_g2⟩) n1 t1).getD []).drop 1)) n1 (.cell t1 0) ⟨4, x1'.map eBlock, x1'_z0, x1'_g0⟩)
def R_parse_Expr_1 (x0 : PBlocks) (x0_g2 : Nat) (x0_z2 : Bool) (x1 : PV) (o : Option Int) (x0' : PBlocks) (x0'_g2 : Nat) (x0'_z2 : Bool) (x1' : PV) : Prop := ∀ (S : Sto) (n0 : Nat) (t0 : Nat) (n1 : Nat) (t1 : Nat), (getBox S n0 t0).map (List.take 4) = some [.list 5 (x0.exprs.tokens.l.map eToken) false, .int .i64 x0.exprs.tokens.pos, .sl 0 (.cell t0 2) 0 x0.exprs.out.length x0.exprs.out.length x0_g2 false, .int .i64 x0.exprs.deep] ∧ getArr S n0 (.cell t0 2) = some ⟨5, x0.exprs.out.map eNode, x0_z2, x0_g2⟩ → (getBox S n1 t1).map (List.take 1) = some [x1] → n0 ≠ n1 → call SP 40 [.ptr n0 t0 0, .ptr n1 t1 0] S = po 116 o (.v (.tup [])) (setBox (setArr (setBox S n0 t0 ([.list 5 (x0'.exprs.tokens.l.map eToken) false, .int .i64 x0'.exprs.tokens.pos, .sl 0 (.cell t0 2) 0 x0'.exprs.out.length x0'.exprs.out.length x0'_g2 false, .int .i64 x0'.exprs.deep] ++ ((getBox S n0 t0).getD []).drop 4)) n0 (.cell t0 2) ⟨5, x0'.exprs.out.map eNode, x0'_z2, x0'_g2⟩) n1 t1 ([x1'] ++ ((getBox (setArr (setBox S n0 t0 ([.list 5 (x0'.exprs.tokens.l.map eToken) false, .int .i64 x0'.exprs.tokens.pos, .sl 0 (.cell t0 2) 0 x0'.exprs.out.length x0'.exprs.out.length x0'_g2 false, .int .i64 x0'.exprs.deep] ++ ((getBox S n0 t0).getD []).drop 4)) n0 (.cell t0 2) ⟨5, x0'.exprs.out.map eNode, x0'_z2, x0'_g2⟩) n1 t1).getD []).drop 1))
def R_parse_begin (x0 : List Node) (x1 : Int) (r0 : Int) : Prop := ∀ (S : Sto), call SP 47 [.list 5 (x0.map eNode) false, .int .i64 x1] S = .ok (.v (.int .i64 r0)) S
def R_lex_Lex (x0 : List UInt8) (r0 : List Token) (r1 : Int) : Prop := ∀ (S : Sto), call SP 60 [.str x0] S = .ok (.v (.tup [.list 5 (r0.map eToken) false, .int .i64 r1])) S
def R_slices_Index_string_string (x0 : List (List UInt8)) (x1 : List UInt8) (r0 : Int) : Prop := ∀ (S : Sto), call SP 62 [.list 1 (x0.map eS) false, .str x1] S = .ok (.v (.int .i64 r0)) S
def R_parse_words (r0 : List (List UInt8)) : Prop := ∀ (S : Sto), call SP 63 [] S = .ok (.v (.list 1 (r0.map eS) false)) S
def R_parse_kids (x0 : Int) (r0 : Int) : Prop := ∀ (S : Sto), call SP 73 [.int .i64 x0] S = .ok (.v (.int .i64 r0)) S
def R_parse_plain (x0 : Node) (r0 : Bool) : Prop := ∀ (S : Sto), call SP 74 [.agg (eNode x0)] S = .ok (.v (.bool r0)) S
def R_lex_Label (x0 : List UInt8) (r0 : Bool) : Prop := ∀ (S : Sto), call SP 81 [.str x0] S = .ok (.v (.bool r0)) S
def R_strconv_Itoa (x0 : Int) (r0 : List UInt8) : Prop := ∀ (S : Sto), call SP 106 [.int .i64 x0] S = .ok (.v (.str r0)) S
def R_strings_Cut (x0 : List UInt8) (x1 : List UInt8) (r0 : List UInt8) (r1 : List UInt8) (r2 : Bool) : Prop := ∀ (S : Sto), call SP 112 [.str x0, .str x1] S = .ok (.v (.tup [.str r0, .str r1, .bool r2])) S
def R_parse_Ref (x0 : List UInt8) (r0 : Bool) : Prop := ∀ (S : Sto), call SP 113 [.str x0] S = .ok (.v (.bool r0)) S
def R_parse_truth (x0 : List UInt8) (r0 : Bool) : Prop := ∀ (S : Sto), call SP 114 [.str x0] S = .ok (.v (.bool r0)) S
def R_lex_Name (x0 : List UInt8) (r0 : Bool) : Prop := ∀ (S : Sto), call SP 115 [.str x0] S = .ok (.v (.bool r0)) S
def R_parse_parts (x0 : List Part) (r0 : Bool) : Prop := ∀ (S : Sto), call SP 116 [.list 2 (x0.map ePart) false] S = .ok (.v (.bool r0)) S
def R_strings_ReplaceAll (x0 : List UInt8) (x1 : List UInt8) (x2 : List UInt8) (r0 : List UInt8) : Prop := ∀ (S : Sto), call SP 120 [.str x0, .str x1, .str x2] S = .ok (.v (.str r0)) S
def R_strings_HasPrefix (x0 : List UInt8) (x1 : List UInt8) (r0 : Bool) : Prop := ∀ (S : Sto), call SP 129 [.str x0, .str x1] S = .ok (.v (.bool r0)) S
def R_lex_class (x0 : UInt8) (r0 : Int) : Prop := ∀ (S : Sto), call SP 137 [.int .u8 ((x0.toNat : Nat) : Int)] S = .ok (.v (.int .i64 r0)) S
def R_parse_two (x0 : Int) (x1 : List UInt8) (r0 : Int) (r1 : Bool) : Prop := ∀ (S : Sto), call SP 143 [.int .i64 x0, .str x1] S = .ok (.v (.tup [.int .i64 r0, .bool r1])) S
def R_slices_Clone_int_int (x0 : List Int) (r0 : List Int) : Prop := ∀ (S : Sto), call SP 144 [.list 1 (x0.map eI) false] S = .ok (.v (.list 1 (r0.map eI) false)) S
def R_lex_span (x0 : List UInt8) (x1 : List Int) (r0 : Int) : Prop := ∀ (S : Sto), call SP 151 [.str x0, .list 1 (x1.map eI) false] S = .ok (.v (.int .i64 r0)) S
def R_parse_printed (x0 : List UInt8) (r0 : Bool) : Prop := ∀ (S : Sto), call SP 152 [.str x0] S = .ok (.v (.bool r0)) S
def R_slices_Contains_string_string (x0 : List (List UInt8)) (x1 : List UInt8) (r0 : Bool) : Prop := ∀ (S : Sto), call SP 161 [.list 1 (x0.map eS) false, .str x1] S = .ok (.v (.bool r0)) S
def R_strings_Contains (x0 : List UInt8) (x1 : List UInt8) (r0 : Bool) : Prop := ∀ (S : Sto), call SP 162 [.str x0, .str x1] S = .ok (.v (.bool r0)) S
def R_strconv_Atoi (x0 : List UInt8) (r0 : Int) (r1 : Bool) : Prop := ∀ (S : Sto), call SP 163 [.str x0] S = .ok (.v (.tup [.int .i64 r0, eE 218 r1])) S
def R_lex_escaped (x0 : List UInt8) (r0 : UInt8) (r1 : Bool) : Prop := ∀ (S : Sto), call SP 164 [.str x0] S = .ok (.v (.tup [.int .u8 ((r0.toNat : Nat) : Int), .bool r1])) S
def R_lex_reference (x0 : List UInt8) (r0 : List UInt8) (r1 : Bool) : Prop := ∀ (S : Sto), call SP 166 [.str x0] S = .ok (.v (.tup [.str r0, .bool r1])) S
def R_slices_Contains_int_int (x0 : List Int) (x1 : Int) (r0 : Bool) : Prop := ∀ (S : Sto), call SP 170 [.list 1 (x0.map eI) false, .int .i64 x1] S = .ok (.v (.bool r0)) S
def R_strings_IndexByte (x0 : List UInt8) (x1 : UInt8) (r0 : Int) : Prop := ∀ (S : Sto), call SP 179 [.str x0, .int .u8 ((x1.toNat : Nat) : Int)] S = .ok (.v (.int .i64 r0)) S
def R_slices_Index_int_int (x0 : List Int) (x1 : Int) (r0 : Int) : Prop := ∀ (S : Sto), call SP 190 [.list 1 (x0.map eI) false, .int .i64 x1] S = .ok (.v (.int .i64 r0)) S
end Go.Proofs.YtfbcnpbhhooapaaGreatDoor.M

/- What a call of a function yields, over plain data: a name for each. Printed by a program of this session (lift.py). -/
namespace Go.Proofs.YtfbcnpbhhooapaaGreatDoor.M
open Go Classical
def R_parse_tokens_now (x0 : PTokens) (r0 : Token) (x0' : PTokens) : Prop := ∀ (S : Sto) (n0 : Nat) (t0 : Nat), (getBox S n0 t0).map (List.take 2) = some [.list 5 (x0.l.map eToken) false, .int .i64 x0.pos] → call SP 38 [.ptr n0 t0 0] S = .ok (.v (.agg [.int .i64 r0.Kind, .str r0.Text, .int .i64 r0.Num, .list 2 (r0.Parts.map ePart) false, .int .i64 r0.At])) (setBox S n0 t0 ([.list 5 (x0'.l.map eToken) false, .int .i64 x0'.pos] ++ ((getBox S n0 t0).getD []).drop 2))
def R_parse_blocks_block (x0 : PBlocks) (x0_g2 : Nat) (x0_z2 : Bool) (x1 : Bool) (o : Option Int) (r0 : Block) (x0' : PBlocks) (x0'_g2 : Nat) (x0'_z2 : Bool) : Prop := ∀ (S : Sto) (n0 : Nat) (t0 : Nat), (getBox S n0 t0).map (List.take 4) = some [.list 5 (x0.exprs.tokens.l.map eToken) false, .int .i64 x0.exprs.tokens.pos, .sl 0 (.cell t0 2) 0 x0.exprs.out.length x0.exprs.out.length x0_g2 false, .int .i64 x0.exprs.deep] ∧ getArr S n0 (.cell t0 2) = some ⟨5, x0.exprs.out.map eNode, x0_z2, x0_g2⟩ → call SP 39 [.ptr n0 t0 0, .bool x1] S = po 116 o (.v (.agg [.int .i64 r0.Kind, .str r0.Label, .list 2 (r0.Attrs.map eAttr) false, .list 4 (r0.Blocks.map eBlock) false])) (setArr (setBox S n0 t0 ([.list 5 (x0'.exprs.tokens.l.map eToken) false, .int .i64 x0'.exprs.tokens.pos, .sl 0 (.cell t0 2) 0 x0'.exprs.out.length x0'.exprs.out.length x0'_g2 false, .int .i64 x0'.exprs.deep] ++ ((getBox S n0 t0).getD []).drop 4)) n0 (.cell t0 2) ⟨5, x0'.exprs.out.map eNode, x0'_z2, x0'_g2⟩)
def R_parse_exprs_whole (x0 : PExprs) (x0_g2 : Nat) (x0_z2 : Bool) (o : Option Int) (r0 : List Node) (x0' : PExprs) (x0'_g2 : Nat) (x0'_z2 : Bool) : Prop := ∀ (S : Sto) (n0 : Nat) (t0 : Nat), (getBox S n0 t0).map (List.take 4) = some [.list 5 (x0.tokens.l.map eToken) false, .int .i64 x0.tokens.pos, .sl 0 (.cell t0 2) 0 x0.out.length x0.out.length x0_g2 false, .int .i64 x0.deep] ∧ getArr S n0 (.cell t0 2) = some ⟨5, x0.out.map eNode, x0_z2, x0_g2⟩ → call SP 41 [.ptr n0 t0 0] S = po 116 o (.v (.list 5 (r0.map eNode) false)) (setArr (setBox S n0 t0 ([.list 5 (x0'.tokens.l.map eToken) false, .int .i64 x0'.tokens.pos, .sl 0 (.cell t0 2) 0 x0'.out.length x0'.out.length x0'_g2 false, .int .i64 x0'.deep] ++ ((getBox S n0 t0).getD []).drop 4)) n0 (.cell t0 2) ⟨5, x0'.out.map eNode, x0'_z2, x0'_g2⟩)
def R_parse_tokens_fail (x0 : PTokens) (x1 : Int) (o : Option Int) (x0' : PTokens) : Prop := ∀ (S : Sto) (n0 : Nat) (t0 : Nat), (getBox S n0 t0).map (List.take 2) = some [.list 5 (x0.l.map eToken) false, .int .i64 x0.pos] → call SP 42 [.ptr n0 t0 0, .int .i64 x1] S = po 116 o (.v (.tup [])) (setBox S n0 t0 ([.list 5 (x0'.l.map eToken) false, .int .i64 x0'.pos] ++ ((getBox S n0 t0).getD []).drop 2))
def R_parse_blocks_label (x0 : PBlocks) (x0_g2 : Nat) (x0_z2 : Bool) (o : Option Int) (r0 : List UInt8) (x0' : PBlocks) (x0'_g2 : Nat) (x0'_z2 : Bool) : Prop := ∀ (S : Sto) (n0 : Nat) (t0 : Nat), (getBox S n0 t0).map (List.take 4) = some [.list 5 (x0.exprs.tokens.l.map eToken) false, .int .i64 x0.exprs.tokens.pos, .sl 0 (.cell t0 2) 0 x0.exprs.out.length x0.exprs.out.length x0_g2 false, .int .i64 x0.exprs.deep] ∧ getArr S n0 (.cell t0 2) = some ⟨5, x0.exprs.out.map eNode, x0_z2, x0_g2⟩ → call SP 64 [.ptr n0 t0 0] S = po 116 o (.v (.str r0)) (setArr (setBox S n0 t0 ([.list 5 (x0'.exprs.tokens.l.map eToken) false, .int .i64 x0'.exprs.tokens.pos, .sl 0 (.cell t0 2) 0 x0'.exprs.out.length x0'.exprs.out.length x0'_g2 false, .int .i64 x0'.exprs.deep] ++ ((getBox S n0 t0).getD []).drop 4)) n0 (.cell t0 2) ⟨5, x0'.exprs.out.map eNode, x0'_z2, x0'_g2⟩)
def R_parse_blocks_body (x0 : PBlocks) (x0_g2 : Nat) (x0_z2 : Bool) (o : Option Int) (r0 : List Attr) (x0' : PBlocks) (x0'_g2 : Nat) (x0'_z2 : Bool) : Prop := (∀ (S : Sto) (n0 : Nat) (t0 : Nat), (getBox S n0 t0).map (List.take 4) = some [.list 5 (x0.exprs.tokens.l.map eToken) false, .int .i64 x0.exprs.tokens.pos, .sl 0 (.cell t0 2) 0 x0.exprs.out.length x0.exprs.out.length x0_g2 false, .int .i64 x0.exprs.deep] ∧ getArr S n0 (.cell t0 2) = some ⟨5, x0.exprs.out.map eNode, x0_z2, x0_g2⟩ → call SP 65 [.ptr n0 t0 0] S = po 116 o (.v (.list 2 (r0.map eAttr) false)) (setArr (setBox S n0 t0 ([.list 5 (x0'.exprs.tokens.l.map eToken) false, .int .i64 x0'.exprs.tokens.pos, .sl 0 (.cell t0 2) 0 x0'.exprs.out.length x0'.exprs.out.length x0'_g2 false, .int .i64 x0'.exprs.deep] ++ ((getBox S n0 t0).getD []).drop 4)) n0 (.cell t0 2) ⟨5, x0'.exprs.out.map eNode, x0'_z2, x0'_g2⟩)) ∨ (∀ (S : Sto) (n0 : Nat) (t0 : Nat), (getBox S n0 t0).map (List.take 4) = some [.list 5 (x0.exprs.tokens.l.map eToken) false, .int .i64 x0.exprs.tokens.pos, .sl 0 (.cell t0 2) 0 x0.exprs.out.length x0.exprs.out.length x0_g2 false, .int .i64 x0.exprs.deep] ∧ getArr S n0 (.cell t0 2) = some ⟨5, x0.exprs.out.map eNode, x0_z2, x0_g2⟩ → call SP 65 [.ptr n0 t0 0] S = po 116 o (.arr 2 (r0.map eAttr) false) (setArr (setBox S n0 t0 ([.list 5 (x0'.exprs.tokens.l.map eToken) false, .int .i64 x0'.exprs.tokens.pos, .sl 0 (.cell t0 2) 0 x0'.exprs.out.length x0'.exprs.out.length x0'_g2 false, .int .i64 x0'.exprs.deep] ++ ((getBox S n0 t0).getD []).drop 4)) n0 (.cell t0 2) ⟨5, x0'.exprs.out.map eNode, x0'_z2, x0'_g2⟩))
def R_parse_tokens_need (x0 : PTokens) (x1 : List UInt8) (o : Option Int) (x0' : PTokens) : Prop := ∀ (S : Sto) (n0 : Nat) (t0 : Nat), (getBox S n0 t0).map (List.take 2) = some [.list 5 (x0.l.map eToken) false, .int .i64 x0.pos] → call SP 66 [.ptr n0 t0 0, .str x1] S = po 116 o (.v (.tup [])) (setBox S n0 t0 ([.list 5 (x0'.l.map eToken) false, .int .i64 x0'.pos] ++ ((getBox S n0 t0).getD []).drop 2))
def R_parse_tokens_may (x0 : PTokens) (x1 : List UInt8) (r0 : Bool) (x0' : PTokens) : Prop := ∀ (S : Sto) (n0 : Nat) (t0 : Nat), (getBox S n0 t0).map (List.take 2) = some [.list 5 (x0.l.map eToken) false, .int .i64 x0.pos] → call SP 67 [.ptr n0 t0 0, .str x1] S = .ok (.v (.bool r0)) (setBox S n0 t0 ([.list 5 (x0'.l.map eToken) false, .int .i64 x0'.pos] ++ ((getBox S n0 t0).getD []).drop 2))
def R_parse_exprs_expr (x0 : PExprs) (x0_g2 : Nat) (x0_z2 : Bool) (o : Option Int) (r0 : Int) (x0' : PExprs) (x0'_g2 : Nat) (x0'_z2 : Bool) : Prop := ∀ (S : Sto) (n0 : Nat) (t0 : Nat), (getBox S n0 t0).map (List.take 4) = some [.list 5 (x0.tokens.l.map eToken) false, .int .i64 x0.tokens.pos, .sl 0 (.cell t0 2) 0 x0.out.length x0.out.length x0_g2 false, .int .i64 x0.deep] ∧ getArr S n0 (.cell t0 2) = some ⟨5, x0.out.map eNode, x0_z2, x0_g2⟩ → call SP 68 [.ptr n0 t0 0] S = po 116 o (.v (.int .i64 r0)) (setArr (setBox S n0 t0 ([.list 5 (x0'.tokens.l.map eToken) false, .int .i64 x0'.tokens.pos, .sl 0 (.cell t0 2) 0 x0'.out.length x0'.out.length x0'_g2 false, .int .i64 x0'.deep] ++ ((getBox S n0 t0).getD []).drop 4)) n0 (.cell t0 2) ⟨5, x0'.out.map eNode, x0'_z2, x0'_g2⟩)
def R_lex_tokens_skip (x0 : LTokens) (x0_g2 : Nat) (x0_z2 : Bool) (x0' : LTokens) (x0'_g2 : Nat) (x0'_z2 : Bool) : Prop := ∀ (S : Sto) (n0 : Nat) (t0 : Nat), (getBox S n0 t0).map (List.take 3) = some [.str x0.text.left, .int .i64 x0.text.pos, .sl 0 (.cell t0 2) 0 x0.out.length x0.out.length x0_g2 false] ∧ getArr S n0 (.cell t0 2) = some ⟨5, x0.out.map eToken, x0_z2, x0_g2⟩ → call SP 97 [.ptr n0 t0 0] S = .ok (.v (.tup [])) (setArr (setBox S n0 t0 ([.str x0'.text.left, .int .i64 x0'.text.pos, .sl 0 (.cell t0 2) 0 x0'.out.length x0'.out.length x0'_g2 false] ++ ((getBox S n0 t0).getD []).drop 3)) n0 (.cell t0 2) ⟨5, x0'.out.map eToken, x0'_z2, x0'_g2⟩)
def R_lex_tokens_next (x0 : LTokens) (x0_g2 : Nat) (x0_z2 : Bool) (r0 : Bool) (x0' : LTokens) (x0'_g2 : Nat) (x0'_z2 : Bool) : Prop := ∀ (S : Sto) (n0 : Nat) (t0 : Nat), (getBox S n0 t0).map (List.take 3) = some [.str x0.text.left, .int .i64 x0.text.pos, .sl 0 (.cell t0 2) 0 x0.out.length x0.out.length x0_g2 false] ∧ getArr S n0 (.cell t0 2) = some ⟨5, x0.out.map eToken, x0_z2, x0_g2⟩ → call SP 98 [.ptr n0 t0 0] S = .ok (.v (.bool r0)) (setArr (setBox S n0 t0 ([.str x0'.text.left, .int .i64 x0'.text.pos, .sl 0 (.cell t0 2) 0 x0'.out.length x0'.out.length x0'_g2 false] ++ ((getBox S n0 t0).getD []).drop 3)) n0 (.cell t0 2) ⟨5, x0'.out.map eToken, x0'_z2, x0'_g2⟩)
def R_parse_blocks_body_1 (x0 : Attr) (x1 : List UInt8) (r0 : Bool) : Prop := ∀ (S : Sto) (n1 : Nat) (t1 : Nat), (getBox S n1 t1).map (List.take 1) = some [.str x1] → call SP 100 [.agg (eAttr x0), .ptr n1 t1 0] S = .ok (.v (.bool r0)) S
def R_parse_tokens_name (x0 : PTokens) (o : Option Int) (r0 : List UInt8) (x0' : PTokens) : Prop := ∀ (S : Sto) (n0 : Nat) (t0 : Nat), (getBox S n0 t0).map (List.take 2) = some [.list 5 (x0.l.map eToken) false, .int .i64 x0.pos] → call SP 101 [.ptr n0 t0 0] S = po 116 o (.v (.str r0)) (setBox S n0 t0 ([.list 5 (x0'.l.map eToken) false, .int .i64 x0'.pos] ++ ((getBox S n0 t0).getD []).drop 2))
def R_parse_tokens_is (x0 : PTokens) (x1 : List UInt8) (r0 : Bool) (x0' : PTokens) : Prop := ∀ (S : Sto) (n0 : Nat) (t0 : Nat), (getBox S n0 t0).map (List.take 2) = some [.list 5 (x0.l.map eToken) false, .int .i64 x0.pos] → call SP 102 [.ptr n0 t0 0, .str x1] S = .ok (.v (.bool r0)) (setBox S n0 t0 ([.list 5 (x0'.l.map eToken) false, .int .i64 x0'.pos] ++ ((getBox S n0 t0).getD []).drop 2))
def R_parse_exprs_chain (x0 : PExprs) (x0_g2 : Nat) (x0_z2 : Bool) (x1 : Int) (o : Option Int) (r0 : Int) (x0' : PExprs) (x0'_g2 : Nat) (x0'_z2 : Bool) : Prop := ∀ (S : Sto) (n0 : Nat) (t0 : Nat), (getBox S n0 t0).map (List.take 4) = some [.list 5 (x0.tokens.l.map eToken) false, .int .i64 x0.tokens.pos, .sl 0 (.cell t0 2) 0 x0.out.length x0.out.length x0_g2 false, .int .i64 x0.deep] ∧ getArr S n0 (.cell t0 2) = some ⟨5, x0.out.map eNode, x0_z2, x0_g2⟩ → call SP 103 [.ptr n0 t0 0, .int .i64 x1] S = po 116 o (.v (.int .i64 r0)) (setArr (setBox S n0 t0 ([.list 5 (x0'.tokens.l.map eToken) false, .int .i64 x0'.tokens.pos, .sl 0 (.cell t0 2) 0 x0'.out.length x0'.out.length x0'_g2 false, .int .i64 x0'.deep] ++ ((getBox S n0 t0).getD []).drop 4)) n0 (.cell t0 2) ⟨5, x0'.out.map eNode, x0'_z2, x0'_g2⟩)
def R_parse_exprs_open (x0 : PExprs) (x0_g2 : Nat) (x0_z2 : Bool) (x1 : List UInt8) (o : Option Int) (x0' : PExprs) (x0'_g2 : Nat) (x0'_z2 : Bool) : Prop := ∀ (S : Sto) (n0 : Nat) (t0 : Nat), (getBox S n0 t0).map (List.take 4) = some [.list 5 (x0.tokens.l.map eToken) false, .int .i64 x0.tokens.pos, .sl 0 (.cell t0 2) 0 x0.out.length x0.out.length x0_g2 false, .int .i64 x0.deep] ∧ getArr S n0 (.cell t0 2) = some ⟨5, x0.out.map eNode, x0_z2, x0_g2⟩ → call SP 104 [.ptr n0 t0 0, .str x1] S = po 116 o (.v (.tup [])) (setArr (setBox S n0 t0 ([.list 5 (x0'.tokens.l.map eToken) false, .int .i64 x0'.tokens.pos, .sl 0 (.cell t0 2) 0 x0'.out.length x0'.out.length x0'_g2 false, .int .i64 x0'.deep] ++ ((getBox S n0 t0).getD []).drop 4)) n0 (.cell t0 2) ⟨5, x0'.out.map eNode, x0'_z2, x0'_g2⟩)
def R_parse_exprs_put (x0 : PExprs) (x0_g2 : Nat) (x0_z2 : Bool) (x1 : Int) (x2 : List UInt8) (x3 : List Int) (r0 : Int) (x0' : PExprs) (x0'_g2 : Nat) (x0'_z2 : Bool) : Prop := ∀ (S : Sto) (n0 : Nat) (t0 : Nat), (getBox S n0 t0).map (List.take 4) = some [.list 5 (x0.tokens.l.map eToken) false, .int .i64 x0.tokens.pos, .sl 0 (.cell t0 2) 0 x0.out.length x0.out.length x0_g2 false, .int .i64 x0.deep] ∧ getArr S n0 (.cell t0 2) = some ⟨5, x0.out.map eNode, x0_z2, x0_g2⟩ → call SP 105 [.ptr n0 t0 0, .int .i64 x1, .str x2, .list 1 (x3.map eI) false] S = .ok (.v (.int .i64 r0)) (setArr (setBox S n0 t0 ([.list 5 (x0'.tokens.l.map eToken) false, .int .i64 x0'.tokens.pos, .sl 0 (.cell t0 2) 0 x0'.out.length x0'.out.length x0'_g2 false, .int .i64 x0'.deep] ++ ((getBox S n0 t0).getD []).drop 4)) n0 (.cell t0 2) ⟨5, x0'.out.map eNode, x0'_z2, x0'_g2⟩)
def R_lex_text_word (x0 : LText) (x1 : List Int) (r0 : List UInt8) (x0' : LText) : Prop := ∀ (S : Sto) (n0 : Nat) (t0 : Nat), (getBox S n0 t0).map (List.take 2) = some [.str x0.left, .int .i64 x0.pos] → call SP 134 [.ptr n0 t0 0, .list 1 (x1.map eI) false] S = .ok (.v (.str r0)) (setBox S n0 t0 ([.str x0'.left, .int .i64 x0'.pos] ++ ((getBox S n0 t0).getD []).drop 2))
def R_lex_text_take (x0 : LText) (x1 : Int) (r0 : List UInt8) (x0' : LText) : Prop := ∀ (S : Sto) (n0 : Nat) (t0 : Nat), (getBox S n0 t0).map (List.take 2) = some [.str x0.left, .int .i64 x0.pos] → call SP 135 [.ptr n0 t0 0, .int .i64 x1] S = .ok (.v (.str r0)) (setBox S n0 t0 ([.str x0'.left, .int .i64 x0'.pos] ++ ((getBox S n0 t0).getD []).drop 2))
def R_lex_tokens_sign (x0 : LTokens) (x0_g2 : Nat) (x0_z2 : Bool) (r0 : Token) (r1 : Bool) (x0' : LTokens) (x0'_g2 : Nat) (x0'_z2 : Bool) : Prop := ∀ (S : Sto) (n0 : Nat) (t0 : Nat), (getBox S n0 t0).map (List.take 3) = some [.str x0.text.left, .int .i64 x0.text.pos, .sl 0 (.cell t0 2) 0 x0.out.length x0.out.length x0_g2 false] ∧ getArr S n0 (.cell t0 2) = some ⟨5, x0.out.map eToken, x0_z2, x0_g2⟩ → call SP 136 [.ptr n0 t0 0] S = .ok (.v (.tup [.agg [.int .i64 r0.Kind, .str r0.Text, .int .i64 r0.Num, .list 2 (r0.Parts.map ePart) false, .int .i64 r0.At], .bool r1])) (setArr (setBox S n0 t0 ([.str x0'.text.left, .int .i64 x0'.text.pos, .sl 0 (.cell t0 2) 0 x0'.out.length x0'.out.length x0'_g2 false] ++ ((getBox S n0 t0).getD []).drop 3)) n0 (.cell t0 2) ⟨5, x0'.out.map eToken, x0'_z2, x0'_g2⟩)
def R_lex_tokens_name (x0 : LTokens) (x0_g2 : Nat) (x0_z2 : Bool) (r0 : Token) (r1 : Bool) (x0' : LTokens) (x0'_g2 : Nat) (x0'_z2 : Bool) : Prop := ∀ (S : Sto) (n0 : Nat) (t0 : Nat), (getBox S n0 t0).map (List.take 3) = some [.str x0.text.left, .int .i64 x0.text.pos, .sl 0 (.cell t0 2) 0 x0.out.length x0.out.length x0_g2 false] ∧ getArr S n0 (.cell t0 2) = some ⟨5, x0.out.map eToken, x0_z2, x0_g2⟩ → call SP 138 [.ptr n0 t0 0] S = .ok (.v (.tup [.agg [.int .i64 r0.Kind, .str r0.Text, .int .i64 r0.Num, .list 2 (r0.Parts.map ePart) false, .int .i64 r0.At], .bool r1])) (setArr (setBox S n0 t0 ([.str x0'.text.left, .int .i64 x0'.text.pos, .sl 0 (.cell t0 2) 0 x0'.out.length x0'.out.length x0'_g2 false] ++ ((getBox S n0 t0).getD []).drop 3)) n0 (.cell t0 2) ⟨5, x0'.out.map eToken, x0'_z2, x0'_g2⟩)
def R_lex_tokens_number (x0 : LTokens) (x0_g2 : Nat) (x0_z2 : Bool) (r0 : Token) (r1 : Bool) (x0' : LTokens) (x0'_g2 : Nat) (x0'_z2 : Bool) : Prop := ∀ (S : Sto) (n0 : Nat) (t0 : Nat), (getBox S n0 t0).map (List.take 3) = some [.str x0.text.left, .int .i64 x0.text.pos, .sl 0 (.cell t0 2) 0 x0.out.length x0.out.length x0_g2 false] ∧ getArr S n0 (.cell t0 2) = some ⟨5, x0.out.map eToken, x0_z2, x0_g2⟩ → call SP 139 [.ptr n0 t0 0] S = .ok (.v (.tup [.agg [.int .i64 r0.Kind, .str r0.Text, .int .i64 r0.Num, .list 2 (r0.Parts.map ePart) false, .int .i64 r0.At], .bool r1])) (setArr (setBox S n0 t0 ([.str x0'.text.left, .int .i64 x0'.text.pos, .sl 0 (.cell t0 2) 0 x0'.out.length x0'.out.length x0'_g2 false] ++ ((getBox S n0 t0).getD []).drop 3)) n0 (.cell t0 2) ⟨5, x0'.out.map eToken, x0'_z2, x0'_g2⟩)
def R_lex_tokens_quoted (x0 : LTokens) (x0_g2 : Nat) (x0_z2 : Bool) (r0 : Token) (r1 : Bool) (x0' : LTokens) (x0'_g2 : Nat) (x0'_z2 : Bool) : Prop := ∀ (S : Sto) (n0 : Nat) (t0 : Nat), (getBox S n0 t0).map (List.take 3) = some [.str x0.text.left, .int .i64 x0.text.pos, .sl 0 (.cell t0 2) 0 x0.out.length x0.out.length x0_g2 false] ∧ getArr S n0 (.cell t0 2) = some ⟨5, x0.out.map eToken, x0_z2, x0_g2⟩ → call SP 140 [.ptr n0 t0 0] S = .ok (.v (.tup [.agg [.int .i64 r0.Kind, .str r0.Text, .int .i64 r0.Num, .list 2 (r0.Parts.map ePart) false, .int .i64 r0.At], .bool r1])) (setArr (setBox S n0 t0 ([.str x0'.text.left, .int .i64 x0'.text.pos, .sl 0 (.cell t0 2) 0 x0'.out.length x0'.out.length x0'_g2 false] ++ ((getBox S n0 t0).getD []).drop 3)) n0 (.cell t0 2) ⟨5, x0'.out.map eToken, x0'_z2, x0'_g2⟩)
def R_parse_exprs_un (x0 : PExprs) (x0_g2 : Nat) (x0_z2 : Bool) (o : Option Int) (r0 : Int) (x0' : PExprs) (x0'_g2 : Nat) (x0'_z2 : Bool) : Prop := ∀ (S : Sto) (n0 : Nat) (t0 : Nat), (getBox S n0 t0).map (List.take 4) = some [.list 5 (x0.tokens.l.map eToken) false, .int .i64 x0.tokens.pos, .sl 0 (.cell t0 2) 0 x0.out.length x0.out.length x0_g2 false, .int .i64 x0.deep] ∧ getArr S n0 (.cell t0 2) = some ⟨5, x0.out.map eNode, x0_z2, x0_g2⟩ → call SP 142 [.ptr n0 t0 0] S = po 116 o (.v (.int .i64 r0)) (setArr (setBox S n0 t0 ([.list 5 (x0'.tokens.l.map eToken) false, .int .i64 x0'.tokens.pos, .sl 0 (.cell t0 2) 0 x0'.out.length x0'.out.length x0'_g2 false, .int .i64 x0'.deep] ++ ((getBox S n0 t0).getD []).drop 4)) n0 (.cell t0 2) ⟨5, x0'.out.map eNode, x0'_z2, x0'_g2⟩)
def R_lex_parts_plain (x0 : List Part) (x0_g0 : Nat) (x0_z0 : Bool) (x1 : UInt8) (x0' : List Part) (x0'_g0 : Nat) (x0'_z0 : Bool) : Prop := ∀ (S : Sto) (n0 : Nat) (t0 : Nat), (getBox S n0 t0).map (List.take 1) = some [.sl 0 (.cell t0 0) 0 x0.length x0.length x0_g0 false] ∧ getArr S n0 (.cell t0 0) = some ⟨2, x0.map ePart, x0_z0, x0_g0⟩ → call SP 165 [.ptr n0 t0 0, .int .u8 ((x1.toNat : Nat) : Int)] S = .ok (.v (.tup [])) (setArr (setBox S n0 t0 ([.sl 0 (.cell t0 0) 0 x0'.length x0'.length x0'_g0 false] ++ ((getBox S n0 t0).getD []).drop 1)) n0 (.cell t0 0) ⟨2, x0'.map ePart, x0'_z0, x0'_g0⟩)
def R_parse_exprs_post (x0 : PExprs) (x0_g2 : Nat) (x0_z2 : Bool) (o : Option Int) (r0 : Int) (x0' : PExprs) (x0'_g2 : Nat) (x0'_z2 : Bool) : Prop := ∀ (S : Sto) (n0 : Nat) (t0 : Nat), (getBox S n0 t0).map (List.take 4) = some [.list 5 (x0.tokens.l.map eToken) false, .int .i64 x0.tokens.pos, .sl 0 (.cell t0 2) 0 x0.out.length x0.out.length x0_g2 false, .int .i64 x0.deep] ∧ getArr S n0 (.cell t0 2) = some ⟨5, x0.out.map eNode, x0_z2, x0_g2⟩ → call SP 167 [.ptr n0 t0 0] S = po 116 o (.v (.int .i64 r0)) (setArr (setBox S n0 t0 ([.list 5 (x0'.tokens.l.map eToken) false, .int .i64 x0'.tokens.pos, .sl 0 (.cell t0 2) 0 x0'.out.length x0'.out.length x0'_g2 false, .int .i64 x0'.deep] ++ ((getBox S n0 t0).getD []).drop 4)) n0 (.cell t0 2) ⟨5, x0'.out.map eNode, x0'_z2, x0'_g2⟩)
def R_parse_exprs_prim (x0 : PExprs) (x0_g2 : Nat) (x0_z2 : Bool) (o : Option Int) (r0 : Int) (x0' : PExprs) (x0'_g2 : Nat) (x0'_z2 : Bool) : Prop := ∀ (S : Sto) (n0 : Nat) (t0 : Nat), (getBox S n0 t0).map (List.take 4) = some [.list 5 (x0.tokens.l.map eToken) false, .int .i64 x0.tokens.pos, .sl 0 (.cell t0 2) 0 x0.out.length x0.out.length x0_g2 false, .int .i64 x0.deep] ∧ getArr S n0 (.cell t0 2) = some ⟨5, x0.out.map eNode, x0_z2, x0_g2⟩ → call SP 180 [.ptr n0 t0 0] S = po 116 o (.v (.int .i64 r0)) (setArr (setBox S n0 t0 ([.list 5 (x0'.tokens.l.map eToken) false, .int .i64 x0'.tokens.pos, .sl 0 (.cell t0 2) 0 x0'.out.length x0'.out.length x0'_g2 false, .int .i64 x0'.deep] ++ ((getBox S n0 t0).getD []).drop 4)) n0 (.cell t0 2) ⟨5, x0'.out.map eNode, x0'_z2, x0'_g2⟩)
def R_parse_exprs_shut (x0 : PExprs) (x0_g2 : Nat) (x0_z2 : Bool) (x1 : List UInt8) (o : Option Int) (x0' : PExprs) (x0'_g2 : Nat) (x0'_z2 : Bool) : Prop := ∀ (S : Sto) (n0 : Nat) (t0 : Nat), (getBox S n0 t0).map (List.take 4) = some [.list 5 (x0.tokens.l.map eToken) false, .int .i64 x0.tokens.pos, .sl 0 (.cell t0 2) 0 x0.out.length x0.out.length x0_g2 false, .int .i64 x0.deep] ∧ getArr S n0 (.cell t0 2) = some ⟨5, x0.out.map eNode, x0_z2, x0_g2⟩ → call SP 181 [.ptr n0 t0 0, .str x1] S = po 116 o (.v (.tup [])) (setArr (setBox S n0 t0 ([.list 5 (x0'.tokens.l.map eToken) false, .int .i64 x0'.tokens.pos, .sl 0 (.cell t0 2) 0 x0'.out.length x0'.out.length x0'_g2 false, .int .i64 x0'.deep] ++ ((getBox S n0 t0).getD []).drop 4)) n0 (.cell t0 2) ⟨5, x0'.out.map eNode, x0'_z2, x0'_g2⟩)
def R_parse_exprs_word (x0 : PExprs) (x0_g2 : Nat) (x0_z2 : Bool) (o : Option Int) (r0 : Int) (x0' : PExprs) (x0'_g2 : Nat) (x0'_z2 : Bool) : Prop := ∀ (S : Sto) (n0 : Nat) (t0 : Nat), (getBox S n0 t0).map (List.take 4) = some [.list 5 (x0.tokens.l.map eToken) false, .int .i64 x0.tokens.pos, .sl 0 (.cell t0 2) 0 x0.out.length x0.out.length x0_g2 false, .int .i64 x0.deep] ∧ getArr S n0 (.cell t0 2) = some ⟨5, x0.out.map eNode, x0_z2, x0_g2⟩ → call SP 201 [.ptr n0 t0 0] S = po 116 o (.v (.int .i64 r0)) (setArr (setBox S n0 t0 ([.list 5 (x0'.tokens.l.map eToken) false, .int .i64 x0'.tokens.pos, .sl 0 (.cell t0 2) 0 x0'.out.length x0'.out.length x0'_g2 false, .int .i64 x0'.deep] ++ ((getBox S n0 t0).getD []).drop 4)) n0 (.cell t0 2) ⟨5, x0'.out.map eNode, x0'_z2, x0'_g2⟩)
def R_parse_exprs_num (x0 : PExprs) (x0_g2 : Nat) (x0_z2 : Bool) (x1 : Int) (x2 : Int) (r0 : Int) (x0' : PExprs) (x0'_g2 : Nat) (x0'_z2 : Bool) : Prop := ∀ (S : Sto) (n0 : Nat) (t0 : Nat), (getBox S n0 t0).map (List.take 4) = some [.list 5 (x0.tokens.l.map eToken) false, .int .i64 x0.tokens.pos, .sl 0 (.cell t0 2) 0 x0.out.length x0.out.length x0_g2 false, .int .i64 x0.deep] ∧ getArr S n0 (.cell t0 2) = some ⟨5, x0.out.map eNode, x0_z2, x0_g2⟩ → call SP 202 [.ptr n0 t0 0, .int .i64 x1, .int .i64 x2] S = .ok (.v (.int .i64 r0)) (setArr (setBox S n0 t0 ([.list 5 (x0'.tokens.l.map eToken) false, .int .i64 x0'.tokens.pos, .sl 0 (.cell t0 2) 0 x0'.out.length x0'.out.length x0'_g2 false, .int .i64 x0'.deep] ++ ((getBox S n0 t0).getD []).drop 4)) n0 (.cell t0 2) ⟨5, x0'.out.map eNode, x0'_z2, x0'_g2⟩)
def R_parse_exprs_many (x0 : PExprs) (x0_g2 : Nat) (x0_z2 : Bool) (x1 : List UInt8) (o : Option Int) (r0 : List Int) (x0' : PExprs) (x0'_g2 : Nat) (x0'_z2 : Bool) : Prop := ∀ (S : Sto) (n0 : Nat) (t0 : Nat), (getBox S n0 t0).map (List.take 4) = some [.list 5 (x0.tokens.l.map eToken) false, .int .i64 x0.tokens.pos, .sl 0 (.cell t0 2) 0 x0.out.length x0.out.length x0_g2 false, .int .i64 x0.deep] ∧ getArr S n0 (.cell t0 2) = some ⟨5, x0.out.map eNode, x0_z2, x0_g2⟩ → call SP 203 [.ptr n0 t0 0, .str x1] S = po 116 o (.arr 1 (r0.map eI) false) (setArr (setBox S n0 t0 ([.list 5 (x0'.tokens.l.map eToken) false, .int .i64 x0'.tokens.pos, .sl 0 (.cell t0 2) 0 x0'.out.length x0'.out.length x0'_g2 false, .int .i64 x0'.deep] ++ ((getBox S n0 t0).getD []).drop 4)) n0 (.cell t0 2) ⟨5, x0'.out.map eNode, x0'_z2, x0'_g2⟩)
end Go.Proofs.YtfbcnpbhhooapaaGreatDoor.M

/- The machine's code of the functions, printed by a program of this session (sc2.py) out of the translation. Not trusted: Lean checks each by its own computation. -/
namespace Go.Proofs.YtfbcnpbhhooapaaGreatDoor.M
open Go
set_option linter.unusedVariables false
/-- doorkeeper/parse.kids -/
def c_parse_kids_1 : SC := .seq (.reg [⟨(some 2), none, (.v (.mov (.c (.int .i64 2))))⟩]) .ret
def c_parse_kids_2 : SC := .cond (.t 3) (.seq (.reg [⟨(some 2), none, (.v (.mov (.c (.int .i64 (-2)))))⟩]) .ret) (.seq (.reg [⟨(some 11), none, (.v (.mov (.t 0)))⟩, ⟨(some 12), none, (.v (.bin .leq (.t 11) (.c (.int .i64 4))))⟩, ⟨(some 10), none, (.v (.mov (.t 12)))⟩]) (.cond (.t 10) (.seq (.reg [⟨(some 2), none, (.v (.mov (.c (.int .i64 0))))⟩]) .ret) (.seq (.reg [⟨(some 14), none, (.v (.mov (.t 0)))⟩, ⟨(some 15), none, (.v (.bin .eql (.t 14) (.c (.int .i64 5))))⟩, ⟨(some 16), none, (.v (.mov (.t 15)))⟩, ⟨(some 17), (some (16, false)), (.v (.mov (.t 0)))⟩, ⟨(some 18), (some (16, false)), (.v (.bin .eql (.t 17) (.c (.int .i64 6))))⟩, ⟨(some 19), none, (.v (.pick (.t 16) (.c (.bool true)) (.t 18)))⟩, ⟨(some 13), none, (.v (.mov (.t 19)))⟩]) (.cond (.t 13) (.seq (.reg [⟨(some 2), none, (.v (.mov (.c (.int .i64 (-1)))))⟩]) .ret) (.seq (.reg [⟨(some 21), none, (.v (.mov (.t 0)))⟩, ⟨(some 22), none, (.v (.bin .eql (.t 21) (.c (.int .i64 8))))⟩, ⟨(some 23), none, (.v (.mov (.t 22)))⟩, ⟨(some 24), (some (23, false)), (.v (.mov (.t 0)))⟩, ⟨(some 25), (some (23, false)), (.v (.bin .eql (.t 24) (.c (.int .i64 9))))⟩, ⟨(some 26), none, (.v (.pick (.t 23) (.c (.bool true)) (.t 25)))⟩, ⟨(some 20), none, (.v (.mov (.t 26)))⟩]) (.cond (.t 20) (.seq (.reg [⟨(some 2), none, (.v (.mov (.c (.int .i64 1))))⟩]) .ret) (.seq (.reg [⟨(some 28), none, (.v (.mov (.t 0)))⟩, ⟨(some 29), none, (.v (.bin .eql (.t 28) (.c (.int .i64 10))))⟩, ⟨(some 27), none, (.v (.mov (.t 29)))⟩]) (.cond (.t 27) (.seq (.reg [⟨(some 2), none, (.v (.mov (.c (.int .i64 3))))⟩]) .ret) .skip))))))))
def c_parse_kids_3 : SC := .seq (.block 0 (.seq (.reg [⟨(some 4), none, (.v (.mov (.t 0)))⟩, ⟨(some 5), none, (.v (.bin .lss (.t 4) (.c (.int .i64 1))))⟩, ⟨(some 6), none, (.v (.mov (.t 5)))⟩, ⟨(some 7), (some (6, false)), (.v (.mov (.t 0)))⟩, ⟨(some 8), (some (6, false)), (.v (.bin .gtr (.t 7) (.c (.int .i64 23))))⟩, ⟨(some 9), none, (.v (.pick (.t 6) (.c (.bool true)) (.t 8)))⟩, ⟨(some 3), none, (.v (.mov (.t 9)))⟩]) c_parse_kids_2)) c_parse_kids_1
def sc_parse_kids : SFunc := ⟨1, 30, .seq (.reg [⟨(some 2), none, (.v (.mov (.c (.int .i64 0))))⟩]) c_parse_kids_3, [(.t 2)]⟩
theorem U_parse_kids : type_of% (And.intro (fun (SP : Prg) (ac : Ac) => congrFun (congrArg (E SP) c_parse_kids_1.eq_1) ac) <| And.intro (fun (SP : Prg) (ac : Ac) => congrFun (congrArg (E SP) c_parse_kids_2.eq_1) ac) <| And.intro (fun (SP : Prg) (ac : Ac) => congrFun (congrArg (E SP) c_parse_kids_3.eq_1) ac) <| sc_parse_kids.eq_1) := And.intro (fun (SP : Prg) (ac : Ac) => congrFun (congrArg (E SP) c_parse_kids_1.eq_1) ac) <| And.intro (fun (SP : Prg) (ac : Ac) => congrFun (congrArg (E SP) c_parse_kids_2.eq_1) ac) <| And.intro (fun (SP : Prg) (ac : Ac) => congrFun (congrArg (E SP) c_parse_kids_3.eq_1) ac) <| sc_parse_kids.eq_1
theorem comp_parse_kids : comp Tryz.prog Tryz.f73 = some sc_parse_kids := by kernel_rfl
/-- doorkeeper/parse.truth -/
def sc_parse_truth : SFunc := ⟨1, 9, .seq (.reg [⟨(some 2), none, (.v (.mov (.c (.bool false))))⟩]) (.seq (.reg [⟨(some 3), none, (.v (.mov (.t 0)))⟩, ⟨(some 4), none, (.v (.bin .eql (.t 3) (.c (.str [116, 114, 117, 101]))))⟩, ⟨(some 5), none, (.v (.mov (.t 4)))⟩, ⟨(some 6), (some (5, false)), (.v (.mov (.t 0)))⟩, ⟨(some 7), (some (5, false)), (.v (.bin .eql (.t 6) (.c (.str [102, 97, 108, 115, 101]))))⟩, ⟨(some 8), none, (.v (.pick (.t 5) (.c (.bool true)) (.t 7)))⟩, ⟨(some 2), none, (.v (.mov (.t 8)))⟩]) .ret), [(.t 2)]⟩
theorem U_parse_truth : type_of% (sc_parse_truth.eq_1) := sc_parse_truth.eq_1
theorem comp_parse_truth : comp Tryz.prog Tryz.f114 = some sc_parse_truth := by kernel_rfl
/-- doorkeeper/parse.Ref -/
def sc_parse_Ref : SFunc := ⟨1, 21, .seq (.reg [⟨(some 2), none, (.v (.mov (.c (.bool false))))⟩]) (.seq (.reg [⟨(some 7), none, (.v (.mov (.t 0)))⟩, ⟨(some 8), none, (.call (.c (.func 112 [])) [(.t 7), (.c (.str [46]))])⟩, ⟨(some 6), none, (.v (.mov (.t 8)))⟩, ⟨(some 9), none, (.v (.extract 0 (.t 6)))⟩, ⟨(some 10), none, (.v (.extract 1 (.t 6)))⟩, ⟨(some 11), none, (.v (.extract 2 (.t 6)))⟩, ⟨(some 3), none, (.v (.mov (.t 9)))⟩, ⟨(some 4), none, (.v (.mov (.t 10)))⟩, ⟨(some 5), none, (.v (.mov (.t 11)))⟩]) (.seq (.reg [⟨(some 12), none, (.v (.mov (.t 5)))⟩, ⟨(some 13), none, (.v (.mov (.t 12)))⟩, ⟨(some 14), (some (13, true)), (.v (.mov (.t 3)))⟩, ⟨(some 15), (some (13, true)), (.call (.c (.func 115 [])) [(.t 14)])⟩, ⟨(some 16), none, (.v (.pick (.t 13) (.t 15) (.c (.bool false))))⟩, ⟨(some 17), none, (.v (.mov (.t 16)))⟩, ⟨(some 18), (some (17, true)), (.v (.mov (.t 4)))⟩, ⟨(some 19), (some (17, true)), (.call (.c (.func 115 [])) [(.t 18)])⟩, ⟨(some 20), none, (.v (.pick (.t 17) (.t 19) (.c (.bool false))))⟩, ⟨(some 2), none, (.v (.mov (.t 20)))⟩]) .ret)), [(.t 2)]⟩
theorem U_parse_Ref : type_of% (sc_parse_Ref.eq_1) := sc_parse_Ref.eq_1
theorem comp_parse_Ref : comp Tryz.prog Tryz.f113 = some sc_parse_Ref := by kernel_rfl
/-- doorkeeper/parse.printed -/
def c_parse_printed_1 : SC := .seq (.reg [⟨(some 2), none, (.v (.mov (.c (.bool true))))⟩]) .ret
def b_parse_printed_1 : SC := .seq (.reg [⟨(some 7), none, (.v (.bin .lss (.t 6) (.t 5)))⟩]) (.seq (.cond (.t 7) .skip (.exit 0)) (.seq (.block 1 (.seq (.reg [⟨(some 8), none, (.v (.mov (.t 6)))⟩, ⟨(some 3), none, (.v (.mov (.t 8)))⟩]) (.seq (.reg [⟨(some 9), none, (.v (.mov (.t 0)))⟩, ⟨(some 10), none, (.v (.mov (.t 3)))⟩, ⟨(some 11), none, (.v (.istr (.t 9) (.t 10)))⟩, ⟨(some 12), none, (.v (.bin .lss (.t 11) (.c (.int .u8 32))))⟩, ⟨(some 13), none, (.v (.mov (.t 12)))⟩, ⟨(some 14), (some (13, true)), (.v (.mov (.t 0)))⟩, ⟨(some 15), (some (13, true)), (.v (.mov (.t 3)))⟩, ⟨(some 16), (some (13, true)), (.v (.istr (.t 14) (.t 15)))⟩, ⟨(some 17), (some (13, true)), (.v (.bin .neq (.t 16) (.c (.int .u8 10))))⟩, ⟨(some 18), none, (.v (.pick (.t 13) (.t 17) (.c (.bool false))))⟩]) (.cond (.t 18) (.seq (.reg [⟨(some 2), none, (.v (.mov (.c (.bool false))))⟩]) .ret) .skip)))) (.reg [⟨(some 19), none, (.v (.bin .add (.t 6) (.c (.int .i64 1))))⟩, ⟨(some 6), none, (.v (.mov (.t 19)))⟩])))
def sc_parse_printed : SFunc := ⟨1, 20, .seq (.reg [⟨(some 2), none, (.v (.mov (.c (.bool false))))⟩]) (.seq (.seq (.reg [⟨(some 4), none, (.v (.mov (.t 0)))⟩, ⟨(some 5), none, (.v (.len true (.t 4)))⟩, ⟨(some 6), none, (.v (.mov (.c (.int .i64 0))))⟩]) (.block 0 (.loop b_parse_printed_1))) c_parse_printed_1), [(.t 2)]⟩
noncomputable def k_parse_printed_1 (SP : Prg) (x : EO) : CO := fin [(.t 2)] (thC SP (inBlk 0 (x)) c_parse_printed_1)
theorem U_parse_printed : type_of% (And.intro (fun (SP : Prg) (ac : Ac) => congrFun (congrArg (E SP) c_parse_printed_1.eq_1) ac) <| And.intro (fun (SP : Prg) (ac : Ac) => congrFun (congrArg (E SP) b_parse_printed_1.eq_1) ac) <| sc_parse_printed.eq_1) := And.intro (fun (SP : Prg) (ac : Ac) => congrFun (congrArg (E SP) c_parse_printed_1.eq_1) ac) <| And.intro (fun (SP : Prg) (ac : Ac) => congrFun (congrArg (E SP) b_parse_printed_1.eq_1) ac) <| sc_parse_printed.eq_1
theorem comp_parse_printed : comp Tryz.prog Tryz.f152 = some sc_parse_printed := by kernel_rfl
/-- doorkeeper/parse.parts -/
def c_parse_parts_1 : SC := .seq (.reg [⟨(some 2), none, (.v (.mov (.c (.bool true))))⟩]) .ret
def c_parse_parts_2 : SC := .reg [⟨(some 40), none, (.v (.bin .add (.t 7) (.c (.int .i64 1))))⟩, ⟨(some 7), none, (.v (.mov (.t 40)))⟩]
def c_parse_parts_3 : SC := .seq (.reg [⟨(some 18), none, (.v (.faddr 1 (.t 4)))⟩, ⟨(some 19), none, (.v (.load none (.t 18)))⟩, ⟨(some 20), none, (.v (.bin .eql (.t 19) (.c (.str []))))⟩, ⟨(some 21), none, (.v (.mov (.t 20)))⟩, ⟨(some 22), (some (21, false)), (.v (.mov (.t 3)))⟩, ⟨(some 23), (some (21, false)), (.v (.bin .gtr (.t 22) (.c (.int .i64 0))))⟩, ⟨(some 24), (some (21, false)), (.v (.mov (.t 23)))⟩, ⟨(some 25), (some (24, true)), (.v (.mov (.t 0)))⟩, ⟨(some 26), (some (24, true)), (.v (.mov (.t 3)))⟩, ⟨(some 27), (some (24, true)), (.v (.bin .sub (.t 26) (.c (.int .i64 1))))⟩, ⟨(some 28), (some (24, true)), (.v (.iaddr 2 (.t 25) (.t 27)))⟩, ⟨(some 29), (some (24, true)), (.v (.faddr 0 (.t 28)))⟩, ⟨(some 30), (some (24, true)), (.v (.load none (.t 29)))⟩, ⟨(some 31), (some (24, true)), (.v (.un .not (.t 30)))⟩, ⟨(some 32), (some (21, false)), (.v (.pick (.t 24) (.t 31) (.c (.bool false))))⟩, ⟨(some 33), none, (.v (.pick (.t 21) (.c (.bool true)) (.t 32)))⟩, ⟨(some 34), none, (.v (.mov (.t 33)))⟩, ⟨(some 35), (some (34, false)), (.v (.faddr 1 (.t 4)))⟩, ⟨(some 36), (some (34, false)), (.v (.load none (.t 35)))⟩, ⟨(some 37), (some (34, false)), (.call (.c (.func 152 [])) [(.t 36)])⟩, ⟨(some 38), (some (34, false)), (.v (.un .not (.t 37)))⟩, ⟨(some 39), none, (.v (.pick (.t 34) (.c (.bool true)) (.t 38)))⟩]) (.cond (.t 39) (.seq (.reg [⟨(some 2), none, (.v (.mov (.c (.bool false))))⟩]) .ret) .skip)
def c_parse_parts_4 : SC := .seq (.seq (.reg [⟨(some 12), none, (.v (.faddr 0 (.t 4)))⟩, ⟨(some 13), none, (.v (.load none (.t 12)))⟩]) (.cond (.t 13) (.seq (.seq (.reg [⟨(some 14), none, (.v (.faddr 1 (.t 4)))⟩, ⟨(some 15), none, (.v (.load none (.t 14)))⟩, ⟨(some 16), none, (.call (.c (.func 113 [])) [(.t 15)])⟩, ⟨(some 17), none, (.v (.un .not (.t 16)))⟩]) (.cond (.t 17) (.seq (.reg [⟨(some 2), none, (.v (.mov (.c (.bool false))))⟩]) .ret) .skip)) (.exit 1)) .skip)) c_parse_parts_3
def c_parse_parts_5 : SC := .seq (.block 1 (.seq (.reg [⟨(some 9), none, (.v (.mov (.t 7)))⟩, ⟨(some 10), none, (.v (.iaddr 2 (.t 5) (.t 7)))⟩, ⟨(some 11), none, (.v (.load (some 2) (.t 10)))⟩, ⟨(some 4), none, (.alloc [(.bool false), (.str [])])⟩, ⟨(some 3), none, (.v (.mov (.t 9)))⟩, ⟨none, none, (.store 2 (.t 4) (.t 11))⟩]) c_parse_parts_4)) c_parse_parts_2
def c_parse_parts_6 : SC := .seq (.cond (.t 8) .skip (.exit 0)) c_parse_parts_5
def b_parse_parts_1 : SC := .seq (.reg [⟨(some 8), none, (.v (.bin .lss (.t 7) (.t 6)))⟩]) c_parse_parts_6
def c_parse_parts_7 : SC := .block 0 (.loop b_parse_parts_1)
def c_parse_parts_8 : SC := .seq (.seq (.reg [⟨(some 5), none, (.v (.mov (.t 0)))⟩, ⟨(some 6), none, (.v (.len false (.t 5)))⟩, ⟨(some 7), none, (.v (.mov (.c (.int .i64 0))))⟩]) c_parse_parts_7) c_parse_parts_1
def sc_parse_parts : SFunc := ⟨1, 41, .seq (.reg [⟨(some 2), none, (.v (.mov (.c (.bool false))))⟩]) c_parse_parts_8, [(.t 2)]⟩
noncomputable def k_parse_parts_1 (SP : Prg) (x : EO) : CO := fin [(.t 2)] (thC SP (inBlk 0 (x)) c_parse_parts_1)
theorem U_parse_parts : type_of% (And.intro (fun (SP : Prg) (ac : Ac) => congrFun (congrArg (E SP) c_parse_parts_1.eq_1) ac) <| And.intro (fun (SP : Prg) (ac : Ac) => congrFun (congrArg (E SP) c_parse_parts_2.eq_1) ac) <| And.intro (fun (SP : Prg) (ac : Ac) => congrFun (congrArg (E SP) c_parse_parts_3.eq_1) ac) <| And.intro (fun (SP : Prg) (ac : Ac) => congrFun (congrArg (E SP) c_parse_parts_4.eq_1) ac) <| And.intro (fun (SP : Prg) (ac : Ac) => congrFun (congrArg (E SP) c_parse_parts_5.eq_1) ac) <| And.intro (fun (SP : Prg) (ac : Ac) => congrFun (congrArg (E SP) c_parse_parts_6.eq_1) ac) <| And.intro (fun (SP : Prg) (ac : Ac) => congrFun (congrArg (E SP) b_parse_parts_1.eq_1) ac) <| And.intro (fun (SP : Prg) (ac : Ac) => congrFun (congrArg (E SP) c_parse_parts_7.eq_1) ac) <| And.intro (fun (SP : Prg) (ac : Ac) => congrFun (congrArg (E SP) c_parse_parts_8.eq_1) ac) <| sc_parse_parts.eq_1) := And.intro (fun (SP : Prg) (ac : Ac) => congrFun (congrArg (E SP) c_parse_parts_1.eq_1) ac) <| And.intro (fun (SP : Prg) (ac : Ac) => congrFun (congrArg (E SP) c_parse_parts_2.eq_1) ac) <| And.intro (fun (SP : Prg) (ac : Ac) => congrFun (congrArg (E SP) c_parse_parts_3.eq_1) ac) <| And.intro (fun (SP : Prg) (ac : Ac) => congrFun (congrArg (E SP) c_parse_parts_4.eq_1) ac) <| And.intro (fun (SP : Prg) (ac : Ac) => congrFun (congrArg (E SP) c_parse_parts_5.eq_1) ac) <| And.intro (fun (SP : Prg) (ac : Ac) => congrFun (congrArg (E SP) c_parse_parts_6.eq_1) ac) <| And.intro (fun (SP : Prg) (ac : Ac) => congrFun (congrArg (E SP) b_parse_parts_1.eq_1) ac) <| And.intro (fun (SP : Prg) (ac : Ac) => congrFun (congrArg (E SP) c_parse_parts_7.eq_1) ac) <| And.intro (fun (SP : Prg) (ac : Ac) => congrFun (congrArg (E SP) c_parse_parts_8.eq_1) ac) <| sc_parse_parts.eq_1
theorem comp_parse_parts : comp Tryz.prog Tryz.f116 = some sc_parse_parts := by kernel_rfl
/-- doorkeeper/parse.plain -/
def c_parse_plain_1 : SC := .seq (.reg [⟨(some 69), none, (.v (.mov (.t 3)))⟩, ⟨(some 70), none, (.v (.mov (.t 69)))⟩, ⟨(some 71), (some (70, true)), (.v (.mov (.t 4)))⟩, ⟨(some 72), none, (.v (.pick (.t 70) (.t 71) (.c (.bool false))))⟩, ⟨(some 73), none, (.v (.mov (.t 72)))⟩, ⟨(some 74), (some (73, true)), (.v (.mov (.t 5)))⟩, ⟨(some 75), none, (.v (.pick (.t 73) (.t 74) (.c (.bool false))))⟩, ⟨(some 2), none, (.v (.mov (.t 75)))⟩]) .ret
def c_parse_plain_2 : SC := .cond (.t 36) (.seq (.reg [⟨(some 39), none, (.v (.faddr 2 (.t 1)))⟩, ⟨(some 40), none, (.v (.load none (.t 39)))⟩, ⟨(some 41), none, (.call (.c (.func 112 [])) [(.t 40), (.c (.str [46]))])⟩, ⟨(some 38), none, (.v (.mov (.t 41)))⟩, ⟨(some 42), none, (.v (.extract 0 (.t 38)))⟩, ⟨(some 43), none, (.v (.extract 1 (.t 38)))⟩, ⟨(some 44), none, (.v (.extract 2 (.t 38)))⟩, ⟨(some 6), none, (.v (.mov (.t 42)))⟩, ⟨(some 7), none, (.v (.mov (.t 43)))⟩, ⟨(some 8), none, (.v (.mov (.t 44)))⟩]) (.reg [⟨(some 45), none, (.v (.faddr 2 (.t 1)))⟩, ⟨(some 46), none, (.v (.load none (.t 45)))⟩, ⟨(some 47), none, (.call (.c (.func 113 [])) [(.t 46)])⟩, ⟨(some 48), none, (.v (.mov (.t 47)))⟩, ⟨(some 49), (some (48, true)), (.v (.mov (.t 6)))⟩, ⟨(some 50), (some (48, true)), (.call (.c (.func 114 [])) [(.t 49)])⟩, ⟨(some 51), (some (48, true)), (.v (.un .not (.t 50)))⟩, ⟨(some 52), none, (.v (.pick (.t 48) (.t 51) (.c (.bool false))))⟩, ⟨(some 4), none, (.v (.mov (.t 52)))⟩])) (.seq (.reg [⟨(some 54), none, (.v (.bin .eql (.t 20) (.c (.int .i64 5))))⟩, ⟨(some 53), none, (.v (.mov (.t 54)))⟩]) (.cond (.t 53) (.reg [⟨(some 55), none, (.v (.faddr 2 (.t 1)))⟩, ⟨(some 56), none, (.v (.load none (.t 55)))⟩, ⟨(some 57), none, (.call (.c (.func 115 [])) [(.t 56)])⟩, ⟨(some 58), none, (.v (.mov (.t 57)))⟩, ⟨(some 59), (some (58, true)), (.v (.faddr 2 (.t 1)))⟩, ⟨(some 60), (some (58, true)), (.v (.load none (.t 59)))⟩, ⟨(some 61), (some (58, true)), (.call (.c (.func 114 [])) [(.t 60)])⟩, ⟨(some 62), (some (58, true)), (.v (.un .not (.t 61)))⟩, ⟨(some 63), none, (.v (.pick (.t 58) (.t 62) (.c (.bool false))))⟩, ⟨(some 4), none, (.v (.mov (.t 63)))⟩]) (.seq (.reg [⟨(some 65), none, (.v (.bin .eql (.t 20) (.c (.int .i64 2))))⟩, ⟨(some 64), none, (.v (.mov (.t 65)))⟩]) (.cond (.t 64) (.reg [⟨(some 66), none, (.v (.faddr 3 (.t 1)))⟩, ⟨(some 67), none, (.v (.load none (.t 66)))⟩, ⟨(some 68), none, (.call (.c (.func 116 [])) [(.t 67)])⟩, ⟨(some 5), none, (.v (.mov (.t 68)))⟩]) .skip))))
def c_parse_plain_3 : SC := .cond (.t 26) (.reg [⟨(some 28), none, (.v (.faddr 1 (.t 1)))⟩, ⟨(some 29), none, (.v (.load none (.t 28)))⟩, ⟨(some 30), none, (.v (.bin .eql (.t 29) (.c (.int .i64 0))))⟩, ⟨(some 31), none, (.v (.mov (.t 30)))⟩, ⟨(some 32), (some (31, false)), (.v (.faddr 1 (.t 1)))⟩, ⟨(some 33), (some (31, false)), (.v (.load none (.t 32)))⟩, ⟨(some 34), (some (31, false)), (.v (.bin .eql (.t 33) (.c (.int .i64 1))))⟩, ⟨(some 35), none, (.v (.pick (.t 31) (.c (.bool true)) (.t 34)))⟩, ⟨(some 3), none, (.v (.mov (.t 35)))⟩]) (.seq (.reg [⟨(some 37), none, (.v (.bin .eql (.t 20) (.c (.int .i64 4))))⟩, ⟨(some 36), none, (.v (.mov (.t 37)))⟩]) c_parse_plain_2)
def c_parse_plain_4 : SC := .cond (.t 21) (.reg [⟨(some 23), none, (.v (.faddr 1 (.t 1)))⟩, ⟨(some 24), none, (.v (.load none (.t 23)))⟩, ⟨(some 25), none, (.v (.bin .geq (.t 24) (.c (.int .i64 0))))⟩, ⟨(some 3), none, (.v (.mov (.t 25)))⟩]) (.seq (.reg [⟨(some 27), none, (.v (.bin .eql (.t 20) (.c (.int .i64 3))))⟩, ⟨(some 26), none, (.v (.mov (.t 27)))⟩]) c_parse_plain_3)
def c_parse_plain_5 : SC := .block 0 (.seq (.reg [⟨(some 22), none, (.v (.bin .eql (.t 20) (.c (.int .i64 1))))⟩, ⟨(some 21), none, (.v (.mov (.t 22)))⟩]) c_parse_plain_4)
def c_parse_plain_6 : SC := .seq (.seq (.reg [⟨(some 19), none, (.v (.faddr 0 (.t 1)))⟩, ⟨(some 20), none, (.v (.load none (.t 19)))⟩]) c_parse_plain_5) c_parse_plain_1
def c_parse_plain_7 : SC := .seq (.dreg [⟨(some 9), none, (.v (.faddr 1 (.t 1)))⟩, ⟨(some 10), none, (.v (.load none (.t 9)))⟩, ⟨(some 11), none, (.v (.bin .eql (.t 10) (.c (.int .i64 0))))⟩, ⟨(some 12), none, (.v (.faddr 2 (.t 1)))⟩, ⟨(some 13), none, (.v (.load none (.t 12)))⟩, ⟨(some 14), none, (.v (.bin .eql (.t 13) (.c (.str []))))⟩, ⟨(some 15), none, (.v (.faddr 3 (.t 1)))⟩, ⟨(some 16), none, (.v (.load none (.t 15)))⟩, ⟨(some 17), none, (.v (.len false (.t 16)))⟩, ⟨(some 18), none, (.v (.bin .eql (.t 17) (.c (.int .i64 0))))⟩, ⟨(some 3), none, (.v (.mov (.t 11)))⟩, ⟨(some 4), none, (.v (.mov (.t 14)))⟩, ⟨(some 5), none, (.v (.mov (.t 18)))⟩] [false, false, false, false, false, false, false, false, false, false, false, false, true]) c_parse_plain_6
def sc_parse_plain : SFunc := ⟨1, 76, .seq (.reg [⟨(some 1), none, (.box (.t 0))⟩, ⟨(some 2), none, (.v (.mov (.c (.bool false))))⟩]) c_parse_plain_7, [(.t 2)]⟩
theorem U_parse_plain : type_of% (And.intro (fun (SP : Prg) (ac : Ac) => congrFun (congrArg (E SP) c_parse_plain_1.eq_1) ac) <| And.intro (fun (SP : Prg) (ac : Ac) => congrFun (congrArg (E SP) c_parse_plain_2.eq_1) ac) <| And.intro (fun (SP : Prg) (ac : Ac) => congrFun (congrArg (E SP) c_parse_plain_3.eq_1) ac) <| And.intro (fun (SP : Prg) (ac : Ac) => congrFun (congrArg (E SP) c_parse_plain_4.eq_1) ac) <| And.intro (fun (SP : Prg) (ac : Ac) => congrFun (congrArg (E SP) c_parse_plain_5.eq_1) ac) <| And.intro (fun (SP : Prg) (ac : Ac) => congrFun (congrArg (E SP) c_parse_plain_6.eq_1) ac) <| And.intro (fun (SP : Prg) (ac : Ac) => congrFun (congrArg (E SP) c_parse_plain_7.eq_1) ac) <| sc_parse_plain.eq_1) := And.intro (fun (SP : Prg) (ac : Ac) => congrFun (congrArg (E SP) c_parse_plain_1.eq_1) ac) <| And.intro (fun (SP : Prg) (ac : Ac) => congrFun (congrArg (E SP) c_parse_plain_2.eq_1) ac) <| And.intro (fun (SP : Prg) (ac : Ac) => congrFun (congrArg (E SP) c_parse_plain_3.eq_1) ac) <| And.intro (fun (SP : Prg) (ac : Ac) => congrFun (congrArg (E SP) c_parse_plain_4.eq_1) ac) <| And.intro (fun (SP : Prg) (ac : Ac) => congrFun (congrArg (E SP) c_parse_plain_5.eq_1) ac) <| And.intro (fun (SP : Prg) (ac : Ac) => congrFun (congrArg (E SP) c_parse_plain_6.eq_1) ac) <| And.intro (fun (SP : Prg) (ac : Ac) => congrFun (congrArg (E SP) c_parse_plain_7.eq_1) ac) <| sc_parse_plain.eq_1
theorem comp_parse_plain : comp Tryz.prog Tryz.f74 = some sc_parse_plain := by kernel_rfl
/-- doorkeeper/parse.Tree -/
def sc_parse_Tree : SFunc := ⟨1, 14, .seq (.reg [⟨(some 2), none, (.v (.mov (.c (.bool false))))⟩]) (.seq (.reg [⟨(some 3), none, (.v (.mov (.t 0)))⟩, ⟨(some 4), none, (.v (.len false (.t 3)))⟩, ⟨(some 5), none, (.v (.bin .gtr (.t 4) (.c (.int .i64 0))))⟩, ⟨(some 6), none, (.v (.mov (.t 5)))⟩, ⟨(some 7), (some (6, true)), (.v (.mov (.t 0)))⟩, ⟨(some 8), (some (6, true)), (.v (.mov (.t 0)))⟩, ⟨(some 9), (some (6, true)), (.v (.len false (.t 8)))⟩, ⟨(some 10), (some (6, true)), (.v (.bin .sub (.t 9) (.c (.int .i64 1))))⟩, ⟨(some 11), (some (6, true)), (.call (.c (.func 47 [])) [(.t 7), (.t 10)])⟩, ⟨(some 12), (some (6, true)), (.v (.bin .eql (.t 11) (.c (.int .i64 0))))⟩, ⟨(some 13), none, (.v (.pick (.t 6) (.t 12) (.c (.bool false))))⟩, ⟨(some 2), none, (.v (.mov (.t 13)))⟩]) .ret), [(.t 2)]⟩
theorem U_parse_Tree : type_of% (sc_parse_Tree.eq_1) := sc_parse_Tree.eq_1
theorem comp_parse_Tree : comp Tryz.prog Tryz.f26 = some sc_parse_Tree := by kernel_rfl
/-- doorkeeper/doorkeeperlaw2.ParseDeep -/
def c_law2_ParseDeep_1 : SC := .seq (.seq (.reg [⟨(some 45), none, (.v (.mov (.t 5)))⟩, ⟨(some 46), none, (.v (.bin .gtr (.t 45) (.c (.int .i64 64))))⟩]) (.cond (.t 46) (.seq (.reg [⟨(some 47), none, (.v (.mov (.t 12)))⟩, ⟨(some 48), none, (.call (.c (.func 18 [])) [(.t 47)])⟩, ⟨(some 49), none, (.v (.bin .eql (.t 48) (.c (.int .i64 6))))⟩, ⟨(some 50), none, (.v (.mov (.t 49)))⟩, ⟨(some 51), (some (50, true)), (.v (.mov (.t 11)))⟩, ⟨(some 52), (some (50, true)), (.v (.len false (.t 51)))⟩, ⟨(some 53), (some (50, true)), (.v (.bin .eql (.t 52) (.c (.int .i64 0))))⟩, ⟨(some 54), none, (.v (.pick (.t 50) (.t 53) (.c (.bool false))))⟩, ⟨(some 55), none, (.v (.mov (.t 54)))⟩, ⟨(some 56), (some (55, true)), (.call (.c (.func 15 [])) [])⟩, ⟨(some 57), none, (.v (.pick (.t 55) (.t 56) (.c (.bool false))))⟩, ⟨(some 4), none, (.v (.mov (.t 57)))⟩]) .ret) .skip)) (.seq (.reg [⟨(some 58), none, (.v (.mov (.t 12)))⟩, ⟨(some 59), none, (.call (.c (.func 18 [])) [(.t 58)])⟩, ⟨(some 60), none, (.v (.bin .eql (.t 59) (.c (.int .i64 0))))⟩, ⟨(some 61), none, (.v (.mov (.t 60)))⟩, ⟨(some 62), (some (61, true)), (.v (.mov (.t 11)))⟩, ⟨(some 63), (some (61, true)), (.call (.c (.func 26 [])) [(.t 62)])⟩, ⟨(some 64), none, (.v (.pick (.t 61) (.t 63) (.c (.bool false))))⟩, ⟨(some 65), none, (.v (.mov (.t 64)))⟩, ⟨(some 66), (some (65, true)), (.call (.c (.func 15 [])) [])⟩, ⟨(some 67), none, (.v (.pick (.t 65) (.t 66) (.c (.bool false))))⟩, ⟨(some 4), none, (.v (.mov (.t 67)))⟩]) .ret)
def c_law2_ParseDeep_2 : SC := .seq (.reg [⟨(some 38), none, (.v (.mov (.t 8)))⟩, ⟨(some 39), none, (.v (.bin .add (.t 38) (.c (.str [49]))))⟩, ⟨(some 40), none, (.v (.mov (.t 9)))⟩, ⟨(some 41), none, (.v (.bin .add (.t 39) (.t 40)))⟩, ⟨(some 42), none, (.call (.c (.func 20 [])) [(.t 41)])⟩, ⟨(some 37), none, (.v (.mov (.t 42)))⟩, ⟨(some 43), none, (.v (.extract 0 (.t 37)))⟩, ⟨(some 44), none, (.v (.extract 1 (.t 37)))⟩, ⟨(some 11), none, (.v (.mov (.t 43)))⟩, ⟨(some 12), none, (.v (.mov (.t 44)))⟩]) c_law2_ParseDeep_1
def b_law2_ParseDeep_1 : SC := .seq (.seq (.reg [⟨(some 26), none, (.v (.mov (.t 10)))⟩, ⟨(some 27), none, (.v (.mov (.t 5)))⟩, ⟨(some 28), none, (.v (.bin .lss (.t 26) (.t 27)))⟩]) (.cond (.t 28) .skip (.exit 0))) (.seq (.block 1 (.seq (.reg [⟨(some 31), none, (.v (.mov (.t 8)))⟩, ⟨(some 32), none, (.v (.mov (.t 6)))⟩, ⟨(some 33), none, (.v (.bin .add (.t 31) (.t 32)))⟩, ⟨(some 8), none, (.v (.mov (.t 33)))⟩]) (.reg [⟨(some 34), none, (.v (.mov (.t 9)))⟩, ⟨(some 35), none, (.v (.mov (.t 7)))⟩, ⟨(some 36), none, (.v (.bin .add (.t 34) (.t 35)))⟩, ⟨(some 9), none, (.v (.mov (.t 36)))⟩]))) (.reg [⟨(some 29), none, (.v (.mov (.t 10)))⟩, ⟨(some 30), none, (.v (.bin .add (.t 29) (.c (.int .i64 1))))⟩, ⟨(some 10), none, (.v (.mov (.t 30)))⟩]))
def c_law2_ParseDeep_3 : SC := .seq (.seq (.reg [⟨(some 10), none, (.v (.mov (.c (.int .i64 0))))⟩]) (.block 0 (.loop b_law2_ParseDeep_1))) c_law2_ParseDeep_2
def c_law2_ParseDeep_4 : SC := .seq (.reg [⟨(some 8), none, (.v (.mov (.c (.str []))))⟩, ⟨(some 9), none, (.v (.mov (.c (.str []))))⟩]) c_law2_ParseDeep_3
def c_law2_ParseDeep_5 : SC := .seq (.dreg [⟨(some 16), none, (.bslice 1 6 [(.str [])] [(0, (.c (.str [40]))), (1, (.c (.str [91]))), (2, (.c (.str [102, 40]))), (3, (.c (.str [45]))), (4, (.c (.str [33]))), (5, (.c (.str [116, 114, 117, 101, 32, 63, 32])))])⟩, ⟨(some 17), none, (.v (.mov (.t 1)))⟩, ⟨(some 18), none, (.v (.bin .rem (.t 17) (.c (.int .u8 6))))⟩, ⟨(some 19), none, (.v (.iaddr 1 (.t 16) (.t 18)))⟩, ⟨(some 20), none, (.v (.load none (.t 19)))⟩, ⟨(some 21), none, (.bslice 1 6 [(.str [])] [(0, (.c (.str [41]))), (1, (.c (.str [93]))), (2, (.c (.str [41]))), (3, (.c (.str []))), (4, (.c (.str []))), (5, (.c (.str [32, 58, 32, 48])))])⟩, ⟨(some 22), none, (.v (.mov (.t 1)))⟩, ⟨(some 23), none, (.v (.bin .rem (.t 22) (.c (.int .u8 6))))⟩, ⟨(some 24), none, (.v (.iaddr 1 (.t 21) (.t 23)))⟩, ⟨(some 25), none, (.v (.load none (.t 24)))⟩, ⟨(some 6), none, (.v (.mov (.t 20)))⟩, ⟨(some 7), none, (.v (.mov (.t 25)))⟩] [false, false, false, false, false, false, false, false, false, false, false, true]) c_law2_ParseDeep_4
def c_law2_ParseDeep_6 : SC := .seq (.reg [⟨(some 13), none, (.v (.mov (.t 0)))⟩, ⟨(some 14), none, (.v (.conv (.int .i64) (.t 13)))⟩, ⟨(some 15), none, (.v (.bin .rem (.t 14) (.c (.int .i64 80))))⟩, ⟨(some 5), none, (.v (.mov (.t 15)))⟩]) c_law2_ParseDeep_5
def sc_law2_ParseDeep : SFunc := ⟨2, 68, .seq (.reg [⟨(some 4), none, (.v (.mov (.c (.bool false))))⟩]) c_law2_ParseDeep_6, [(.t 4)]⟩
noncomputable def k_law2_ParseDeep_1 (SP : Prg) (x : EO) : CO := fin [(.t 4)] (thC SP (inBlk 0 (x)) c_law2_ParseDeep_2)
theorem U_law2_ParseDeep : type_of% (And.intro (fun (SP : Prg) (ac : Ac) => congrFun (congrArg (E SP) c_law2_ParseDeep_1.eq_1) ac) <| And.intro (fun (SP : Prg) (ac : Ac) => congrFun (congrArg (E SP) c_law2_ParseDeep_2.eq_1) ac) <| And.intro (fun (SP : Prg) (ac : Ac) => congrFun (congrArg (E SP) b_law2_ParseDeep_1.eq_1) ac) <| And.intro (fun (SP : Prg) (ac : Ac) => congrFun (congrArg (E SP) c_law2_ParseDeep_3.eq_1) ac) <| And.intro (fun (SP : Prg) (ac : Ac) => congrFun (congrArg (E SP) c_law2_ParseDeep_4.eq_1) ac) <| And.intro (fun (SP : Prg) (ac : Ac) => congrFun (congrArg (E SP) c_law2_ParseDeep_5.eq_1) ac) <| And.intro (fun (SP : Prg) (ac : Ac) => congrFun (congrArg (E SP) c_law2_ParseDeep_6.eq_1) ac) <| sc_law2_ParseDeep.eq_1) := And.intro (fun (SP : Prg) (ac : Ac) => congrFun (congrArg (E SP) c_law2_ParseDeep_1.eq_1) ac) <| And.intro (fun (SP : Prg) (ac : Ac) => congrFun (congrArg (E SP) c_law2_ParseDeep_2.eq_1) ac) <| And.intro (fun (SP : Prg) (ac : Ac) => congrFun (congrArg (E SP) b_law2_ParseDeep_1.eq_1) ac) <| And.intro (fun (SP : Prg) (ac : Ac) => congrFun (congrArg (E SP) c_law2_ParseDeep_3.eq_1) ac) <| And.intro (fun (SP : Prg) (ac : Ac) => congrFun (congrArg (E SP) c_law2_ParseDeep_4.eq_1) ac) <| And.intro (fun (SP : Prg) (ac : Ac) => congrFun (congrArg (E SP) c_law2_ParseDeep_5.eq_1) ac) <| And.intro (fun (SP : Prg) (ac : Ac) => congrFun (congrArg (E SP) c_law2_ParseDeep_6.eq_1) ac) <| sc_law2_ParseDeep.eq_1
theorem comp_law2_ParseDeep : comp Tryz.prog Tryz.f9 = some sc_law2_ParseDeep := by kernel_rfl
end Go.Proofs.YtfbcnpbhhooapaaGreatDoor.M

/- Trees of functions, printed by a program of this session (lift.py): what a run asks, over plain data. Lean proves each. -/
namespace Go.Proofs.YtfbcnpbhhooapaaGreatDoor.M
set_option linter.unusedSimpArgs false
set_option linter.unusedVariables false
open Go Classical
theorem sp_parse_kids : SP 73 = some (.code sc_parse_kids) := SPof_code rfl Tryz.func73 comp_parse_kids
/-! doorkeeper/parse.kids -/
set_option maxHeartbeats 4000000 in
theorem parse_kids_tree (kind : Int) (r : Int) (T :
  ((kind < 1) →
  (-2) = r) ∧
 (¬ (kind < 1) →
  ((23 < kind) →
   (-2) = r) ∧
  (¬ (23 < kind) →
   ((kind ≤ 4) →
    0 = r) ∧
   (¬ (kind ≤ 4) →
    ((kind = 5) →
     (-1) = r) ∧
    (¬ (kind = 5) →
     ((kind = 6) →
      (-1) = r) ∧
     (¬ (kind = 6) →
      ((kind = 8) →
       1 = r) ∧
      (¬ (kind = 8) →
       ((kind = 9) →
        1 = r) ∧
       (¬ (kind = 9) →
        ((kind = 10) →
         3 = r) ∧
        (¬ (kind = 10) →
         2 = r))))))))) : R_parse_kids kind r := by
 intro S
 rw [call_code sp_parse_kids _ _ rfl]
 have F := U_parse_kids
 by_cases c1 : kind < 1
 · replace T := T.1 c1
   obtain rfl := T
   exact fi (aa (eq_true c1) <| F)
 · replace T := T.2 c1
   replace F := aa (eq_false c1) <| F
   by_cases c2 : 23 < kind
   · replace T := T.1 c2
     obtain rfl := T
     exact fi (aa (eq_true c2) <| F)
   · replace T := T.2 c2
     replace F := aa (eq_false c2) <| F
     by_cases c3 : kind ≤ 4
     · replace T := T.1 c3
       obtain rfl := T
       exact fi (aa (eq_true c3) <| F)
     · replace T := T.2 c3
       replace F := aa (eq_false c3) <| F
       by_cases c4 : kind = 5
       · replace T := T.1 c4
         obtain rfl := T
         exact fi (aa (eq_true c4) <| F)
       · replace T := T.2 c4
         replace F := aa (eq_false c4) <| F
         by_cases c5 : kind = 6
         · replace T := T.1 c5
           obtain rfl := T
           exact fi (aa (eq_true c5) <| F)
         · replace T := T.2 c5
           replace F := aa (eq_false c5) <| F
           by_cases c6 : kind = 8
           · replace T := T.1 c6
             obtain rfl := T
             exact fi (aa (eq_true c6) <| F)
           · replace T := T.2 c6
             replace F := aa (eq_false c6) <| F
             by_cases c7 : kind = 9
             · replace T := T.1 c7
               obtain rfl := T
               exact fi (aa (eq_true c7) <| F)
             · replace T := T.2 c7
               replace F := aa (eq_false c7) <| F
               by_cases c8 : kind = 10
               · replace T := T.1 c8
                 obtain rfl := T
                 exact fi (aa (eq_true c8) <| F)
               · replace T := T.2 c8
                 obtain rfl := T
                 exact fi (aa (eq_false c8) <| F)
theorem sp_parse_truth : SP 114 = some (.code sc_parse_truth) := SPof_code rfl Tryz.func114 comp_parse_truth
/-! doorkeeper/parse.truth -/
set_option maxHeartbeats 4000000 in
theorem parse_truth_tree (s : List UInt8) (r : Bool) (T :
  ((s = [116, 114, 117, 101]) →
  true = r) ∧
 (¬ (s = [116, 114, 117, 101]) →
  (decide (s = [102, 97, 108, 115, 101])) = r)) : R_parse_truth s r := by
 intro S
 rw [call_code sp_parse_truth _ _ rfl]
 have F := U_parse_truth
 by_cases c1 : s = [116, 114, 117, 101]
 · replace T := T.1 c1
   obtain rfl := T
   exact fi (aa (eq_true c1) <| F)
 · replace T := T.2 c1
   obtain rfl := T
   exact fi (aa (eq_false c1) <| F)
theorem sp_parse_Ref : SP 113 = some (.code sc_parse_Ref) := SPof_code rfl Tryz.func113 comp_parse_Ref
/-! doorkeeper/parse.Ref -/
set_option maxHeartbeats 4000000 in
theorem parse_Ref_tree (s : List UInt8) (r : Bool) (T :
  ∃ (r1 : List UInt8) (r2 : List UInt8) (r3 : Bool), (R_strings_Cut s [46] r1 r2 r3) ∧
 ((r3 = true) →
  ∃ (r4 : Bool), (R_lex_Name r1 r4) ∧
  ((r4 = true) →
   ∃ (r5 : Bool), (R_lex_Name r2 r5) ∧
   r5 = r) ∧
  (¬ (r4 = true) →
   false = r)) ∧
 (¬ (r3 = true) →
  false = r)) : R_parse_Ref s r := by
 intro S
 rw [call_code sp_parse_Ref _ _ rfl]
 have F := U_parse_Ref
 obtain ⟨r1, r2, r3, q1, T⟩ := T
 simp only [R_strings_Cut, le, List.cons_append, List.nil_append] at q1
 replace F := aa q1 <| F
 by_cases c2 : r3 = true
 · replace T := T.1 c2
   obtain ⟨r4, q3, T⟩ := T
   simp only [R_lex_Name, le, List.cons_append, List.nil_append] at q3
   replace F := aa c2 <| aa q3 <| F
   by_cases c4 : r4 = true
   · replace T := T.1 c4
     obtain ⟨r5, q5, rfl⟩ := T
     simp only [R_lex_Name, le, List.cons_append, List.nil_append] at q5
     exact fi (aa c4 <| aa q5 <| F)
   · replace T := T.2 c4
     replace c4 := Bool.eq_false_iff.2 c4
     obtain rfl := T
     exact fi (aa c4 <| F)
 · replace T := T.2 c2
   replace c2 := Bool.eq_false_iff.2 c2
   obtain rfl := T
   exact fi (aa c2 <| F)
theorem sp_parse_printed : SP 152 = some (.code sc_parse_printed) := SPof_code rfl Tryz.func152 comp_parse_printed
/-! doorkeeper/parse.printed -/
def At_parse_printed_1 (s : List UInt8) (i1 : Int) (r : Bool) : Prop := ∀ (S : Sto) (e : Nat → PV) (f : Fr), e 0 = .str s ∧ e 5 = .int .i64 (s.length : Int) ∧ e 6 = .int .i64 i1 → k_parse_printed_1 SP (E SP (.loop b_parse_printed_1) ⟨e, f :: S⟩) = .ok (.v (.bool r)) S
set_option maxHeartbeats 4000000 in
theorem At_parse_printed_1_step (s : List UInt8) (i1 : Int) (r : Bool) (T :
  ((i1 < (s.length : Int)) →
  (0 ≤ i1) ∧
  ∃ (b2 : UInt8), (s[i1.toNat]? = some b2) ∧
  (((b2.toNat : Int) < 32) →
   (((b2.toNat : Int) = 10) →
    (I64 (i1 + 1)) ∧
    At_parse_printed_1 s (i1 + 1) r) ∧
   (¬ ((b2.toNat : Int) = 10) →
    false = r)) ∧
  (¬ ((b2.toNat : Int) < 32) →
   (I64 (i1 + 1)) ∧
   At_parse_printed_1 s (i1 + 1) r)) ∧
 (¬ (i1 < (s.length : Int)) →
  true = r)) : At_parse_printed_1 s i1 r := by
 intro S e f h
 unfold k_parse_printed_1
 rw [E_loop]
 have F := U_parse_printed
 replace F := aa h <| F
 by_cases c1 : i1 < (s.length : Int)
 · replace T := T.1 c1
   obtain ⟨p2, b2, q3, T⟩ := T
   replace F := aa (eq_true c1) <| aa p2 <| aa q3 <| F
   by_cases c4 : (b2.toNat : Int) < 32
   · replace T := T.1 c4
     replace F := aa (eq_true c4) <| F
     by_cases c5 : (b2.toNat : Int) = 10
     · replace T := T.1 c5
       obtain ⟨p6, T⟩ := T
       replace F := aa (eq_true c5) <| aa p6.wrap <| F
       try simp only [F, lw, lx, le, Nat.reduceMul, UInt8.reduceToNat, reduceIte, reduceCtorEq, Nat.reduceEqDiff, Nat.reduceAdd, Nat.reduceLeDiff, Nat.reduceSub, Nat.reduceLT, Int.reduceEq, Int.reduceLT, Int.reduceLE, Int.reduceToNat, Int.reduceAdd, Int.reduceSub, Int.reduceMul, Int.reduceNeg]
       refine T S _ _ ?_
       exact fi F
     · replace T := T.2 c5
       obtain rfl := T
       exact fi (aa (eq_false c5) <| F)
   · replace T := T.2 c4
     obtain ⟨p7, T⟩ := T
     replace F := aa (eq_false c4) <| aa p7.wrap <| F
     try simp only [F, lw, lx, le, Nat.reduceMul, UInt8.reduceToNat, reduceIte, reduceCtorEq, Nat.reduceEqDiff, Nat.reduceAdd, Nat.reduceLeDiff, Nat.reduceSub, Nat.reduceLT, Int.reduceEq, Int.reduceLT, Int.reduceLE, Int.reduceToNat, Int.reduceAdd, Int.reduceSub, Int.reduceMul, Int.reduceNeg]
     refine T S _ _ ?_
     exact fi F
 · replace T := T.2 c1
   obtain rfl := T
   exact fi (aa (eq_false c1) <| F)
set_option maxHeartbeats 4000000 in
theorem parse_printed_tree (s : List UInt8) (r : Bool) (T :
  At_parse_printed_1 s 0 r) : R_parse_printed s r := by
 intro S
 rw [call_code sp_parse_printed _ _ rfl]
 have F := U_parse_printed
 try simp only [F, lw, lx, le, Nat.reduceMul, UInt8.reduceToNat, reduceIte, reduceCtorEq, Nat.reduceEqDiff, Nat.reduceAdd, Nat.reduceLeDiff, Nat.reduceSub, Nat.reduceLT, Int.reduceEq, Int.reduceLT, Int.reduceLE, Int.reduceToNat, Int.reduceAdd, Int.reduceSub, Int.reduceMul, Int.reduceNeg]
 refine T S _ _ ?_
 exact fi F
theorem sp_parse_parts : SP 116 = some (.code sc_parse_parts) := SPof_code rfl Tryz.func116 comp_parse_parts
/-! doorkeeper/parse.parts -/
def At_parse_parts_1 (l_ : List Part) (i1 : Int) (r : Bool) : Prop := ∀ (S : Sto) (e : Nat → PV) (f : Fr), e 0 = .list 2 (l_.map ePart) false ∧ e 5 = .list 2 (l_.map ePart) false ∧ e 6 = .int .i64 (l_.length : Int) ∧ e 7 = .int .i64 i1 → k_parse_parts_1 SP (E SP (.loop b_parse_parts_1) ⟨e, f :: S⟩) = .ok (.v (.bool r)) S
set_option maxHeartbeats 4000000 in
theorem At_parse_parts_1_step (l_ : List Part) (i1 : Int) (r : Bool) (T :
  ((i1 < (l_.length : Int)) →
  (0 ≤ i1) ∧
  ∃ (v2 : Part), (l_[i1.toNat]? = some v2) ∧
  ((v2.Ref = true) →
   ∃ (r3 : Bool), (R_parse_Ref v2.Text r3) ∧
   ((r3 = true) →
    (I64 (i1 + 1)) ∧
    At_parse_parts_1 l_ (i1 + 1) r) ∧
   (¬ (r3 = true) →
    false = r)) ∧
  (¬ (v2.Ref = true) →
   ((v2.Text = []) →
    false = r) ∧
   (¬ (v2.Text = []) →
    ((0 < i1) →
     (I64 (i1 - 1)) ∧
     (0 ≤ (i1 - 1)) ∧
     ∃ (v4 : Part), (l_[(i1 - 1).toNat]? = some v4) ∧
     ((v4.Ref = true) →
      ∃ (r5 : Bool), (R_parse_printed v2.Text r5) ∧
      ((r5 = true) →
       (I64 (i1 + 1)) ∧
       At_parse_parts_1 l_ (i1 + 1) r) ∧
      (¬ (r5 = true) →
       false = r)) ∧
     (¬ (v4.Ref = true) →
      false = r)) ∧
    (¬ (0 < i1) →
     ∃ (r6 : Bool), (R_parse_printed v2.Text r6) ∧
     ((r6 = true) →
      (I64 (i1 + 1)) ∧
      At_parse_parts_1 l_ (i1 + 1) r) ∧
     (¬ (r6 = true) →
      false = r))))) ∧
 (¬ (i1 < (l_.length : Int)) →
  true = r)) : At_parse_parts_1 l_ i1 r := by
 intro S e f h
 unfold k_parse_parts_1
 rw [E_loop]
 have F := U_parse_parts
 replace F := aa h <| F
 by_cases c1 : i1 < (l_.length : Int)
 · replace T := T.1 c1
   obtain ⟨p2, v2, q3, T⟩ := T
   replace F := aa (eq_true c1) <| aa p2 <| aa q3 <| F
   by_cases c4 : v2.Ref = true
   · replace T := T.1 c4
     obtain ⟨r3, q5, T⟩ := T
     simp only [R_parse_Ref, le, List.cons_append, List.nil_append] at q5
     replace F := aa c4 <| aa q5 <| F
     by_cases c6 : r3 = true
     · replace T := T.1 c6
       obtain ⟨p7, T⟩ := T
       replace F := aa c6 <| aa p7.wrap <| F
       try simp only [F, lw, lx, le, Nat.reduceMul, UInt8.reduceToNat, reduceIte, reduceCtorEq, Nat.reduceEqDiff, Nat.reduceAdd, Nat.reduceLeDiff, Nat.reduceSub, Nat.reduceLT, Int.reduceEq, Int.reduceLT, Int.reduceLE, Int.reduceToNat, Int.reduceAdd, Int.reduceSub, Int.reduceMul, Int.reduceNeg]
       refine T S _ _ ?_
       exact fi F
     · replace T := T.2 c6
       replace c6 := Bool.eq_false_iff.2 c6
       obtain rfl := T
       exact fi (aa c6 <| F)
   · replace T := T.2 c4
     replace c4 := Bool.eq_false_iff.2 c4
     replace F := aa c4 <| F
     by_cases c8 : v2.Text = []
     · replace T := T.1 c8
       obtain rfl := T
       exact fi (aa (eq_true c8) <| F)
     · replace T := T.2 c8
       replace F := aa (eq_false c8) <| F
       by_cases c9 : 0 < i1
       · replace T := T.1 c9
         obtain ⟨p10, p11, v4, q12, T⟩ := T
         replace F := aa (eq_true c9) <| aa p10.wrap <| aa p11 <| aa q12 <| F
         by_cases c13 : v4.Ref = true
         · replace T := T.1 c13
           obtain ⟨r5, q14, T⟩ := T
           simp only [R_parse_printed, le, List.cons_append, List.nil_append] at q14
           replace F := aa c13 <| aa q14 <| F
           by_cases c15 : r5 = true
           · replace T := T.1 c15
             obtain ⟨p16, T⟩ := T
             replace F := aa c15 <| aa p16.wrap <| F
             try simp only [F, lw, lx, le, Nat.reduceMul, UInt8.reduceToNat, reduceIte, reduceCtorEq, Nat.reduceEqDiff, Nat.reduceAdd, Nat.reduceLeDiff, Nat.reduceSub, Nat.reduceLT, Int.reduceEq, Int.reduceLT, Int.reduceLE, Int.reduceToNat, Int.reduceAdd, Int.reduceSub, Int.reduceMul, Int.reduceNeg]
             refine T S _ _ ?_
             exact fi F
           · replace T := T.2 c15
             replace c15 := Bool.eq_false_iff.2 c15
             obtain rfl := T
             exact fi (aa c15 <| F)
         · replace T := T.2 c13
           replace c13 := Bool.eq_false_iff.2 c13
           obtain rfl := T
           exact fi (aa c13 <| F)
       · replace T := T.2 c9
         obtain ⟨r6, q17, T⟩ := T
         simp only [R_parse_printed, le, List.cons_append, List.nil_append] at q17
         replace F := aa (eq_false c9) <| aa q17 <| F
         by_cases c18 : r6 = true
         · replace T := T.1 c18
           obtain ⟨p19, T⟩ := T
           replace F := aa c18 <| aa p19.wrap <| F
           try simp only [F, lw, lx, le, Nat.reduceMul, UInt8.reduceToNat, reduceIte, reduceCtorEq, Nat.reduceEqDiff, Nat.reduceAdd, Nat.reduceLeDiff, Nat.reduceSub, Nat.reduceLT, Int.reduceEq, Int.reduceLT, Int.reduceLE, Int.reduceToNat, Int.reduceAdd, Int.reduceSub, Int.reduceMul, Int.reduceNeg]
           refine T S _ _ ?_
           exact fi F
         · replace T := T.2 c18
           replace c18 := Bool.eq_false_iff.2 c18
           obtain rfl := T
           exact fi (aa c18 <| F)
 · replace T := T.2 c1
   obtain rfl := T
   exact fi (aa (eq_false c1) <| F)
set_option maxHeartbeats 4000000 in
theorem parse_parts_tree (l_ : List Part) (r : Bool) (T :
  At_parse_parts_1 l_ 0 r) : R_parse_parts l_ r := by
 intro S
 rw [call_code sp_parse_parts _ _ rfl]
 have F := U_parse_parts
 try simp only [F, lw, lx, le, Nat.reduceMul, UInt8.reduceToNat, reduceIte, reduceCtorEq, Nat.reduceEqDiff, Nat.reduceAdd, Nat.reduceLeDiff, Nat.reduceSub, Nat.reduceLT, Int.reduceEq, Int.reduceLT, Int.reduceLE, Int.reduceToNat, Int.reduceAdd, Int.reduceSub, Int.reduceMul, Int.reduceNeg]
 refine T S _ _ ?_
 exact fi F
theorem sp_parse_plain : SP 74 = some (.code sc_parse_plain) := SPof_code rfl Tryz.func74 comp_parse_plain
/-! doorkeeper/parse.plain -/
set_option maxHeartbeats 4000000 in
theorem parse_plain_tree (n : Node) (r : Bool) (T :
  ((n.Kind = 1) →
  ((0 ≤ n.Num) →
   ((n.Text = []) →
    (decide ((n.Parts.length : Int) = 0)) = r) ∧
   (¬ (n.Text = []) →
    false = r)) ∧
  (¬ (0 ≤ n.Num) →
   false = r)) ∧
 (¬ (n.Kind = 1) →
  ((n.Kind = 3) →
   ((n.Num = 0) →
    ((n.Text = []) →
     (decide ((n.Parts.length : Int) = 0)) = r) ∧
    (¬ (n.Text = []) →
     false = r)) ∧
   (¬ (n.Num = 0) →
    ((n.Num = 1) →
     ((n.Text = []) →
      (decide ((n.Parts.length : Int) = 0)) = r) ∧
     (¬ (n.Text = []) →
      false = r)) ∧
    (¬ (n.Num = 1) →
     false = r))) ∧
  (¬ (n.Kind = 3) →
   ((n.Kind = 4) →
    ∃ (r1 : List UInt8) (r2 : List UInt8) (r3 : Bool), (R_strings_Cut n.Text [46] r1 r2 r3) ∧
    ∃ (r4 : Bool), (R_parse_Ref n.Text r4) ∧
    ((r4 = true) →
     ∃ (r5 : Bool), (R_parse_truth r1 r5) ∧
     ((n.Num = 0) →
      ((r5 = true) →
       false = r) ∧
      (¬ (r5 = true) →
       (decide ((n.Parts.length : Int) = 0)) = r)) ∧
     (¬ (n.Num = 0) →
      false = r)) ∧
    (¬ (r4 = true) →
     ((n.Num = 0) →
      false = r) ∧
     (¬ (n.Num = 0) →
      false = r))) ∧
   (¬ (n.Kind = 4) →
    ((n.Kind = 5) →
     ∃ (r6 : Bool), (R_lex_Name n.Text r6) ∧
     ((r6 = true) →
      ∃ (r7 : Bool), (R_parse_truth n.Text r7) ∧
      ((n.Num = 0) →
       ((r7 = true) →
        false = r) ∧
       (¬ (r7 = true) →
        (decide ((n.Parts.length : Int) = 0)) = r)) ∧
      (¬ (n.Num = 0) →
       false = r)) ∧
     (¬ (r6 = true) →
      ((n.Num = 0) →
       false = r) ∧
      (¬ (n.Num = 0) →
       false = r))) ∧
    (¬ (n.Kind = 5) →
     ((n.Kind = 2) →
      ∃ (r8 : Bool), (R_parse_parts n.Parts r8) ∧
      ((n.Num = 0) →
       ((n.Text = []) →
        r8 = r) ∧
       (¬ (n.Text = []) →
        false = r)) ∧
      (¬ (n.Num = 0) →
       false = r)) ∧
     (¬ (n.Kind = 2) →
      ((n.Num = 0) →
       ((n.Text = []) →
        (decide ((n.Parts.length : Int) = 0)) = r) ∧
       (¬ (n.Text = []) →
        false = r)) ∧
      (¬ (n.Num = 0) →
       false = r))))))) : R_parse_plain n r := by
 intro S
 rw [call_code sp_parse_plain _ _ rfl]
 have F := U_parse_plain
 by_cases c1 : n.Kind = 1
 · replace T := T.1 c1
   replace F := aa (eq_true c1) <| F
   by_cases c2 : 0 ≤ n.Num
   · replace T := T.1 c2
     replace F := aa (eq_true c2) <| F
     by_cases c3 : n.Text = []
     · replace T := T.1 c3
       obtain rfl := T
       exact fi (aa (eq_true c3) <| F)
     · replace T := T.2 c3
       obtain rfl := T
       exact fi (aa (eq_false c3) <| F)
   · replace T := T.2 c2
     obtain rfl := T
     exact fi (aa (eq_false c2) <| F)
 · replace T := T.2 c1
   replace F := aa (eq_false c1) <| F
   by_cases c4 : n.Kind = 3
   · replace T := T.1 c4
     replace F := aa (eq_true c4) <| F
     by_cases c5 : n.Num = 0
     · replace T := T.1 c5
       replace F := aa (eq_true c5) <| F
       by_cases c6 : n.Text = []
       · replace T := T.1 c6
         obtain rfl := T
         exact fi (aa (eq_true c6) <| F)
       · replace T := T.2 c6
         obtain rfl := T
         exact fi (aa (eq_false c6) <| F)
     · replace T := T.2 c5
       replace F := aa (eq_false c5) <| F
       by_cases c7 : n.Num = 1
       · replace T := T.1 c7
         replace F := aa (eq_true c7) <| F
         by_cases c8 : n.Text = []
         · replace T := T.1 c8
           obtain rfl := T
           exact fi (aa (eq_true c8) <| F)
         · replace T := T.2 c8
           obtain rfl := T
           exact fi (aa (eq_false c8) <| F)
       · replace T := T.2 c7
         obtain rfl := T
         exact fi (aa (eq_false c7) <| F)
   · replace T := T.2 c4
     replace F := aa (eq_false c4) <| F
     by_cases c9 : n.Kind = 4
     · replace T := T.1 c9
       obtain ⟨r1, r2, r3, q10, r4, q11, T⟩ := T
       simp only [R_strings_Cut, le, List.cons_append, List.nil_append] at q10
       simp only [R_parse_Ref, le, List.cons_append, List.nil_append] at q11
       replace F := aa (eq_true c9) <| aa q10 <| aa q11 <| F
       by_cases c12 : r4 = true
       · replace T := T.1 c12
         obtain ⟨r5, q13, T⟩ := T
         simp only [R_parse_truth, le, List.cons_append, List.nil_append] at q13
         replace F := aa c12 <| aa q13 <| F
         by_cases c14 : n.Num = 0
         · replace T := T.1 c14
           replace F := aa (eq_true c14) <| F
           by_cases c15 : r5 = true
           · replace T := T.1 c15
             obtain rfl := T
             exact fi (aa c15 <| F)
           · replace T := T.2 c15
             replace c15 := Bool.eq_false_iff.2 c15
             obtain rfl := T
             exact fi (aa c15 <| F)
         · replace T := T.2 c14
           obtain rfl := T
           exact fi (aa (eq_false c14) <| F)
       · replace T := T.2 c12
         replace c12 := Bool.eq_false_iff.2 c12
         replace F := aa c12 <| F
         by_cases c16 : n.Num = 0
         · replace T := T.1 c16
           obtain rfl := T
           exact fi (aa (eq_true c16) <| F)
         · replace T := T.2 c16
           obtain rfl := T
           exact fi (aa (eq_false c16) <| F)
     · replace T := T.2 c9
       replace F := aa (eq_false c9) <| F
       by_cases c17 : n.Kind = 5
       · replace T := T.1 c17
         obtain ⟨r6, q18, T⟩ := T
         simp only [R_lex_Name, le, List.cons_append, List.nil_append] at q18
         replace F := aa (eq_true c17) <| aa q18 <| F
         by_cases c19 : r6 = true
         · replace T := T.1 c19
           obtain ⟨r7, q20, T⟩ := T
           simp only [R_parse_truth, le, List.cons_append, List.nil_append] at q20
           replace F := aa c19 <| aa q20 <| F
           by_cases c21 : n.Num = 0
           · replace T := T.1 c21
             replace F := aa (eq_true c21) <| F
             by_cases c22 : r7 = true
             · replace T := T.1 c22
               obtain rfl := T
               exact fi (aa c22 <| F)
             · replace T := T.2 c22
               replace c22 := Bool.eq_false_iff.2 c22
               obtain rfl := T
               exact fi (aa c22 <| F)
           · replace T := T.2 c21
             obtain rfl := T
             exact fi (aa (eq_false c21) <| F)
         · replace T := T.2 c19
           replace c19 := Bool.eq_false_iff.2 c19
           replace F := aa c19 <| F
           by_cases c23 : n.Num = 0
           · replace T := T.1 c23
             obtain rfl := T
             exact fi (aa (eq_true c23) <| F)
           · replace T := T.2 c23
             obtain rfl := T
             exact fi (aa (eq_false c23) <| F)
       · replace T := T.2 c17
         replace F := aa (eq_false c17) <| F
         by_cases c24 : n.Kind = 2
         · replace T := T.1 c24
           obtain ⟨r8, q25, T⟩ := T
           simp only [R_parse_parts, le, List.cons_append, List.nil_append] at q25
           replace F := aa (eq_true c24) <| aa q25 <| F
           by_cases c26 : n.Num = 0
           · replace T := T.1 c26
             replace F := aa (eq_true c26) <| F
             by_cases c27 : n.Text = []
             · replace T := T.1 c27
               obtain rfl := T
               exact fi (aa (eq_true c27) <| F)
             · replace T := T.2 c27
               obtain rfl := T
               exact fi (aa (eq_false c27) <| F)
           · replace T := T.2 c26
             obtain rfl := T
             exact fi (aa (eq_false c26) <| F)
         · replace T := T.2 c24
           replace F := aa (eq_false c24) <| F
           by_cases c28 : n.Num = 0
           · replace T := T.1 c28
             replace F := aa (eq_true c28) <| F
             by_cases c29 : n.Text = []
             · replace T := T.1 c29
               obtain rfl := T
               exact fi (aa (eq_true c29) <| F)
             · replace T := T.2 c29
               obtain rfl := T
               exact fi (aa (eq_false c29) <| F)
           · replace T := T.2 c28
             obtain rfl := T
             exact fi (aa (eq_false c28) <| F)
theorem sp_parse_Tree : SP 26 = some (.code sc_parse_Tree) := SPof_code rfl Tryz.func26 comp_parse_Tree
/-! doorkeeper/parse.Tree -/
set_option maxHeartbeats 4000000 in
theorem parse_Tree_tree (l_ : List Node) (r : Bool) (T :
  ((0 < (l_.length : Int)) →
  (I64 ((l_.length : Int) - 1)) ∧
  ∃ (r1 : Int), (R_parse_begin l_ ((l_.length : Int) - 1) r1) ∧
  (decide (r1 = 0)) = r) ∧
 (¬ (0 < (l_.length : Int)) →
  false = r)) : R_parse_Tree l_ r := by
 intro S
 rw [call_code sp_parse_Tree _ _ rfl]
 have F := U_parse_Tree
 by_cases c1 : 0 < (l_.length : Int)
 · replace T := T.1 c1
   obtain ⟨p2, r1, q3, rfl⟩ := T
   simp only [R_parse_begin, le, List.cons_append, List.nil_append] at q3
   exact fi (aa (eq_true c1) <| aa p2.wrap <| aa q3 <| F)
 · replace T := T.2 c1
   obtain rfl := T
   exact fi (aa (eq_false c1) <| F)
theorem sp_law2_ParseDeep : SP 9 = some (.code sc_law2_ParseDeep) := SPof_code rfl Tryz.func9 comp_law2_ParseDeep
/-! doorkeeper/doorkeeperlaw2.ParseDeep -/
def At_law2_ParseDeep_1 (n : UInt8) (v1 : List UInt8) (v2 : List UInt8) (s3 : List UInt8) (s4 : List UInt8) (i5 : Int) (r : Bool) : Prop := ∀ (S : Sto) (e : Nat → PV) (f : Fr), e 5 = .int .i64 ((n.toNat : Int).tmod 80) ∧ e 6 = .str v1 ∧ e 7 = .str v2 ∧ e 8 = .str s3 ∧ e 9 = .str s4 ∧ e 10 = .int .i64 i5 → k_law2_ParseDeep_1 SP (E SP (.loop b_law2_ParseDeep_1) ⟨e, f :: S⟩) = .ok (.v (.bool r)) S
set_option maxHeartbeats 4000000 in
theorem At_law2_ParseDeep_1_step (n : UInt8) (v1 : List UInt8) (v2 : List UInt8) (s3 : List UInt8) (s4 : List UInt8) (i5 : Int) (r : Bool) (T :
  ((i5 < ((n.toNat : Int).tmod 80)) →
  (s3.length + v1.length ≤ maxInt) ∧
  (s4.length + v2.length ≤ maxInt) ∧
  (I64 (i5 + 1)) ∧
  At_law2_ParseDeep_1 n v1 v2 (s3 ++ v1) (s4 ++ v2) (i5 + 1) r) ∧
 (¬ (i5 < ((n.toNat : Int).tmod 80)) →
  (s3.length + 1 ≤ maxInt) ∧
  (s3.length + 1 + s4.length ≤ maxInt) ∧
  ∃ (r6 : List Node) (r7 : Int), (R_parse_Expr ((s3 ++ [49]) ++ s4) r6 r7) ∧
  ((64 < ((n.toNat : Int).tmod 80)) →
   ∃ (r8 : Int), (R_law1_Num r7 r8) ∧
   ((r8 = 6) →
    (((r6.length : Int) = 0) →
     ∃ (r9 : Bool), (R_law2_awake r9) ∧
     r9 = r) ∧
    (¬ ((r6.length : Int) = 0) →
     false = r)) ∧
   (¬ (r8 = 6) →
    false = r)) ∧
  (¬ (64 < ((n.toNat : Int).tmod 80)) →
   ∃ (r10 : Int), (R_law1_Num r7 r10) ∧
   ((r10 = 0) →
    ∃ (r11 : Bool), (R_parse_Tree r6 r11) ∧
    ((r11 = true) →
     ∃ (r12 : Bool), (R_law2_awake r12) ∧
     r12 = r) ∧
    (¬ (r11 = true) →
     false = r)) ∧
   (¬ (r10 = 0) →
    false = r)))) : At_law2_ParseDeep_1 n v1 v2 s3 s4 i5 r := by
 intro S e f h
 unfold k_law2_ParseDeep_1
 rw [E_loop]
 have F := U_law2_ParseDeep
 replace F := aa h <| F
 by_cases c1 : i5 < ((n.toNat : Int).tmod 80)
 · replace T := T.1 c1
   obtain ⟨p2, p3, p4, T⟩ := T
   replace F := aa (eq_true c1) <| aa p2 <| aa p3 <| aa p4.wrap <| F
   try simp only [F, lw, lx, le, Nat.reduceMul, UInt8.reduceToNat, reduceIte, reduceCtorEq, Nat.reduceEqDiff, Nat.reduceAdd, Nat.reduceLeDiff, Nat.reduceSub, Nat.reduceLT, Int.reduceEq, Int.reduceLT, Int.reduceLE, Int.reduceToNat, Int.reduceAdd, Int.reduceSub, Int.reduceMul, Int.reduceNeg]
   refine T S _ _ ?_
   exact fi F
 · replace T := T.2 c1
   obtain ⟨p5, p6, r6, r7, q7, T⟩ := T
   simp only [R_parse_Expr, le, List.cons_append, List.nil_append] at q7
   replace F := aa (eq_false c1) <| aa p5 <| aa p6 <| aa q7 <| F
   by_cases c8 : 64 < ((n.toNat : Int).tmod 80)
   · replace T := T.1 c8
     obtain ⟨r8, q9, T⟩ := T
     simp only [R_law1_Num, le, List.cons_append, List.nil_append] at q9
     replace F := aa (eq_true c8) <| aa q9 <| F
     by_cases c10 : r8 = 6
     · replace T := T.1 c10
       replace F := aa (eq_true c10) <| F
       by_cases c11 : (r6.length : Int) = 0
       · replace T := T.1 c11
         obtain ⟨r9, q12, rfl⟩ := T
         simp only [R_law2_awake, le, List.cons_append, List.nil_append] at q12
         exact fi (aa (eq_true c11) <| aa q12 <| F)
       · replace T := T.2 c11
         obtain rfl := T
         exact fi (aa (eq_false c11) <| F)
     · replace T := T.2 c10
       obtain rfl := T
       exact fi (aa (eq_false c10) <| F)
   · replace T := T.2 c8
     obtain ⟨r10, q13, T⟩ := T
     simp only [R_law1_Num, le, List.cons_append, List.nil_append] at q13
     replace F := aa (eq_false c8) <| aa q13 <| F
     by_cases c14 : r10 = 0
     · replace T := T.1 c14
       obtain ⟨r11, q15, T⟩ := T
       simp only [R_parse_Tree, le, List.cons_append, List.nil_append] at q15
       replace F := aa (eq_true c14) <| aa q15 <| F
       by_cases c16 : r11 = true
       · replace T := T.1 c16
         obtain ⟨r12, q17, rfl⟩ := T
         simp only [R_law2_awake, le, List.cons_append, List.nil_append] at q17
         exact fi (aa c16 <| aa q17 <| F)
       · replace T := T.2 c16
         replace c16 := Bool.eq_false_iff.2 c16
         obtain rfl := T
         exact fi (aa c16 <| F)
     · replace T := T.2 c14
       obtain rfl := T
       exact fi (aa (eq_false c14) <| F)
set_option maxHeartbeats 4000000 in
theorem law2_ParseDeep_tree (n : UInt8) (how : UInt8) (r : Bool) (T :
  (I64 ((n.toNat : Int))) ∧
 (0 ≤ ((how.toNat : Int).tmod 6)) ∧
 ∃ (v1 : List UInt8), (([[40], [91], [102, 40], [45], [33], [116, 114, 117, 101, 32, 63, 32]] : List (List UInt8))[((how.toNat : Int).tmod 6).toNat]? = some v1) ∧
 (0 ≤ ((how.toNat : Int).tmod 6)) ∧
 ∃ (v2 : List UInt8), (([[41], [93], [41], [], [], [32, 58, 32, 48]] : List (List UInt8))[((how.toNat : Int).tmod 6).toNat]? = some v2) ∧
 At_law2_ParseDeep_1 n v1 v2 [] [] 0 r) : R_law2_ParseDeep n how r := by
 intro S
 rw [call_code sp_law2_ParseDeep _ _ rfl]
 have F := U_law2_ParseDeep
 obtain ⟨p1, p2, v1, q3, p4, v2, q5, T⟩ := T
 replace q3 := congrArg (Option.map eS) q3
 rw [← List.getElem?_map] at q3
 simp only [le, List.map_append, Option.map_some] at q3
 replace q5 := congrArg (Option.map eS) q5
 rw [← List.getElem?_map] at q5
 simp only [le, List.map_append, Option.map_some] at q5
 replace F := aa p1.wrap <| aa p2 <| aa q3 <| aa p4 <| aa q5 <| F
 try simp only [F, lw, lx, le, Nat.reduceMul, UInt8.reduceToNat, reduceIte, reduceCtorEq, Nat.reduceEqDiff, Nat.reduceAdd, Nat.reduceLeDiff, Nat.reduceSub, Nat.reduceLT, Int.reduceEq, Int.reduceLT, Int.reduceLE, Int.reduceToNat, Int.reduceAdd, Int.reduceSub, Int.reduceMul, Int.reduceNeg]
 refine T S _ _ ?_
 exact fi F
end Go.Proofs.YtfbcnpbhhooapaaGreatDoor.M

/- The machine's code of the functions, printed by a program of this session (sc2.py) out of the translation. Not trusted: Lean checks each by its own computation. -/
namespace Go.Proofs.YtfbcnpbhhooapaaGreatDoor.M
open Go
set_option linter.unusedVariables false
/-- doorkeeper/lex.class -/
def c_lex_class_1 : SC := .seq (.reg [⟨(some 2), none, (.v (.mov (.c (.int .i64 0))))⟩]) .ret
def c_lex_class_2 : SC := .cond (.t 10) (.seq (.reg [⟨(some 2), none, (.v (.mov (.c (.int .i64 2))))⟩]) .ret) (.seq (.reg [⟨(some 22), none, (.v (.mov (.t 0)))⟩, ⟨(some 23), none, (.v (.bin .leq (.c (.int .u8 48)) (.t 22)))⟩, ⟨(some 24), none, (.v (.mov (.t 23)))⟩, ⟨(some 25), (some (24, true)), (.v (.mov (.t 0)))⟩, ⟨(some 26), (some (24, true)), (.v (.bin .leq (.t 25) (.c (.int .u8 57))))⟩, ⟨(some 27), none, (.v (.pick (.t 24) (.t 26) (.c (.bool false))))⟩, ⟨(some 21), none, (.v (.mov (.t 27)))⟩]) (.cond (.t 21) (.seq (.reg [⟨(some 2), none, (.v (.mov (.c (.int .i64 3))))⟩]) .ret) (.seq (.reg [⟨(some 29), none, (.v (.mov (.t 0)))⟩, ⟨(some 30), none, (.v (.bin .eql (.t 29) (.c (.int .u8 34))))⟩, ⟨(some 28), none, (.v (.mov (.t 30)))⟩]) (.cond (.t 28) (.seq (.reg [⟨(some 2), none, (.v (.mov (.c (.int .i64 4))))⟩]) .ret) (.seq (.reg [⟨(some 32), none, (.v (.mov (.t 0)))⟩, ⟨(some 33), none, (.v (.bin .eql (.t 32) (.c (.int .u8 35))))⟩, ⟨(some 31), none, (.v (.mov (.t 33)))⟩]) (.cond (.t 31) (.seq (.reg [⟨(some 2), none, (.v (.mov (.c (.int .i64 5))))⟩]) .ret) .skip))))))
def c_lex_class_3 : SC := .cond (.t 3) (.seq (.reg [⟨(some 2), none, (.v (.mov (.c (.int .i64 1))))⟩]) .ret) (.seq (.reg [⟨(some 11), none, (.v (.mov (.t 0)))⟩, ⟨(some 12), none, (.v (.bin .eql (.t 11) (.c (.int .u8 95))))⟩, ⟨(some 13), none, (.v (.mov (.t 12)))⟩, ⟨(some 14), (some (13, false)), (.v (.mov (.t 0)))⟩, ⟨(some 15), (some (13, false)), (.v (.bin .leq (.c (.int .u8 97)) (.t 14)))⟩, ⟨(some 16), (some (13, false)), (.v (.mov (.t 15)))⟩, ⟨(some 17), (some (16, true)), (.v (.mov (.t 0)))⟩, ⟨(some 18), (some (16, true)), (.v (.bin .leq (.t 17) (.c (.int .u8 122))))⟩, ⟨(some 19), (some (13, false)), (.v (.pick (.t 16) (.t 18) (.c (.bool false))))⟩, ⟨(some 20), none, (.v (.pick (.t 13) (.c (.bool true)) (.t 19)))⟩, ⟨(some 10), none, (.v (.mov (.t 20)))⟩]) c_lex_class_2)
def c_lex_class_4 : SC := .seq (.block 0 (.seq (.reg [⟨(some 4), none, (.v (.mov (.t 0)))⟩, ⟨(some 5), none, (.v (.bin .eql (.t 4) (.c (.int .u8 32))))⟩, ⟨(some 6), none, (.v (.mov (.t 5)))⟩, ⟨(some 7), (some (6, false)), (.v (.mov (.t 0)))⟩, ⟨(some 8), (some (6, false)), (.v (.bin .eql (.t 7) (.c (.int .u8 10))))⟩, ⟨(some 9), none, (.v (.pick (.t 6) (.c (.bool true)) (.t 8)))⟩, ⟨(some 3), none, (.v (.mov (.t 9)))⟩]) c_lex_class_3)) c_lex_class_1
def sc_lex_class : SFunc := ⟨1, 34, .seq (.reg [⟨(some 2), none, (.v (.mov (.c (.int .i64 0))))⟩]) c_lex_class_4, [(.t 2)]⟩
theorem U_lex_class : type_of% (And.intro (fun (SP : Prg) (ac : Ac) => congrFun (congrArg (E SP) c_lex_class_1.eq_1) ac) <| And.intro (fun (SP : Prg) (ac : Ac) => congrFun (congrArg (E SP) c_lex_class_2.eq_1) ac) <| And.intro (fun (SP : Prg) (ac : Ac) => congrFun (congrArg (E SP) c_lex_class_3.eq_1) ac) <| And.intro (fun (SP : Prg) (ac : Ac) => congrFun (congrArg (E SP) c_lex_class_4.eq_1) ac) <| sc_lex_class.eq_1) := And.intro (fun (SP : Prg) (ac : Ac) => congrFun (congrArg (E SP) c_lex_class_1.eq_1) ac) <| And.intro (fun (SP : Prg) (ac : Ac) => congrFun (congrArg (E SP) c_lex_class_2.eq_1) ac) <| And.intro (fun (SP : Prg) (ac : Ac) => congrFun (congrArg (E SP) c_lex_class_3.eq_1) ac) <| And.intro (fun (SP : Prg) (ac : Ac) => congrFun (congrArg (E SP) c_lex_class_4.eq_1) ac) <| sc_lex_class.eq_1
theorem comp_lex_class : comp Tryz.prog Tryz.f137 = some sc_lex_class := by kernel_rfl
/-- doorkeeper/lex.span -/
def c_lex_span_1 : SC := .seq (.reg [⟨(some 20), none, (.v (.mov (.t 0)))⟩, ⟨(some 21), none, (.v (.len true (.t 20)))⟩, ⟨(some 4), none, (.v (.mov (.t 21)))⟩]) .ret
def b_lex_span_1 : SC := .seq (.reg [⟨(some 9), none, (.v (.bin .lss (.t 8) (.t 7)))⟩]) (.seq (.cond (.t 9) .skip (.exit 0)) (.seq (.block 1 (.seq (.reg [⟨(some 10), none, (.v (.mov (.t 8)))⟩, ⟨(some 5), none, (.v (.mov (.t 10)))⟩]) (.seq (.reg [⟨(some 11), none, (.v (.mov (.t 1)))⟩, ⟨(some 12), none, (.v (.mov (.t 0)))⟩, ⟨(some 13), none, (.v (.mov (.t 5)))⟩, ⟨(some 14), none, (.v (.istr (.t 12) (.t 13)))⟩, ⟨(some 15), none, (.call (.c (.func 137 [])) [(.t 14)])⟩, ⟨(some 16), none, (.call (.c (.func 170 [])) [(.t 11), (.t 15)])⟩, ⟨(some 17), none, (.v (.un .not (.t 16)))⟩]) (.cond (.t 17) (.seq (.reg [⟨(some 18), none, (.v (.mov (.t 5)))⟩, ⟨(some 4), none, (.v (.mov (.t 18)))⟩]) .ret) .skip)))) (.reg [⟨(some 19), none, (.v (.bin .add (.t 8) (.c (.int .i64 1))))⟩, ⟨(some 8), none, (.v (.mov (.t 19)))⟩])))
def sc_lex_span : SFunc := ⟨2, 22, .seq (.reg [⟨(some 4), none, (.v (.mov (.c (.int .i64 0))))⟩]) (.seq (.seq (.reg [⟨(some 6), none, (.v (.mov (.t 0)))⟩, ⟨(some 7), none, (.v (.len true (.t 6)))⟩, ⟨(some 8), none, (.v (.mov (.c (.int .i64 0))))⟩]) (.block 0 (.loop b_lex_span_1))) c_lex_span_1), [(.t 4)]⟩
noncomputable def k_lex_span_1 (SP : Prg) (x : EO) : CO := fin [(.t 4)] (thC SP (inBlk 0 (x)) c_lex_span_1)
theorem U_lex_span : type_of% (And.intro (fun (SP : Prg) (ac : Ac) => congrFun (congrArg (E SP) c_lex_span_1.eq_1) ac) <| And.intro (fun (SP : Prg) (ac : Ac) => congrFun (congrArg (E SP) b_lex_span_1.eq_1) ac) <| sc_lex_span.eq_1) := And.intro (fun (SP : Prg) (ac : Ac) => congrFun (congrArg (E SP) c_lex_span_1.eq_1) ac) <| And.intro (fun (SP : Prg) (ac : Ac) => congrFun (congrArg (E SP) b_lex_span_1.eq_1) ac) <| sc_lex_span.eq_1
theorem comp_lex_span : comp Tryz.prog Tryz.f151 = some sc_lex_span := by kernel_rfl
/-- (doorkeeper/lex.text).take -/
def sc_lex_text_take : SFunc := ⟨2, 31, .seq (.reg [⟨(some 4), none, (.v (.mov (.c (.str []))))⟩]) (.seq (.reg [⟨(some 6), none, (.v (.mov (.t 0)))⟩, ⟨(some 7), none, (.v (.nchk (.t 6)))⟩, ⟨(some 8), none, (.v (.faddr 0 (.t 7)))⟩, ⟨(some 9), none, (.v (.load none (.t 8)))⟩, ⟨(some 10), none, (.v (.mov (.t 1)))⟩, ⟨(some 11), none, (.v (.sls (.t 9) none (some (.t 10))))⟩, ⟨(some 5), none, (.v (.mov (.t 11)))⟩]) (.seq (.dreg [⟨(some 12), none, (.v (.mov (.t 0)))⟩, ⟨(some 13), none, (.v (.mov (.t 0)))⟩, ⟨(some 14), none, (.v (.mov (.t 0)))⟩, ⟨(some 15), none, (.v (.nchk (.t 14)))⟩, ⟨(some 16), none, (.v (.faddr 0 (.t 15)))⟩, ⟨(some 17), none, (.v (.load none (.t 16)))⟩, ⟨(some 18), none, (.v (.mov (.t 1)))⟩, ⟨(some 19), none, (.v (.sls (.t 17) (some (.t 18)) none))⟩, ⟨(some 20), none, (.v (.mov (.t 0)))⟩, ⟨(some 21), none, (.v (.nchk (.t 20)))⟩, ⟨(some 22), none, (.v (.faddr 1 (.t 21)))⟩, ⟨(some 23), none, (.v (.load none (.t 22)))⟩, ⟨(some 24), none, (.v (.mov (.t 1)))⟩, ⟨(some 25), none, (.v (.bin .add (.t 23) (.t 24)))⟩, ⟨(some 26), none, (.v (.nchk (.t 12)))⟩, ⟨(some 27), none, (.v (.faddr 0 (.t 26)))⟩, ⟨none, none, (.store 1 (.t 27) (.t 19))⟩, ⟨(some 28), none, (.v (.nchk (.t 13)))⟩, ⟨(some 29), none, (.v (.faddr 1 (.t 28)))⟩, ⟨none, none, (.store 1 (.t 29) (.t 25))⟩] [false, false, false, false, false, false, false, false, false, false, false, false, false, false, true, true, true, true, true, true]) (.seq (.reg [⟨(some 30), none, (.v (.mov (.t 5)))⟩, ⟨(some 4), none, (.v (.mov (.t 30)))⟩]) .ret))), [(.t 4)]⟩
theorem U_lex_text_take : type_of% (sc_lex_text_take.eq_1) := sc_lex_text_take.eq_1
theorem comp_lex_text_take : comp Tryz.prog Tryz.f135 = some sc_lex_text_take := by kernel_rfl
/-- (doorkeeper/lex.text).word -/
def sc_lex_text_word : SFunc := ⟨2, 13, .seq (.reg [⟨(some 4), none, (.v (.mov (.c (.str []))))⟩]) (.seq (.reg [⟨(some 5), none, (.v (.mov (.t 0)))⟩, ⟨(some 6), none, (.v (.mov (.t 0)))⟩, ⟨(some 7), none, (.v (.nchk (.t 6)))⟩, ⟨(some 8), none, (.v (.faddr 0 (.t 7)))⟩, ⟨(some 9), none, (.v (.load none (.t 8)))⟩, ⟨(some 10), none, (.v (.mov (.t 1)))⟩, ⟨(some 11), none, (.call (.c (.func 151 [])) [(.t 9), (.t 10)])⟩, ⟨(some 12), none, (.call (.c (.func 135 [])) [(.t 5), (.t 11)])⟩, ⟨(some 4), none, (.v (.mov (.t 12)))⟩]) .ret), [(.t 4)]⟩
theorem U_lex_text_word : type_of% (sc_lex_text_word.eq_1) := sc_lex_text_word.eq_1
theorem comp_lex_text_word : comp Tryz.prog Tryz.f134 = some sc_lex_text_word := by kernel_rfl
/-- (doorkeeper/lex.parts).plain -/
def c_lex_parts_plain_1 : SC := .dreg [⟨(some 31), none, (.v (.mov (.t 0)))⟩, ⟨(some 32), none, (.v (.nchk (.t 31)))⟩, ⟨(some 33), none, (.v (.load none (.t 32)))⟩, ⟨(some 34), none, (.v (.mov (.t 4)))⟩, ⟨(some 35), none, (.v (.bin .sub (.t 34) (.c (.int .i64 1))))⟩, ⟨(some 36), none, (.v (.iaddr 2 (.t 33) (.t 35)))⟩, ⟨(some 37), none, (.v (.faddr 1 (.t 36)))⟩, ⟨(some 38), none, (.v (.load none (.t 37)))⟩, ⟨(some 39), none, (.v (.mov (.t 1)))⟩, ⟨(some 40), none, (.bslice 1 1 [(.int .u8 0)] [(0, (.t 39))])⟩, ⟨(some 41), none, (.v (.conv .bytes (.t 40)))⟩, ⟨(some 42), none, (.v (.bin .add (.t 38) (.t 41)))⟩, ⟨(some 43), none, (.v (.iaddr 2 (.t 33) (.t 35)))⟩, ⟨(some 44), none, (.v (.faddr 1 (.t 43)))⟩, ⟨none, none, (.store 1 (.t 44) (.t 42))⟩] [false, false, false, false, false, false, false, false, false, false, false, true, true, true, true]
def c_lex_parts_plain_2 : SC := .seq (.seq (.reg [⟨(some 9), none, (.v (.mov (.t 4)))⟩, ⟨(some 10), none, (.v (.bin .eql (.t 9) (.c (.int .i64 0))))⟩, ⟨(some 11), none, (.v (.mov (.t 10)))⟩, ⟨(some 12), (some (11, false)), (.v (.mov (.t 0)))⟩, ⟨(some 13), (some (11, false)), (.v (.nchk (.t 12)))⟩, ⟨(some 14), (some (11, false)), (.v (.load none (.t 13)))⟩, ⟨(some 15), (some (11, false)), (.v (.mov (.t 4)))⟩, ⟨(some 16), (some (11, false)), (.v (.bin .sub (.t 15) (.c (.int .i64 1))))⟩, ⟨(some 17), (some (11, false)), (.v (.iaddr 2 (.t 14) (.t 16)))⟩, ⟨(some 18), (some (11, false)), (.v (.faddr 0 (.t 17)))⟩, ⟨(some 19), (some (11, false)), (.v (.load none (.t 18)))⟩, ⟨(some 20), none, (.v (.pick (.t 11) (.c (.bool true)) (.t 19)))⟩]) (.cond (.t 20) (.seq (.reg [⟨(some 21), none, (.v (.mov (.t 0)))⟩, ⟨(some 22), none, (.v (.mov (.t 0)))⟩, ⟨(some 23), none, (.v (.nchk (.t 22)))⟩, ⟨(some 24), none, (.v (.load none (.t 23)))⟩, ⟨(some 25), none, (.v (.build [(.bool false), (.str [])] []))⟩, ⟨(some 26), none, (.bslice 2 1 [(.bool false), (.str [])] [(0, (.t 25))])⟩, ⟨(some 27), none, (.append 2 24 (.t 24) (.t 26))⟩, ⟨(some 28), none, (.v (.nchk (.t 21)))⟩, ⟨none, none, (.store 1 (.t 28) (.t 27))⟩]) (.reg [⟨(some 29), none, (.v (.mov (.t 4)))⟩, ⟨(some 30), none, (.v (.bin .add (.t 29) (.c (.int .i64 1))))⟩, ⟨(some 4), none, (.v (.mov (.t 30)))⟩])) .skip)) c_lex_parts_plain_1
def sc_lex_parts_plain : SFunc := ⟨2, 45, .seq (.reg [⟨(some 5), none, (.v (.mov (.t 0)))⟩, ⟨(some 6), none, (.v (.nchk (.t 5)))⟩, ⟨(some 7), none, (.v (.load none (.t 6)))⟩, ⟨(some 8), none, (.v (.len false (.t 7)))⟩, ⟨(some 4), none, (.v (.mov (.t 8)))⟩]) c_lex_parts_plain_2, []⟩
theorem U_lex_parts_plain : type_of% (And.intro (fun (SP : Prg) (ac : Ac) => congrFun (congrArg (E SP) c_lex_parts_plain_1.eq_1) ac) <| And.intro (fun (SP : Prg) (ac : Ac) => congrFun (congrArg (E SP) c_lex_parts_plain_2.eq_1) ac) <| sc_lex_parts_plain.eq_1) := And.intro (fun (SP : Prg) (ac : Ac) => congrFun (congrArg (E SP) c_lex_parts_plain_1.eq_1) ac) <| And.intro (fun (SP : Prg) (ac : Ac) => congrFun (congrArg (E SP) c_lex_parts_plain_2.eq_1) ac) <| sc_lex_parts_plain.eq_1
theorem comp_lex_parts_plain : comp Tryz.prog Tryz.f165 = some sc_lex_parts_plain := by kernel_rfl
/-- doorkeeper/lex.escaped -/
def sc_lex_escaped : SFunc := ⟨1, 15, .seq (.reg [⟨(some 2), none, (.v (.mov (.c (.int .u8 0))))⟩, ⟨(some 3), none, (.v (.mov (.c (.bool false))))⟩]) (.seq (.seq (.reg [⟨(some 5), none, (.v (.mov (.t 0)))⟩, ⟨(some 6), none, (.v (.len true (.t 5)))⟩, ⟨(some 7), none, (.v (.bin .lss (.t 6) (.c (.int .i64 2))))⟩]) (.cond (.t 7) (.seq (.reg [⟨(some 2), none, (.v (.mov (.c (.int .u8 0))))⟩, ⟨(some 3), none, (.v (.mov (.c (.bool false))))⟩]) .ret) .skip)) (.seq (.reg [⟨(some 8), none, (.v (.mov (.t 0)))⟩, ⟨(some 9), none, (.v (.istr (.t 8) (.c (.int .i64 1))))⟩, ⟨(some 10), none, (.call (.c (.func 179 [])) [(.c (.str [34, 92, 36, 110])), (.t 9)])⟩, ⟨(some 4), none, (.v (.mov (.t 10)))⟩]) (.seq (.seq (.reg [⟨(some 11), none, (.v (.mov (.t 4)))⟩, ⟨(some 12), none, (.v (.bin .lss (.t 11) (.c (.int .i64 0))))⟩]) (.cond (.t 12) (.seq (.reg [⟨(some 2), none, (.v (.mov (.c (.int .u8 0))))⟩, ⟨(some 3), none, (.v (.mov (.c (.bool false))))⟩]) .ret) .skip)) (.seq (.reg [⟨(some 13), none, (.v (.mov (.t 4)))⟩, ⟨(some 14), none, (.v (.istr (.c (.str [34, 92, 36, 10])) (.t 13)))⟩, ⟨(some 2), none, (.v (.mov (.t 14)))⟩, ⟨(some 3), none, (.v (.mov (.c (.bool true))))⟩]) .ret)))), [(.t 2), (.t 3)]⟩
theorem U_lex_escaped : type_of% (sc_lex_escaped.eq_1) := sc_lex_escaped.eq_1
theorem comp_lex_escaped : comp Tryz.prog Tryz.f164 = some sc_lex_escaped := by kernel_rfl
/-- doorkeeper/lex.reference -/
def c_lex_reference_1 : SC := .seq (.reg [⟨(some 18), none, (.v (.mov (.t 4)))⟩, ⟨(some 19), none, (.call (.c (.func 112 [])) [(.t 18), (.c (.str [46]))])⟩, ⟨(some 17), none, (.v (.mov (.t 19)))⟩, ⟨(some 20), none, (.v (.extract 0 (.t 17)))⟩, ⟨(some 21), none, (.v (.extract 1 (.t 17)))⟩, ⟨(some 22), none, (.v (.extract 2 (.t 17)))⟩, ⟨(some 7), none, (.v (.mov (.t 20)))⟩, ⟨(some 8), none, (.v (.mov (.t 21)))⟩, ⟨(some 9), none, (.v (.mov (.t 22)))⟩]) (.seq (.reg [⟨(some 23), none, (.v (.mov (.t 4)))⟩, ⟨(some 24), none, (.v (.mov (.t 6)))⟩, ⟨(some 25), none, (.v (.mov (.t 24)))⟩, ⟨(some 26), (some (25, true)), (.v (.mov (.t 9)))⟩, ⟨(some 27), none, (.v (.pick (.t 25) (.t 26) (.c (.bool false))))⟩, ⟨(some 28), none, (.v (.mov (.t 27)))⟩, ⟨(some 29), (some (28, true)), (.v (.mov (.t 7)))⟩, ⟨(some 30), (some (28, true)), (.call (.c (.func 115 [])) [(.t 29)])⟩, ⟨(some 31), none, (.v (.pick (.t 28) (.t 30) (.c (.bool false))))⟩, ⟨(some 32), none, (.v (.mov (.t 31)))⟩, ⟨(some 33), (some (32, true)), (.v (.mov (.t 8)))⟩, ⟨(some 34), (some (32, true)), (.call (.c (.func 115 [])) [(.t 33)])⟩, ⟨(some 35), none, (.v (.pick (.t 32) (.t 34) (.c (.bool false))))⟩, ⟨(some 2), none, (.v (.mov (.t 23)))⟩, ⟨(some 3), none, (.v (.mov (.t 35)))⟩]) .ret)
def c_lex_reference_2 : SC := .seq (.reg [⟨(some 11), none, (.v (.mov (.t 0)))⟩, ⟨(some 12), none, (.v (.sls (.t 11) (some (.c (.int .i64 2))) none))⟩, ⟨(some 13), none, (.call (.c (.func 112 [])) [(.t 12), (.c (.str [125]))])⟩, ⟨(some 10), none, (.v (.mov (.t 13)))⟩, ⟨(some 14), none, (.v (.extract 0 (.t 10)))⟩, ⟨(some 15), none, (.v (.extract 1 (.t 10)))⟩, ⟨(some 16), none, (.v (.extract 2 (.t 10)))⟩, ⟨(some 4), none, (.v (.mov (.t 14)))⟩, ⟨(some 5), none, (.v (.mov (.t 15)))⟩, ⟨(some 6), none, (.v (.mov (.t 16)))⟩]) c_lex_reference_1
def sc_lex_reference : SFunc := ⟨1, 36, .seq (.reg [⟨(some 2), none, (.v (.mov (.c (.str []))))⟩, ⟨(some 3), none, (.v (.mov (.c (.bool false))))⟩]) c_lex_reference_2, [(.t 2), (.t 3)]⟩
theorem U_lex_reference : type_of% (And.intro (fun (SP : Prg) (ac : Ac) => congrFun (congrArg (E SP) c_lex_reference_1.eq_1) ac) <| And.intro (fun (SP : Prg) (ac : Ac) => congrFun (congrArg (E SP) c_lex_reference_2.eq_1) ac) <| sc_lex_reference.eq_1) := And.intro (fun (SP : Prg) (ac : Ac) => congrFun (congrArg (E SP) c_lex_reference_1.eq_1) ac) <| And.intro (fun (SP : Prg) (ac : Ac) => congrFun (congrArg (E SP) c_lex_reference_2.eq_1) ac) <| sc_lex_reference.eq_1
theorem comp_lex_reference : comp Tryz.prog Tryz.f166 = some sc_lex_reference := by kernel_rfl
/-- doorkeeper/lex.Name -/
def sc_lex_Name : SFunc := ⟨1, 24, .seq (.reg [⟨(some 2), none, (.v (.mov (.c (.bool false))))⟩]) (.seq (.reg [⟨(some 3), none, (.v (.mov (.t 0)))⟩, ⟨(some 4), none, (.v (.bin .neq (.t 3) (.c (.str []))))⟩, ⟨(some 5), none, (.v (.mov (.t 4)))⟩, ⟨(some 6), (some (5, true)), (.v (.mov (.t 0)))⟩, ⟨(some 7), (some (5, true)), (.v (.len true (.t 6)))⟩, ⟨(some 8), (some (5, true)), (.v (.bin .leq (.t 7) (.c (.int .i64 24))))⟩, ⟨(some 9), none, (.v (.pick (.t 5) (.t 8) (.c (.bool false))))⟩, ⟨(some 10), none, (.v (.mov (.t 9)))⟩, ⟨(some 11), (some (10, true)), (.v (.mov (.t 0)))⟩, ⟨(some 12), (some (10, true)), (.v (.istr (.t 11) (.c (.int .i64 0))))⟩, ⟨(some 13), (some (10, true)), (.call (.c (.func 137 [])) [(.t 12)])⟩, ⟨(some 14), (some (10, true)), (.v (.bin .eql (.t 13) (.c (.int .i64 2))))⟩, ⟨(some 15), none, (.v (.pick (.t 10) (.t 14) (.c (.bool false))))⟩, ⟨(some 16), none, (.v (.mov (.t 15)))⟩, ⟨(some 17), (some (16, true)), (.v (.mov (.t 0)))⟩, ⟨(some 18), (some (16, true)), (.bslice 1 2 [(.int .i64 0)] [(0, (.c (.int .i64 2))), (1, (.c (.int .i64 3)))])⟩, ⟨(some 19), (some (16, true)), (.call (.c (.func 151 [])) [(.t 17), (.t 18)])⟩, ⟨(some 20), (some (16, true)), (.v (.mov (.t 0)))⟩, ⟨(some 21), (some (16, true)), (.v (.len true (.t 20)))⟩, ⟨(some 22), (some (16, true)), (.v (.bin .eql (.t 19) (.t 21)))⟩, ⟨(some 23), none, (.v (.pick (.t 16) (.t 22) (.c (.bool false))))⟩, ⟨(some 2), none, (.v (.mov (.t 23)))⟩]) .ret), [(.t 2)]⟩
theorem U_lex_Name : type_of% (sc_lex_Name.eq_1) := sc_lex_Name.eq_1
theorem comp_lex_Name : comp Tryz.prog Tryz.f115 = some sc_lex_Name := by kernel_rfl
/-- doorkeeper/doorkeeperref1.text -/
def c_ref1_text_1 : SC := .seq (.reg [⟨(some 126), none, (.v (.build [(.int .i64 0), (.str []), (.int .i64 0), (.nils 2), (.int .i64 0)] []))⟩, ⟨none, none, (.store 5 (.t 4) (.t 126))⟩, ⟨(some 5), none, (.v (.mov (.c (.int .i64 0))))⟩]) .ret
def c_ref1_text_2 : SC := .reg [⟨(some 17), none, (.v (.mov (.t 8)))⟩, ⟨(some 18), none, (.v (.bin .add (.t 17) (.c (.int .i64 1))))⟩, ⟨(some 8), none, (.v (.mov (.t 18)))⟩]
def c_ref1_text_3 : SC := .seq (.reg [⟨(some 59), none, (.v (.mov (.t 0)))⟩, ⟨(some 60), none, (.v (.mov (.t 8)))⟩, ⟨(some 61), none, (.v (.istr (.t 59) (.t 60)))⟩]) (.block 3 (.seq (.seq (.reg [⟨(some 64), none, (.v (.bin .eql (.t 61) (.c (.int .u8 34))))⟩, ⟨(some 63), none, (.v (.mov (.t 64)))⟩]) (.cond (.t 63) .skip (.seq (.reg [⟨(some 65), none, (.v (.bin .eql (.t 61) (.c (.int .u8 92))))⟩, ⟨(some 63), none, (.v (.mov (.t 65)))⟩]) (.cond (.t 63) .skip (.reg [⟨(some 66), none, (.v (.bin .eql (.t 61) (.c (.int .u8 36))))⟩, ⟨(some 63), none, (.v (.mov (.t 66)))⟩]))))) (.cond (.t 63) (.reg [⟨(some 67), none, (.v (.mov (.t 7)))⟩, ⟨(some 68), none, (.v (.mov (.t 0)))⟩, ⟨(some 69), none, (.v (.mov (.t 8)))⟩, ⟨(some 70), none, (.v (.istr (.t 68) (.t 69)))⟩, ⟨(some 71), none, (.bslice 1 1 [(.int .u8 0)] [(0, (.t 70))])⟩, ⟨(some 72), none, (.append 1 1 (.t 67) (.t 71))⟩, ⟨(some 7), none, (.v (.mov (.t 72)))⟩]) (.seq (.reg [⟨(some 74), none, (.v (.bin .eql (.t 61) (.c (.int .u8 110))))⟩, ⟨(some 73), none, (.v (.mov (.t 74)))⟩]) (.cond (.t 73) (.reg [⟨(some 75), none, (.v (.mov (.t 7)))⟩, ⟨(some 76), none, (.bslice 1 1 [(.int .u8 0)] [(0, (.c (.int .u8 10)))])⟩, ⟨(some 77), none, (.append 1 1 (.t 75) (.t 76))⟩, ⟨(some 7), none, (.v (.mov (.t 77)))⟩]) (.seq (.reg [⟨(some 62), none, (.v (.build [(.int .i64 0), (.str []), (.int .i64 0), (.nils 2), (.int .i64 0)] []))⟩, ⟨none, none, (.store 5 (.t 4) (.t 62))⟩, ⟨(some 5), none, (.v (.mov (.c (.int .i64 0))))⟩]) .ret))))))
def c_ref1_text_4 : SC := .seq (.seq (.reg [⟨(some 54), none, (.v (.mov (.t 8)))⟩, ⟨(some 55), none, (.v (.mov (.t 0)))⟩, ⟨(some 56), none, (.v (.len true (.t 55)))⟩, ⟨(some 57), none, (.v (.bin .geq (.t 54) (.t 56)))⟩]) (.cond (.t 57) (.seq (.reg [⟨(some 58), none, (.v (.build [(.int .i64 0), (.str []), (.int .i64 0), (.nils 2), (.int .i64 0)] []))⟩, ⟨none, none, (.store 5 (.t 4) (.t 58))⟩, ⟨(some 5), none, (.v (.mov (.c (.int .i64 0))))⟩]) .ret) .skip)) c_ref1_text_3
def c_ref1_text_5 : SC := .seq (.reg [⟨(some 110), none, (.v (.mov (.t 6)))⟩, ⟨(some 111), none, (.v (.mov (.t 0)))⟩, ⟨(some 112), none, (.v (.mov (.t 8)))⟩, ⟨(some 113), none, (.v (.bin .add (.t 112) (.c (.int .i64 2))))⟩, ⟨(some 114), none, (.v (.mov (.t 8)))⟩, ⟨(some 115), none, (.v (.mov (.t 10)))⟩, ⟨(some 116), none, (.v (.bin .add (.t 114) (.t 115)))⟩, ⟨(some 117), none, (.v (.bin .sub (.t 116) (.c (.int .i64 1))))⟩, ⟨(some 118), none, (.v (.sls (.t 111) (some (.t 113)) (some (.t 117))))⟩, ⟨(some 119), none, (.v (.build [(.bool false), (.str [])] [(0, 1, (.c (.bool true))), (1, 1, (.t 118))]))⟩, ⟨(some 120), none, (.bslice 2 1 [(.bool false), (.str [])] [(0, (.t 119))])⟩, ⟨(some 121), none, (.append 2 24 (.t 110) (.t 120))⟩, ⟨(some 6), none, (.v (.mov (.t 121)))⟩]) (.reg [⟨(some 122), none, (.v (.mov (.t 8)))⟩, ⟨(some 123), none, (.v (.mov (.t 10)))⟩, ⟨(some 124), none, (.v (.bin .add (.t 122) (.t 123)))⟩, ⟨(some 125), none, (.v (.bin .sub (.t 124) (.c (.int .i64 1))))⟩, ⟨(some 8), none, (.v (.mov (.t 125)))⟩])
def c_ref1_text_6 : SC := .seq (.seq (.reg [⟨(some 101), none, (.v (.mov (.t 7)))⟩, ⟨(some 102), none, (.v (.len false (.t 101)))⟩, ⟨(some 103), none, (.v (.bin .gtr (.t 102) (.c (.int .i64 0))))⟩]) (.cond (.t 103) (.seq (.reg [⟨(some 104), none, (.v (.mov (.t 6)))⟩, ⟨(some 105), none, (.v (.mov (.t 7)))⟩, ⟨(some 106), none, (.v (.conv .bytes (.t 105)))⟩, ⟨(some 107), none, (.v (.build [(.bool false), (.str [])] [(1, 1, (.t 106))]))⟩, ⟨(some 108), none, (.bslice 2 1 [(.bool false), (.str [])] [(0, (.t 107))])⟩, ⟨(some 109), none, (.append 2 24 (.t 104) (.t 108))⟩, ⟨(some 6), none, (.v (.mov (.t 109)))⟩]) (.reg [⟨(some 7), none, (.nilv 1)⟩])) .skip)) c_ref1_text_5
def c_ref1_text_7 : SC := .seq (.seq (.reg [⟨(some 98), none, (.v (.mov (.t 10)))⟩, ⟨(some 99), none, (.v (.bin .eql (.t 98) (.c (.int .i64 0))))⟩]) (.cond (.t 99) (.seq (.reg [⟨(some 100), none, (.v (.build [(.int .i64 0), (.str []), (.int .i64 0), (.nils 2), (.int .i64 0)] []))⟩, ⟨none, none, (.store 5 (.t 4) (.t 100))⟩, ⟨(some 5), none, (.v (.mov (.c (.int .i64 0))))⟩]) .ret) .skip)) c_ref1_text_6
def c_ref1_text_8 : SC := .cond (.t 78) (.seq (.reg [⟨(some 95), none, (.v (.mov (.t 0)))⟩, ⟨(some 96), none, (.v (.mov (.t 8)))⟩, ⟨(some 97), none, (.call (.c (.func 154 [])) [(.t 95), (.t 96)])⟩, ⟨(some 10), none, (.v (.mov (.t 97)))⟩]) c_ref1_text_7) (.reg [⟨(some 22), none, (.v (.mov (.t 7)))⟩, ⟨(some 23), none, (.v (.mov (.t 9)))⟩, ⟨(some 24), none, (.bslice 1 1 [(.int .u8 0)] [(0, (.t 23))])⟩, ⟨(some 25), none, (.append 1 1 (.t 22) (.t 24))⟩, ⟨(some 7), none, (.v (.mov (.t 25)))⟩])
def c_ref1_text_9 : SC := .cond (.t 49) (.seq (.reg [⟨(some 52), none, (.v (.mov (.t 8)))⟩, ⟨(some 53), none, (.v (.bin .add (.t 52) (.c (.int .i64 1))))⟩, ⟨(some 8), none, (.v (.mov (.t 53)))⟩]) c_ref1_text_4) (.seq (.reg [⟨(some 79), none, (.v (.mov (.t 9)))⟩, ⟨(some 80), none, (.v (.bin .eql (.t 79) (.c (.int .u8 36))))⟩, ⟨(some 81), none, (.v (.mov (.t 80)))⟩, ⟨(some 82), (some (81, true)), (.v (.mov (.t 8)))⟩, ⟨(some 83), (some (81, true)), (.v (.bin .add (.t 82) (.c (.int .i64 1))))⟩, ⟨(some 84), (some (81, true)), (.v (.mov (.t 0)))⟩, ⟨(some 85), (some (81, true)), (.v (.len true (.t 84)))⟩, ⟨(some 86), (some (81, true)), (.v (.bin .lss (.t 83) (.t 85)))⟩, ⟨(some 87), none, (.v (.pick (.t 81) (.t 86) (.c (.bool false))))⟩, ⟨(some 88), none, (.v (.mov (.t 87)))⟩, ⟨(some 89), (some (88, true)), (.v (.mov (.t 0)))⟩, ⟨(some 90), (some (88, true)), (.v (.mov (.t 8)))⟩, ⟨(some 91), (some (88, true)), (.v (.bin .add (.t 90) (.c (.int .i64 1))))⟩, ⟨(some 92), (some (88, true)), (.v (.istr (.t 89) (.t 91)))⟩, ⟨(some 93), (some (88, true)), (.v (.bin .eql (.t 92) (.c (.int .u8 123))))⟩, ⟨(some 94), none, (.v (.pick (.t 88) (.t 93) (.c (.bool false))))⟩, ⟨(some 78), none, (.v (.mov (.t 94)))⟩]) c_ref1_text_8)
def c_ref1_text_10 : SC := .cond (.t 45) (.seq (.reg [⟨(some 48), none, (.v (.build [(.int .i64 0), (.str []), (.int .i64 0), (.nils 2), (.int .i64 0)] []))⟩, ⟨none, none, (.store 5 (.t 4) (.t 48))⟩, ⟨(some 5), none, (.v (.mov (.c (.int .i64 0))))⟩]) .ret) (.seq (.reg [⟨(some 50), none, (.v (.mov (.t 9)))⟩, ⟨(some 51), none, (.v (.bin .eql (.t 50) (.c (.int .u8 92))))⟩, ⟨(some 49), none, (.v (.mov (.t 51)))⟩]) c_ref1_text_9)
def c_ref1_text_11 : SC := .cond (.t 26) (.seq (.seq (.reg [⟨(some 29), none, (.v (.mov (.t 7)))⟩, ⟨(some 30), none, (.v (.len false (.t 29)))⟩, ⟨(some 31), none, (.v (.bin .gtr (.t 30) (.c (.int .i64 0))))⟩]) (.cond (.t 31) (.reg [⟨(some 32), none, (.v (.mov (.t 6)))⟩, ⟨(some 33), none, (.v (.mov (.t 7)))⟩, ⟨(some 34), none, (.v (.conv .bytes (.t 33)))⟩, ⟨(some 35), none, (.v (.build [(.bool false), (.str [])] [(1, 1, (.t 34))]))⟩, ⟨(some 36), none, (.bslice 2 1 [(.bool false), (.str [])] [(0, (.t 35))])⟩, ⟨(some 37), none, (.append 2 24 (.t 32) (.t 36))⟩, ⟨(some 6), none, (.v (.mov (.t 37)))⟩]) .skip)) (.seq (.reg [⟨(some 38), none, (.v (.mov (.t 6)))⟩, ⟨(some 39), none, (.v (.mov (.t 1)))⟩, ⟨(some 40), none, (.v (.build [(.int .i64 0), (.str []), (.int .i64 0), (.nils 2), (.int .i64 0)] [(0, 1, (.c (.int .i64 2))), (3, 1, (.t 38)), (4, 1, (.t 39))]))⟩, ⟨(some 41), none, (.v (.mov (.t 8)))⟩, ⟨(some 42), none, (.v (.bin .add (.t 41) (.c (.int .i64 1))))⟩, ⟨(some 43), none, (.v (.mov (.t 1)))⟩, ⟨(some 44), none, (.v (.bin .sub (.t 42) (.t 43)))⟩, ⟨none, none, (.store 5 (.t 4) (.t 40))⟩, ⟨(some 5), none, (.v (.mov (.t 44)))⟩]) .ret)) (.seq (.reg [⟨(some 46), none, (.v (.mov (.t 9)))⟩, ⟨(some 47), none, (.v (.bin .lss (.t 46) (.c (.int .u8 32))))⟩, ⟨(some 45), none, (.v (.mov (.t 47)))⟩]) c_ref1_text_10)
def c_ref1_text_12 : SC := .block 2 (.seq (.reg [⟨(some 27), none, (.v (.mov (.t 9)))⟩, ⟨(some 28), none, (.v (.bin .eql (.t 27) (.c (.int .u8 34))))⟩, ⟨(some 26), none, (.v (.mov (.t 28)))⟩]) c_ref1_text_11)
def c_ref1_text_13 : SC := .seq (.block 1 (.seq (.reg [⟨(some 19), none, (.v (.mov (.t 0)))⟩, ⟨(some 20), none, (.v (.mov (.t 8)))⟩, ⟨(some 21), none, (.v (.istr (.t 19) (.t 20)))⟩, ⟨(some 9), none, (.v (.mov (.t 21)))⟩]) c_ref1_text_12)) c_ref1_text_2
def b_ref1_text_1 : SC := .seq (.seq (.reg [⟨(some 13), none, (.v (.mov (.t 8)))⟩, ⟨(some 14), none, (.v (.mov (.t 0)))⟩, ⟨(some 15), none, (.v (.len true (.t 14)))⟩, ⟨(some 16), none, (.v (.bin .lss (.t 13) (.t 15)))⟩]) (.cond (.t 16) .skip (.exit 0))) c_ref1_text_13
noncomputable def k_ref1_text_1 (SP : Prg) (x : EO) : CO := fin [(.cell 4 (some 5)), (.t 5)] (thC SP (inBlk 0 (x)) c_ref1_text_1)
end Go.Proofs.YtfbcnpbhhooapaaGreatDoor.M
