/- Parts of a proof, one behind another: Ma30, Ma31, Ma32, Ma33, Ma34, Ma35, P1, Ma36, P3, P4, P5, P6, P10, Lf0. -/
import Derived.Test.YtebflncfgjnkkaaZValMade2
import Derived.ChangeArms
import Derived.ChangeShapes
import Derived.WideShapes
import Derived.Below
import Derived.RowKit
import Derived.ChangeMaps5
/- THE ABSTRACT MACHINE, thirtieth part: a function: what is reckoned is what a call of it does. -/
namespace Go.Proofs.Ytebflncfgjnkkaa.M
set_option linter.unusedSimpArgs false
set_option linter.unusedVariables false
open Go Classical
section
variable {g g' : Gh} {S S' : Sto} {w w' : World} {P : Program}
/-! ### In and out -/
def Ow.up : Ow → Ow
  | .box n t => .box (n + 1) t
  | .arr n k => .arr (n + 1) k
theorem up_inj {x y : Ow} (h : x.up = y.up) : x = y := by cases x <;> cases y <;> simp [Ow.up] at h <;> simp [h]
theorem push_own {x : Ow} {b : Nat} (h : g.push.own x = some b) : ∃ y, x = y.up ∧ g.own y = some b := by
  cases x with
  | box n t =>
    cases n with
    | zero => simp [Gh.own, Gh.push] at h
    | succ n => exact ⟨.box n t, rfl, h⟩
  | arr n k =>
    cases n with
    | zero => simp [Gh.own, Gh.push] at h
    | succ n => exact ⟨.arr n k, rfl, h⟩
theorem pop_own (g : Gh) (x : Ow) : g.pop.own x = g.own x.up := by cases x <;> rfl
theorem own_push (g : Gh) (x : Ow) : g.push.own x.up = g.own x := by cases x <;> rfl
theorem push_wr (hw : WR g S w) : WR g.push (Fr.e :: S) w := by
  refine ⟨hw.fz, ?_, ?_, ?_⟩
  · intro n t b h
    cases n with
    | zero => simp [Gh.push] at h
    | succ n =>
      obtain ⟨vs, cs, elem, h1, h2, h3, h4, h5⟩ := hw.box n t b h
      exact ⟨vs, cs, elem, h1, h2, h3, fun i v hi => (h4 i v hi).up (Gh.pop_push g), h5⟩
  · intro n k ai h
    cases n with
    | zero => simp [Gh.push] at h
    | succ n =>
      obtain ⟨A, h1, h2⟩ := hw.arr n k ai h
      exact ⟨A, h1, h2.ghost rfl⟩
  · intro x y b hx hy
    obtain ⟨x', rfl, hx'⟩ := push_own hx
    obtain ⟨y', rfl, hy'⟩ := push_own hy
    rw [hw.inj x' y' b hx' hy']
mutual
theorem up_dn : ∀ v : PV, v.up.dn = some v
  | .bool _ | .int _ _ | .str _ | .nils _ | .list _ _ _ | .rowp _ _ | .nili | .undef | .junk | .ptr _ _ _ | .elem _ _ _ _ _ _ | .sl _ _ _ _ _ _ _ => by simp [PV.up, PV.dn]
  | .agg vs => by simp [PV.up, PV.dn, upL_dn vs]
  | .tup vs => by simp [PV.up, PV.dn, upL_dn vs]
  | .func f vs => by simp [PV.up, PV.dn, upL_dn vs]
  | .iface t v => by simp [PV.up, PV.dn, up_dn v]
theorem upL_dn : ∀ vs : List PV, PV.dnL (PV.upL vs) = some vs
  | [] => by simp [PV.upL, PV.dnL]
  | v :: vs => by simp [PV.upL, PV.dnL, up_dn v, upL_dn vs]
end
theorem getBox_tail (S : Sto) (n t : Nat) : getBox S (n + 1) t = getBox S.tail n t := by cases S <;> simp [getBox]
theorem getArr_tail (S : Sto) (n : Nat) (k : AK) : getArr S (n + 1) k = getArr S.tail n k := by cases S <;> simp [getArr]
theorem pop_wr (hw : WR g S w) : WR g.pop S.tail w := by
  refine ⟨hw.fz, ?_, ?_, ?_⟩
  · intro n t b h
    obtain ⟨vs, cs, elem, h1, h2, h3, h4, h5⟩ := hw.box (n + 1) t b h
    exact ⟨vs, cs, elem, by rw [← getBox_tail]; exact h1, h2, h3, fun i v hi => (h4 i v hi).dn _ (up_dn _), h5⟩
  · intro n k ai h
    obtain ⟨A, h1, h2⟩ := hw.arr (n + 1) k ai h
    exact ⟨A, by rw [← getArr_tail]; exact h1, h2.ghost rfl⟩
  · intro x y b hx hy
    rw [pop_own] at hx hy
    exact up_inj (hw.inj _ _ b hx hy)
theorem pop_tr (h : Tr g.push w g' w') : Tr g w g'.pop w' := by
  refine ⟨h.os, h.tape, h.output, h.size, h.fz, fun k hk hn => h.keep k hk fun x hx => ?_, fun x k hx => ?_, h.out.pop_⟩
  · obtain ⟨y, _, hy⟩ := push_own hx
    exact hn y hy
  · rw [pop_own] at hx
    rcases h.new _ k hx with h1 | h1
    · rw [own_push] at h1; exact .inl h1
    · exact .inr h1
/-! ### What is handed back -/
theorem loadVar_of {t : TypeId} {c u : Value} (h : (Instr.loadAt t c).run P w = .ok u w) : (do loadVar t (← asAddr c) : Sem Value).run P w = .ok u w := by
  unfold Instr.loadAt at h
  cases c with
  | pointer p =>
    cases p with
    | none => simp [Instr.sureAddr] at h
    | some a => simpa [Instr.sureAddr, asAddr] using h
  | _ => simp [Instr.sureAddr] at h
def resOne (tmps : Array Value) : ResultVar → Sem Value
  | .tmp t => pure (tmps.getD t undef)
  | .cell a t => do loadVar t (← asAddr (tmps.getD a undef))
theorem rdRes_ok {n : Nat} {ac : Ac} {a : Act} (hr : Rel g ac a w) : ∀ (rs : List ResultVar) (xs : List RX) (vs : List PV), cRes P n rs = some xs → rdRes ac xs = some vs →
    ∃ us : List Value, (rs.mapM (resOne a.tmps)).run P w = .ok us w ∧ vs.length = us.length ∧ ∀ (i : Nat) (v : PV), vs[i]? = some v → ∃ u : Value, us[i]? = some u ∧ VR g v u
  | [], xs, vs, hc, hv => by
    simp only [cRes, Option.some.injEq] at hc
    subst hc
    simp only [rdRes, Option.some.injEq] at hv
    subst hv
    exact ⟨[], rfl, rfl, fun i v h => by simp at h⟩
  | .tmp t :: rs, xs, vs, hc, hv => by
    simp only [cRes] at hc
    split at hc
    · rw [Option.map_eq_some_iff] at hc
      obtain ⟨xs', hx, rfl⟩ := hc
      simp only [rdRes, Option.map_eq_some_iff] at hv
      obtain ⟨vs', hv', rfl⟩ := hv
      obtain ⟨us, h1, h2, h3⟩ := rdRes_ok hr rs xs' vs' hx hv'
      refine ⟨a.tmps.getD t undef :: us, by simp [List.mapM_cons, resOne, h1], by simp [h2], fun i v hi => ?_⟩
      cases i with
      | zero => simp at hi; subst hi; exact ⟨_, rfl, hr.env t⟩
      | succ i => simpa using h3 i v (by simpa using hi)
    · cases hc
  | .cell t ty :: rs, xs, vs, hc, hv => by
    simp only [cRes] at hc
    split at hc
    · rename_i k xs' hk hx
      split at hc
      · cases hc
        simp only [rdRes] at hv
        split at hv
        · rename_i v vs' hld hv'
          obtain rfl := Option.some.inj hv
          obtain ⟨us, h1, h2, h3⟩ := rdRes_ok hr rs xs' vs' hx hv'
          obtain ⟨u, hu, hvr⟩ := ld_ok hr.wr (hr.env t) hld hk
          have hu' := loadVar_of hu
          refine ⟨u :: us, ?_, by simp [h2], fun i v' hi => ?_⟩
          · have : (resOne a.tmps (.cell t ty)).run P w = .ok u w := hu'
            simp [List.mapM_cons, this, h1]
          · cases i with
            | zero => simp at hi; subst hi; exact ⟨u, rfl, hvr⟩
            | succ i => simpa using h3 i v' (by simpa using hi)
        · cases hv
      · cases hc
    · cases hc
def oneOr : List Value → Value
  | [v] => v
  | us => .tuple us.toArray
theorem results_eq (fn : Func) (tmps : Array Value) : results fn tmps = (do let vs ← fn.results.mapM (resOne tmps); pure (if h : vs.size = 1 then vs[0] else .tuple vs)) := by
  unfold results
  congr 1
theorem results_run {fn : Func} {tmps : Array Value} {us : List Value} (h : (fn.results.toList.mapM (resOne tmps)).run P w = .ok us w) : (results fn tmps).run P w = .ok (oneOr us) w := by
  rw [results_eq, Array.mapM_eq_mapM_toList]
  simp only [Sem.run_bind, Sem.run_map, h, Result.andThen_ok, Sem.run_pure]
  congr 1
  match us with
  | [] => rfl
  | [v] => rfl
  | u :: v :: us => simp [oneOr]
/-- What a function's end says of the call. -/
theorem post_of {gi g2 : Gh} {S2 : Sto} {r : Ret} {c : Value} (hw : WR g2 S2 w') (ht : Tr g.push w g2 w') (hl : S2.length = S.length + 1) (hr : RetOk g2.pop w' w.heap.size r c) : CallPost g S w (.ok r S2.tail) (.returned c) w' :=
  ⟨g2.pop, pop_wr hw, ht.out, pop_tr ht, hr, by rw [List.length_tail, hl]; rfl⟩
theorem retV_ok {gi : Gh} {Si : Sto} {v : PV} {c : Value} (hw : WR gi Si w') (ht : Tr g.push w gi w') (hl : Si.length = S.length + 1) (hv : VR gi v c) (hb : retV v Si ≠ .bad) : CallPost g S w (retV v Si) (.returned c) w' := by
  unfold retV at hb ⊢
  split
  · rename_i v' S2 hh
    obtain ⟨g2, w2, x2, t2, r2⟩ := hand_ok hw hv hh
    split
    · rename_i u hu
      exact post_of (gi := gi) w2 (ht.trans t2) ((hand_length hh).trans hl) (r2.dn u hu)
    · rename_i hu
      rw [hh] at hb
      simp only [hu] at hb
      exact absurd rfl hb
  · rename_i hh
    rw [hh] at hb
    exact absurd rfl hb
theorem ret1_ok {gi : Gh} {Si : Sto} {v : PV} {c : Value} (hw : WR gi Si w') (ht : Tr g.push w gi w') (hl : Si.length = S.length + 1) (hv : VR gi v c) (hb : ret1 v Si ≠ .bad) : CallPost g S w (ret1 v Si) (.returned c) w' := by
  cases v with
  | nils z =>
    cases hv with | data _ _ h => cases h with | nils _ A =>
    refine post_of (gi := gi) hw ht hl ⟨⟨A, 0, z, 0, 0, none⟩, ⟨rfl, rfl, rfl, (fun r hr => by cases hr), Nat.le_refl _, fun h => absurd rfl h, ⟨fun _ _ => undef, (fun i j row v hi => by simp at hi), (fun ad i j row v _ hi => by simp at hi)⟩, (fun b hb => by cases hb), fun _ => ⟨rfl, .inr rfl⟩⟩, rfl, (fun b hb => by cases hb)⟩
  | sl n a off len ver gen full =>
    cases n with
    | succ n => exact retV_ok hw ht hl hv hb
    | zero =>
      unfold ret1 at hb ⊢
      dsimp only at hb ⊢
      cases hA : getArr Si 0 a with
      | none => rw [hA] at hb; exact absurd rfl hb
      | some A =>
        rw [hA] at hb
        dsimp only at hb ⊢
        by_cases hc : A.gen = gen ∧ A.rows.length = ver ∧ off = 0 ∧ len = ver ∧ full = false
        · rw [if_pos hc]
          obtain ⟨hg, hv', rfl, rfl, rfl⟩ := hc
          cases hv with
          | data _ _ h => cases h
          | sl _ _ _ _ _ _ _ ai _ hai hle h1 hs =>
            obtain ⟨A', hA', hr⟩ := hw.arr 0 a ai hai
            obtain rfl : A = A' := Option.some.inj (hA.symm.trans hA')
            obtain ⟨A0, cap, rfl, sa⟩ := hs (hr.gen.trans hg) (hr.len.trans hv')
            have e1 := sa.zero rfl
            have e2 := sa.open_ rfl (by rw [hr.len]; exact hv'.symm) rfl
            subst e1 e2
            refine post_of (gi := gi) hw ht hl ⟨{ ai with gen := 0 }, ⟨hr.sz, hr.len, rfl, hr.each, hr.cap, hr.addr, hr.cells, hr.own, hr.free⟩, by rw [hr.len, hv'], fun b hbk => ?_⟩
            have hown : gi.own (.arr 0 a) = some b := by
              simp only [Gh.own, hai, Option.bind_some]
              exact hbk
            refine ⟨?_, fun x hx => ?_⟩
            · rcases ht.new _ b hown with h | h
              · simp [Gh.own, Gh.push] at h
              · exact h
            · rw [pop_own] at hx
              have := hw.inj _ _ b hx hown
              cases x <;> simp [Ow.up] at this
        · rw [if_neg hc] at hb ⊢
          exact retV_ok hw ht hl hv hb
  | _ => exact retV_ok hw ht hl hv hb
theorem retL_ok {gi : Gh} {Si : Sto} {vs : List PV} {us : List Value} (hw : WR gi Si w') (ht : Tr g.push w gi w') (hl : Si.length = S.length + 1) (hlen : vs.length = us.length) (hv : ∀ (i : Nat) (v : PV), vs[i]? = some v → ∃ u : Value, us[i]? = some u ∧ VR gi v u) (hb : retL vs Si ≠ .bad) : CallPost g S w (retL vs Si) (.returned (oneOr us)) w' := by
  have many : (∀ v, vs ≠ [v]) → CallPost g S w (retL vs Si) (.returned (oneOr us)) w' := by
    intro hne
    have e : retL vs Si = match handA Si vs with | some (vs, S) => (match PV.dnL vs with | some vs => .ok (.v (.tup vs)) S.tail | none => .bad) | none => .bad := by
      match vs, hne with
      | [], _ => rfl
      | [v], h => exact absurd rfl (h v)
      | u :: v :: vs, _ => rfl
    have e2 : oneOr us = .tuple us.toArray := by
      match us, vs, hlen, hne with
      | [], _, _, _ => rfl
      | [u], [v], _, h => exact absurd rfl (h v)
      | u :: v :: us, _, _, _ => rfl
    rw [e] at hb ⊢
    rw [e2]
    cases hh : handA Si vs with
    | none => rw [hh] at hb; exact absurd rfl hb
    | some p =>
      obtain ⟨vs', S2⟩ := p
      rw [hh] at hb
      dsimp only at hb ⊢
      obtain ⟨g2, w2, x2, t2, l2, r2⟩ := handA_ok vs vs' Si S2 gi (fun i => us.toArray.getD i undef) hw (fun i v hi => by
        obtain ⟨u, hu, hvr⟩ := hv i v hi
        have : us.toArray.getD i undef = u := by
          rw [Array.getD_eq_getD_getElem?]
          simp [hu]
        rw [this]
        exact hvr) hh
      cases hd : PV.dnL vs' with
      | none => rw [hd] at hb; exact absurd rfl hb
      | some ws =>
        dsimp only
        refine post_of (gi := gi) w2 (ht.trans t2) ((handA_length _ _ _ _ hh).trans hl) ?_
        obtain ⟨d1, d2⟩ := dnL_get vs' ws hd
        refine .tup ws us.toArray (by simp; omega) fun i v hi => ?_
        obtain ⟨v0, q1, q2⟩ := d2 i v hi
        exact (r2 i v0 q1).dn v q2
  match vs, us, hlen with
  | [v], [u], _ =>
    obtain ⟨u', h1, h2⟩ := hv 0 v rfl
    simp at h1
    subst h1
    exact ret1_ok hw ht hl h2 hb
  | [], us, _ => exact many (fun v h => by cases h)
  | a :: b :: vs, us, _ => exact many (fun v h => by cases h)
theorem retOf_ok {n : Nat} {fn : Func} {res : List RX} (hc : cRes P n fn.results.toList = some res) {gi : Gh} {ac : Ac} {a : Act} (hr : RelA n gi ac a w') (ht : Tr g.push w gi w') (hl : ac.S.length = S.length + 1) (hb : retOf res ac ≠ .bad) :
    ∃ v, (results fn a.tmps).run P w' = .ok v w' ∧ CallPost g S w (retOf res ac) (.returned v) w' := by
  unfold retOf at hb ⊢
  cases hrd : rdRes ac res with
  | none => rw [hrd] at hb; exact absurd rfl hb
  | some vs =>
    rw [hrd] at hb
    obtain ⟨us, h1, h2, h3⟩ := rdRes_ok hr.rel _ _ vs hc hrd
    exact ⟨_, results_run h1, retL_ok hr.rel.wr ht hl h2 h3 hb⟩
theorem retOf_pan {res : List RX} {ac : Ac} : ∀ v S, retOf res ac ≠ .pan v S := by
  intro v S
  unfold retOf retL ret1 retV
  repeat' split
  all_goals (intro h; cases h)
/-- A function's body. -/
theorem body_ok {cl : Oracle} (hcl : OracleOk P cl) (hm : P.follows .mixedOrders = true) {f : Nat} {fn : Func} {sf : SFunc} (hf : P.funcs[f]? = some fn) (hc : comp P fn = some sf) (N : Nat) {args : List PV} {cs : Array Value} (hla : args.length = sf.nargs)
    (hb : fin sf.res (evC cl N sf.code (ac0 args S)) ≠ .bad) (hw : WR g S w) (ha : ArgsR g args cs) : Answers P f cs w (CallPost g S w (fin sf.res (evC cl N sf.code (ac0 args S)))) := by
  unfold comp at hc
  split at hc
  · rename_i c hbody
    split at hc
    · rename_i c' r' hcc hrr
      split at hc
      · rename_i hcnd
        cases hc
        simp only at hla hb ⊢
        have hsz : cs.size ≤ fn.ntmps := by rw [← ha.1, hla]; exact hcnd.1
        left
        constructor
        · unfold callFunc
          simp [hf, hcnd.2, hbody]
        · refine calls_of_wp hf hbody ?_
          have hr : RelA fn.ntmps g.push (ac0 args S) { tmps := cs ++ Array.replicate (fn.ntmps - cs.size) undef, defers := [] } w := by
            refine ⟨⟨push_wr hw, fun t => ?_⟩, by simp; omega, rfl, Nat.succ_pos _⟩
            show VR g.push (argE (args.map PV.up) t) ((cs ++ Array.replicate (fn.ntmps - cs.size) undef).getD t undef)
            unfold argE
            rw [List.getElem?_map, Array.getD_eq_getD_getElem?]
            cases hat : args[t]? with
            | some v =>
              have hlt := (List.getElem?_eq_some_iff.1 hat).1
              rw [Array.getElem?_append_left (by rw [← ha.1]; exact hlt)]
              simp only [Option.map_some, Option.getD_some]
              rw [← Array.getD_eq_getD_getElem?]
              exact (ha.2 t v hat).up (Gh.pop_push g)
            | none =>
              have hge := List.getElem?_eq_none_iff.1 hat
              rw [Array.getElem?_append_right (by rw [← ha.1]; exact hge)]
              simp only [Option.map_none, Option.getD_none]
              rw [Array.getElem?_replicate]
              split <;> exact .undef
          refine evC_ok hcl hm c c' hcc N hr ?_
          cases he : evC cl N c' (ac0 args S) with
          | nor ac =>
            rw [he] at hb
            intro a' w' g' h1 h2 h3
            obtain ⟨v, q1, q2⟩ := retOf_ok hrr h1 h2 h3 hb
            exact ⟨h1.defers, v, q1, q2⟩
          | ret ac =>
            rw [he] at hb
            intro a' w' g' h1 h2 h3
            obtain ⟨v, q1, q2⟩ := retOf_ok hrr h1 h2 h3 hb
            exact ⟨h1.defers, v, q1, q2⟩
          | ext i ac => rw [he] at hb; exact absurd rfl hb
          | bad => rw [he] at hb; exact absurd rfl hb
          | pan v Sp =>
            rw [he] at hb
            simp only [fin] at hb ⊢
            intro a' w' g' c2 h1 h2 h3 h4 h5
            cases hd : v.dn with
            | none => rw [hd] at hb; exact absurd rfl hb
            | some u =>
              refine ⟨h5, g'.pop, c2, rfl, pop_wr h1, h2.dn u hd, h3.out, pop_tr h3, ?_⟩
              rw [List.length_tail, h4]
              rfl
      · cases hc
    · cases hc
  · cases hc
/-- What is said of a function of Go's library holds. -/
def ExtOk (P : Program) (f : Nat) (x : List PV → Option PV) : Prop := ∀ args v, x args = some v → ∀ g S w cs, WR g S w → ArgsR g args cs → Answers P f cs w (CallPost g S w (.ok (.v v) S))
theorem run_ok (hm : P.follows .mixedOrders = true) {x : Nat → Option (List PV → Option PV)} (hx : ∀ f y, x f = some y → ExtOk P f y) : ∀ k, OracleOk P (run (SPof P x) k)
  | 0 => fun f args S h => absurd rfl h
  | k + 1 => by
    intro f args S hb g w cs hw ha
    simp only [run] at hb ⊢
    cases hsp : SPof P x f with
    | none => rw [hsp] at hb; exact absurd rfl hb
    | some sf =>
      rw [hsp] at hb
      dsimp only at hb ⊢
      unfold SPof at hsp
      cases hxf : x f with
      | some y =>
        rw [hxf] at hsp
        obtain rfl := Option.some.inj hsp
        simp only [body] at hb ⊢
        cases hy : y args with
        | none => rw [hy] at hb; exact absurd rfl hb
        | some v => exact hx f y hxf args v hy g S w cs hw ha
      | none =>
        rw [hxf] at hsp
        simp only [Option.map_eq_some_iff, Option.bind_eq_some_iff] at hsp
        obtain ⟨cf, ⟨fn, hf, hc⟩, rfl⟩ := hsp
        simp only [body] at hb ⊢
        by_cases hl : args.length = cf.nargs
        · rw [if_pos hl] at hb ⊢
          exact body_ok (run_ok hm hx k) hm hf hc k hl hb hw ha
        · rw [if_neg hl] at hb
          exact absurd rfl hb
/-- THE LAW: what is reckoned is what a call does. -/
theorem call_sound (hm : P.follows .mixedOrders = true) {x : Nat → Option (List PV → Option PV)} (hx : ∀ f y, x f = some y → ExtOk P f y) : OracleOk P (call (SPof P x)) := by
  intro f args S hb g w cs hw ha
  obtain ⟨k, hk⟩ := call_run (SPof P x) f args S
  rw [← hk] at hb ⊢
  exact run_ok hm hx k f args S hb g w cs hw ha
end
end Go.Proofs.Ytebflncfgjnkkaa.M

/- THE ABSTRACT MACHINE, thirty-first part: what comes into a call, read as plain data: the bridge from a claim's own reading. -/
namespace Go.Proofs.Ytebflncfgjnkkaa.M
set_option linter.unusedSimpArgs false
set_option linter.unusedVariables false
open Go Go.RowKit Go.WideShapes Go.ChangeShapes Classical
section
variable {P : Program} {W : World}
def HasFs (H : TypeId → List PV → Prop) : List Field → List PV → Prop
  | [], vs => vs = []
  | f :: fs, vs => ∃ a b, vs = a ++ b ∧ H f.type a ∧ HasFs H fs b
/-- Cells' values of type t. -/
def Has (P : Program) : Nat → TypeId → List PV → Prop
  | 0, _, _ => False
  | n + 1, t, vs =>
    match P.underlying t with
    | some .bool => ∃ b, vs = [.bool b]
    | some (.int k) => ∃ x, vs = [.int k x] ∧ (Lit.int k x).wf = true
    | some .string => ∃ s, vs = [.str s] ∧ s.length ≤ maxLen
    | some (.slice e) => ∃ rows, vs = [.list (P.cellsOf e) rows false] ∧ rows.length ≤ maxLen ∧ ∀ r ∈ rows, Has P n e r
    | some (.struct fs) => HasFs (Has P n) fs.toList vs
    | _ => False
def contig (P : Program) (ts : List TypeId) : List Field → Nat → Nat → Bool
  | [], o, n => o == n
  | f :: fs, o, n => f.offset == o && (ts.contains f.type && contig P ts fs (o + P.cellsOf f.type) n)
def closedTy (P : Program) (ts : List TypeId) (t : TypeId) : Bool :=
  match P.underlying t with
  | some .bool | some (.int _) | some .string => true
  | some (.slice e) => ts.contains e
  | some (.struct fs) => contig P ts fs.toList 0 (P.cellsOf t)
  | _ => false
theorem contig_le {ts : List TypeId} : ∀ {fs : List Field} {o n : Nat}, contig P ts fs o n = true → o ≤ n
  | [], o, n, h => by simp [contig] at h; omega
  | f :: fs, o, n, h => by
    simp only [contig, Bool.and_eq_true] at h
    have := contig_le h.2.2
    omega
def fzOf (W : World) : Fz := fun b o => W.cell? ⟨b, o, none⟩
theorem list_choose {α : Type} {p : Nat → α → Prop} : ∀ n, (∀ i, i < n → ∃ a, p i a) → ∃ l : List α, l.length = n ∧ ∀ (i : Nat) (a : α), l[i]? = some a → p i a
  | 0, _ => ⟨[], rfl, fun i a h => by simp at h⟩
  | n + 1, h => by
    obtain ⟨l, h1, h2⟩ := list_choose n fun i hi => h i (by omega)
    obtain ⟨a, ha⟩ := h n (Nat.lt_succ_self n)
    refine ⟨l ++ [a], by simp [h1], fun i b hb => ?_⟩
    rcases Nat.lt_or_ge i n with hlt | hge
    · rw [List.getElem?_append_left (by omega)] at hb
      exact h2 i b hb
    · rw [List.getElem?_append_right (by omega)] at hb
      have : i = n := by
        have := (List.getElem?_eq_some_iff.1 hb).1
        simp at this
        omega
      subst this
      simp [h1] at hb
      subst hb
      exact ha
theorem add_add_ (a : Addr) (i j : Nat) : (a.add i).add j = a.add (i + j) := by
  unfold Addr.add
  by_cases hi : i = 0
  · subst hi; simp
  · by_cases hj : j = 0
    · subst hj; simp [hi]
    · simp [hi, hj, Nat.add_assoc]
theorem Addr.ext_of {x y : Addr} (h1 : x.block = y.block) (h2 : x.off = y.off) (h3 : x.spot = y.spot) : x = y := by
  cases x
  cases y
  simp only at h1 h2 h3
  rw [h1, h2, h3]
theorem cell_spot {a : Addr} {v : Value} (h : W.cell? a = some v) : a.spot = none := by
  unfold World.cell? at h
  split at h
  · split at h
    · cases h
    · rename_i hs
      simpa using hs
  · cases h
theorem opn {H : Type} {enc : TypeId × Value → H} {base : Nat} {sp : Nat → Bool} {held : Bool} {ts : List TypeId} (hts : ∀ t ∈ ts, closedTy P ts t = true) (hnz : ∀ t ∈ ts, P.cellsOf t ≠ 0) : ∀ (fuel : Nat) (t : TypeId) (cs : List Value) (x : DataW H × List MemPlace), t ∈ ts → DataW.trod enc P W base sp held fuel t cs = some x →
    ∃ vs, Has P fuel t vs ∧ vs.length = cs.length ∧ ∀ (j : Nat) (v : PV), vs[j]? = some v → ∃ c : Value, cs[j]? = some c ∧ FR (fzOf W) v c := by
  intro fuel
  induction fuel with
  | zero => intro t cs x _ h; simp [DataW.trod] at h
  | succ fuel ih =>
    intro t cs x ht h
    have hcl := hts t ht
    unfold closedTy at hcl
    have one : ∀ (v : PV) (c : Value), Has P (fuel + 1) t [v] → cs = [c] → FR (fzOf W) v c → ∃ vs, Has P (fuel + 1) t vs ∧ vs.length = cs.length ∧ ∀ (j : Nat) (v : PV), vs[j]? = some v → ∃ c : Value, cs[j]? = some c ∧ FR (fzOf W) v c := by
      intro v c h1 h2 h3
      subst h2
      refine ⟨[v], h1, rfl, fun j u hu => ?_⟩
      cases j with
      | zero => simp at hu; subst hu; exact ⟨c, rfl, h3⟩
      | succ j => simp at hu
    split at hcl
    · rename_i hu
      obtain ⟨b, rfl, _⟩ := DataW.trod_bool hu h
      exact one _ _ (by simp only [Has, hu]; exact ⟨b, rfl⟩) rfl (.bool b)
    · rename_i k hu
      obtain ⟨n, rfl, _, hw⟩ := DataW.trod_int hu h
      exact one _ _ (by simp only [Has, hu]; exact ⟨n, rfl, hw⟩) rfl (.int k n)
    · rename_i hu
      obtain ⟨s, rfl, _, hs⟩ := DataW.trod_string hu h
      have e : s = ⟨s.data.toList.toArray⟩ := by simp
      refine one (.str s.data.toList) _ (by simp only [Has, hu]; exact ⟨_, rfl, by rw [Array.length_toList]; exact hs⟩) rfl ?_
      have := FR.str (fz := fzOf W) s.data.toList
      rwa [str_of] at this
    · rename_i e hu
      have he : e ∈ ts := by simpa using hcl
      rcases DataW.trod_slice hu h with ⟨rfl, _⟩ | ⟨a, len, cap, elems, rest, n, hn, rfl, rfl, hb, hl, hm, hlen, hel, _, _⟩
      · refine one (.list (P.cellsOf e) [] false) _ (by simp only [Has, hu]; exact ⟨[], rfl, Nat.zero_le _, fun r hr => by cases hr⟩) rfl ?_
        exact .list (P.cellsOf e) [] false none 0 (fun _ _ => undef) (Nat.le_refl _) (fun h => by cases h) (fun r hr => by cases hr) (fun h => absurd rfl h) (fun ad i j row v h => by cases h) (fun i j row v hi => by simp at hi)
      · obtain rfl : fuel = n := by omega
        have each : ∀ i, i < len → ∃ r : List PV, Has P fuel e r ∧ r.length = P.cellsOf e ∧ ∀ (j : Nat) (v : PV), r[j]? = some v → ∃ c : Value, W.cell? (a.add (i * P.cellsOf e + j)) = some c ∧ FR (fzOf W) v c := by
          intro i hi
          have h1 := hel i hi
          rw [List.getElem?_eq_getElem (by omega), Option.bind_eq_some_iff] at h1
          obtain ⟨c, hc, hy⟩ := h1
          obtain ⟨r, q1, q2, q3⟩ := ih e c _ he hy
          have hcs := World.cells?_some hc
          refine ⟨r, q1, by rw [q2]; exact hcs.2.1, fun j v hj => ?_⟩
          obtain ⟨u, hu', hf⟩ := q3 j v hj
          have h2 := hcs.2.2 j (by
            have := (List.getElem?_eq_some_iff.1 hu').1
            rw [hcs.2.1] at this
            exact this)
          rw [add_add_] at h2
          exact ⟨u, h2.trans hu', hf⟩
        obtain ⟨rows, r1, r2⟩ := list_choose len each
        refine one (.list (P.cellsOf e) rows false) _ (by
          simp only [Has, hu]
          refine ⟨rows, rfl, by rw [r1]; exact Nat.le_trans hl hm, fun r hr => ?_⟩
          obtain ⟨i, hi⟩ := List.getElem?_of_mem hr
          exact (r2 i r hi).1) rfl ?_
        have hspot : rows ≠ [] → P.cellsOf e ≠ 0 → a.spot = none := by
          intro hne hz
          cases hr : rows with
          | nil => exact absurd hr hne
          | cons r rs =>
            have h0 := r2 0 r (by rw [hr]; rfl)
            cases hrr : r with
            | nil => rw [hrr] at h0; exact absurd h0.2.1.symm hz
            | cons v vs =>
              obtain ⟨c, hc, _⟩ := h0.2.2 0 v (by rw [hrr]; rfl)
              have := cell_spot hc
              simpa [Addr.add] using this
        have hcells : ∀ (i j : Nat) (row : List PV) (v : PV), rows[i]? = some row → row[j]? = some v → W.cell? ⟨a.block, a.off + (i * P.cellsOf e + j), none⟩ = some ((W.cell? ⟨a.block, a.off + (i * P.cellsOf e + j), none⟩).getD undef) ∧ FR (fzOf W) v ((W.cell? ⟨a.block, a.off + (i * P.cellsOf e + j), none⟩).getD undef) := by
          intro i j row v hi hj
          obtain ⟨_, q2, q3⟩ := r2 i row hi
          obtain ⟨c, hc, hf⟩ := q3 j v hj
          have hs := cell_spot hc
          have ha : a.add (i * P.cellsOf e + j) = ⟨a.block, a.off + (i * P.cellsOf e + j), none⟩ := by
            unfold Addr.add at hc hs ⊢
            split
            · rename_i h0
              rw [if_pos h0] at hs
              cases a
              simp only at hs
              subst hs
              simp [h0]
            · rename_i h0
              rfl
          rw [ha] at hc
          rw [hc]
          exact ⟨rfl, hf⟩
        subst r1
        by_cases hsp : a.spot = none
        · exact .list (P.cellsOf e) rows false (some a) cap (fun i j => (W.cell? ⟨a.block, a.off + (i * P.cellsOf e + j), none⟩).getD undef) hl (fun h => by cases h) (fun r hr => by
            obtain ⟨i, hi⟩ := List.getElem?_of_mem hr
            exact (r2 i r hi).2.1) (fun _ => ⟨a, rfl, hsp⟩) (fun ad i j row v had hi hj => by
              obtain rfl := Option.some.inj had
              exact (hcells i j row v hi hj).1) (fun i j row v hi hj => (hcells i j row v hi hj).2)
        · by_cases hrow : rows = []
          · subst hrow
            exact .list (P.cellsOf e) [] false (some a) cap (fun _ _ => undef) hl (fun h => by cases h) (fun r hr => by cases hr) (fun h => absurd rfl h) (fun ad i j row v _ hi => by simp at hi) (fun i j row v hi => by simp at hi)
          · exact absurd (hspot hrow (fun hz => hnz e he hz)) hsp
    · rename_i fs hu
      obtain ⟨xs, n, hn, _, hl, hx, hy⟩ := DataW.trod_struct hu h
      obtain rfl : fuel = n := by omega
      have key : ∀ (l : List Field) (o : Nat) (ys : List (DataW H × List MemPlace)), contig P ts l o (P.cellsOf t) = true → ys.length = l.length → (∀ (i : Nat) (f : Field), l[i]? = some f → DataW.trod enc P W base sp held fuel f.type ((cs.drop f.offset).take (P.cellsOf f.type)) = ys[i]?) →
          ∃ vs, HasFs (Has P fuel) l vs ∧ vs.length = (cs.drop o).length ∧ ∀ (j : Nat) (v : PV), vs[j]? = some v → ∃ c : Value, (cs.drop o)[j]? = some c ∧ FR (fzOf W) v c := by
        intro l
        induction l with
        | nil =>
          intro o ys hc _ _
          simp only [contig, beq_iff_eq] at hc
          exact ⟨[], rfl, by simp; omega, fun j v h => by simp at h⟩
        | cons f l ihl =>
          intro o ys hc hyl hall
          simp only [contig, Bool.and_eq_true, beq_iff_eq] at hc
          obtain ⟨ho, hft, hc'⟩ := hc
          have hle := contig_le hc'
          cases ys with
          | nil => simp at hyl
          | cons y ys =>
            have h0 := hall 0 f rfl
            simp only [List.getElem?_cons_zero] at h0
            rw [ho] at h0
            obtain ⟨va, a1, a2, a3⟩ := ih f.type _ y (by simpa using hft) h0
            obtain ⟨vb, b1, b2, b3⟩ := ihl (o + P.cellsOf f.type) ys hc' (by simpa using hyl) (fun i f' hi => by simpa using hall (i + 1) f' (by simpa using hi))
            have hal : va.length = P.cellsOf f.type := by
              rw [a2, List.length_take, List.length_drop]
              omega
            refine ⟨va ++ vb, ⟨va, vb, rfl, a1, b1⟩, by simp only [List.length_append, List.length_drop, hal, b2]; omega, fun j v hj => ?_⟩
            rcases Nat.lt_or_ge j va.length with hlt | hge
            · rw [List.getElem?_append_left hlt] at hj
              obtain ⟨c, hc1, hc2⟩ := a3 j v hj
              rw [List.getElem?_take] at hc1
              split at hc1
              · exact ⟨c, hc1, hc2⟩
              · cases hc1
            · rw [List.getElem?_append_right hge] at hj
              obtain ⟨c, hc1, hc2⟩ := b3 _ v hj
              refine ⟨c, ?_, hc2⟩
              rw [List.getElem?_drop] at hc1 ⊢
              rw [← hc1, hal]
              congr 1
              rw [hal] at hge
              omega
      obtain ⟨vs, v1, v2, v3⟩ := key fs.toList 0 xs hcl (by simpa using hx) (fun i f hi => hy i f (by simpa using hi))
      rw [List.drop_zero] at v2 v3
      exact ⟨vs, by simp only [Has, hu]; exact v1, v2, v3⟩
    · cases hcl
end
end Go.Proofs.Ytebflncfgjnkkaa.M

/- THE ABSTRACT MACHINE, thirty-second part: a law that is reckoned to yield true returns true, and leaves what was there. -/
namespace Go.Proofs.Ytebflncfgjnkkaa.M
set_option linter.unusedSimpArgs false
set_option linter.unusedVariables false
open Go Go.RowKit Go.WideShapes Go.ChangeShapes Go.ChangeMaps Classical
section
variable {P : Program} {W : World}
/-- A value of type t. -/
def HasV (P : Program) (t : TypeId) (v : PV) : Prop :=
  match P.underlying t with
  | some (.struct _) => ∃ vs n, v = .agg vs ∧ Has P n t vs
  | _ => ∃ n, Has P n t [v]
def HasAll (P : Program) : List TypeId → List PV → Prop
  | [], [] => True
  | t :: ts, v :: vs => HasV P t v ∧ HasAll P ts vs
  | _, _ => False
/-- Before anything has run. -/
def gh0 (W : World) : Gh := ⟨fun _ _ => none, fun _ _ => none, fzOf W⟩
theorem wr0 (W : World) : WR (gh0 W) [] W := ⟨fun b o v h => h, (fun n t b h => by cases h), (fun n k ai h => by cases h), fun x y b h => by cases x <;> simp [Gh.own, gh0] at h⟩
theorem in_one {H : Type} {enc : TypeId × Value → H} {base : Nat} {sp : Nat → Bool} {held : Bool} {ts : List TypeId} (hts : ∀ t ∈ ts, closedTy P ts t = true) (hnz : ∀ t ∈ ts, P.cellsOf t ≠ 0) {t : TypeId} (ht : t ∈ ts) {v : Value} {d : DataW H} {ps : List MemPlace} {r : Reach} {b0 : Nat}
    (hval : Value.okWide P W r b0 t v) (hd : DataW.Trod enc P W base sp held t v d ps) : ∃ pv, HasV P t pv ∧ VR (gh0 W) pv v := by
  obtain ⟨fuel, hd⟩ := hd
  obtain ⟨vs, h1, h2, h3⟩ := opn hts hnz fuel t _ _ ht hd
  have hcl := hts t ht
  unfold closedTy at hcl
  have one : v.cells = #[v] → (∀ fs, P.underlying t ≠ some (.struct fs)) → ∃ pv, HasV P t pv ∧ VR (gh0 W) pv v := by
    intro hv hns
    rw [hv] at h2 h3
    match vs, h2 with
    | [pv], _ =>
      refine ⟨pv, ?_, ?_⟩
      · unfold HasV
        split
        · rename_i fs hu
          exact absurd hu (hns fs)
        · exact ⟨fuel, h1⟩
      · obtain ⟨c, hc, hf⟩ := h3 0 pv rfl
        simp at hc
        subst hc
        exact .data _ _ hf
  split at hcl
  · rename_i hu
    obtain ⟨b, rfl⟩ := okWide_bool hu hval
    exact one rfl (fun fs h => by rw [hu] at h; cases h)
  · rename_i k hu
    obtain ⟨b, rfl⟩ := okWide_int hu hval
    exact one rfl (fun fs h => by rw [hu] at h; cases h)
  · rename_i hu
    obtain ⟨b, rfl⟩ := okWide_string hu hval
    exact one rfl (fun fs h => by rw [hu] at h; cases h)
  · rename_i e hu
    obtain ⟨A, n, c, rfl⟩ := okWide_slice hu hval
    exact one rfl (fun fs h => by rw [hu] at h; cases h)
  · rename_i fs hu
    obtain ⟨cs, rfl, _⟩ := okWide_struct hu hval
    refine ⟨.agg vs, ?_, ?_⟩
    · unfold HasV
      rw [hu]
      exact ⟨vs, fuel, rfl, h1⟩
    · have e : (Value.agg cs).cells = cs := by simp [Value.cells]
      rw [e] at h2 h3
      refine .agg vs _ (by simpa using h2) fun i u hi => ?_
      obtain ⟨c, hc, hf⟩ := h3 i u hi
      have : cs.getD i undef = c := by
        rw [Array.getD_eq_getD_getElem?]
        have : cs[i]? = some c := by simpa using hc
        simp [this]
      rw [this]
      exact .data _ _ hf
  · cases hcl
theorem in_all {H : Type} {enc : TypeId × Value → H} {base : Nat} {sp : Nat → Bool} {held : Bool} {ts : List TypeId} (hts : ∀ t ∈ ts, closedTy P ts t = true) (hnz : ∀ t ∈ ts, P.cellsOf t ≠ 0) {r : Reach} {b0 : Nat} : ∀ (tys : List TypeId) (args : List Value) (ds : List (DataW H)) (ps : List MemPlace),
    (∀ t ∈ tys, t ∈ ts) → (∀ (j : Nat) (t : TypeId) (v : Value), tys[j]? = some t → args[j]? = some v → Value.okWide P W r b0 t v) → DataW.TrodAll enc P W base sp held tys args ds ps →
    ∃ pvs, HasAll P tys pvs ∧ pvs.length = args.length ∧ ∀ (i : Nat) (v : PV), pvs[i]? = some v → ∃ c, args[i]? = some c ∧ VR (gh0 W) v c
  | [], args, ds, ps, _, _, h => by
    obtain ⟨rfl, _, _⟩ := trodAll_nil h
    exact ⟨[], trivial, rfl, fun i v h => by simp at h⟩
  | t :: tys, args, ds, ps, hsub, hval, h => by
    obtain ⟨v, vs', d, ds', p, q, rfl, rfl, rfl, h1, h2⟩ := trodAll_cons h
    obtain ⟨pv, a1, a2⟩ := in_one hts hnz (hsub t (by simp)) (hval 0 t v rfl rfl) h1
    obtain ⟨pvs, b1, b2, b3⟩ := in_all hts hnz tys vs' ds' q (fun t ht => hsub t (by simp [ht])) (fun j t v h3 h4 => hval (j + 1) t v (by simpa using h3) (by simpa using h4)) h2
    refine ⟨pv :: pvs, ⟨a1, b1⟩, by simp [b2], fun i u hi => ?_⟩
    cases i with
    | zero => simp at hi; subst hi; exact ⟨v, rfl, a2⟩
    | succ i => simpa using b3 i u (by simpa using hi)
theorem enter_of {f : Nat} {fn : Func} {sf : SFunc} (hf : P.funcs[f]? = some fn) (hc : comp P fn = some sf) (cs : Array Value) (w : World) : (callFunc f cs).run P w = .ok (.enter f cs) w := by
  unfold comp at hc
  split at hc
  · rename_i c hbody
    split at hc
    · split at hc
      · rename_i hcnd
        unfold callFunc
        simp [hf, hcnd.2, hbody]
      · cases hc
    · cases hc
  · cases hc
theorem closed_all {ts : List TypeId} (h : ts.all (fun t => closedTy P ts t && decide (P.cellsOf t ≠ 0)) = true) : (∀ t ∈ ts, closedTy P ts t = true) ∧ ∀ t ∈ ts, P.cellsOf t ≠ 0 := by
  rw [List.all_eq_true] at h
  refine ⟨fun t ht => ?_, fun t ht => ?_⟩
  · have := h t ht; simp only [Bool.and_eq_true] at this; exact this.1
  · have := h t ht; simp only [Bool.and_eq_true, decide_eq_true_eq] at this; exact this.2
/-- A LAW: if it is reckoned to yield true of all that its parameters' types allow, then each call of it returns true, and what was there stays. -/
theorem law_true (hm : P.follows .mixedOrders = true) {x : Nat → Option (List PV → Option PV)} (hx : ∀ f y, x f = some y → ExtOk P f y) {f : Nat} {fn : Func} {sf : SFunc} (hf : P.funcs[f]? = some fn) (hc : comp P fn = some sf)
    {H : Type} {enc : TypeId × Value → H} {base : Nat} {sp : Nat → Bool} {held : Bool} {ts : List TypeId} (hts : ts.all (fun t => closedTy P ts t && decide (P.cellsOf t ≠ 0)) = true) {r : Reach} {b0 : Nat} {tys : List TypeId} {args : Array Value} {ds : List (DataW H)} {ps : List MemPlace}
    (hsub : tys.all (fun t => ts.contains t) = true) (hval : ∀ (j : Nat) (t : TypeId) (v : Value), tys[j]? = some t → args[j]? = some v → Value.okWide P W r b0 t v) (hA : DataW.TrodAll enc P W base sp held tys args.toList ds ps)
    (spec : ∀ pvs, HasAll P tys pvs → call (SPof P x) f pvs [] = .ok (.v (.bool true)) []) : Calls P f args W fun e W' => e = .returned (.bool true) ∧ Below W.heap.size W W' := by
  obtain ⟨h1, h2⟩ := closed_all hts
  obtain ⟨pvs, a1, a2, a3⟩ := in_all h1 h2 tys args.toList ds ps (fun t ht => by have := List.all_eq_true.1 hsub t ht; simpa using this) (fun j t v h3 h4 => hval j t v h3 (by simpa using h4)) hA
  have hs := spec pvs a1
  have ha := call_sound hm hx f pvs [] (by rw [hs]; exact fun h => by cases h) (gh0 W) W args (wr0 W) ⟨by simpa using a2, fun i v hi => by
    obtain ⟨c, hc1, hc2⟩ := a3 i v hi
    have : args.getD i undef = c := by
      rw [Array.getD_eq_getD_getElem?]
      have : args[i]? = some c := by simpa using hc1
      simp [this]
    rw [this]
    exact hc2⟩
  rw [hs] at ha
  rcases ha with ⟨_, ha⟩ | ⟨c, w', h3, _⟩
  · refine ha.mono fun e W' hR => ?_
    cases e with
    | panicked ch => exact hR.elim
    | outgrown => exact hR.elim
    | returned c =>
      obtain ⟨g', _, _, t, ret, _⟩ := hR
      refine ⟨?_, t.os, t.tape, t.output, t.size, fun k hk => t.keep k hk fun x h => by cases x <;> simp [Gh.own, gh0] at h⟩
      have := VR.bool_inv ret
      rw [this]
  · rw [enter_of hf hc] at h3
    cases h3
end
end Go.Proofs.Ytebflncfgjnkkaa.M

/- THE ABSTRACT MACHINE, thirty-third part: what a parameter's type allows, taken apart. -/
namespace Go.Proofs.Ytebflncfgjnkkaa.M
set_option linter.unusedSimpArgs false
set_option linter.unusedVariables false
open Go
section
variable {P : Program}
theorem HasAll.cons_inv {t : TypeId} {ts : List TypeId} {pvs : List PV} (h : HasAll P (t :: ts) pvs) : ∃ v vs, pvs = v :: vs ∧ HasV P t v ∧ HasAll P ts vs := by
  cases pvs with
  | nil => exact h.elim
  | cons v vs => exact ⟨v, vs, rfl, h⟩
theorem HasAll.nil_inv {pvs : List PV} (h : HasAll P [] pvs) : pvs = [] := by
  cases pvs with
  | nil => rfl
  | cons v vs => exact h.elim
theorem Has.int {n : Nat} {t : TypeId} {k : IntKind} {vs : List PV} (h : Has P n t vs) (ht : P.underlying t = some (.int k)) : ∃ x, vs = [.int k x] ∧ (Lit.int k x).wf = true := by
  cases n with
  | zero => exact h.elim
  | succ n => simp only [Has, ht] at h; exact h
theorem Has.bool {n : Nat} {t : TypeId} {vs : List PV} (h : Has P n t vs) (ht : P.underlying t = some .bool) : ∃ x, vs = [.bool x] := by
  cases n with
  | zero => exact h.elim
  | succ n => simp only [Has, ht] at h; exact h
theorem Has.str {n : Nat} {t : TypeId} {vs : List PV} (h : Has P n t vs) (ht : P.underlying t = some .string) : ∃ x, vs = [.str x] ∧ x.length ≤ maxLen := by
  cases n with
  | zero => exact h.elim
  | succ n => simp only [Has, ht] at h; exact h
theorem Has.slice {n : Nat} {t e : TypeId} {vs : List PV} (h : Has P (n + 1) t vs) (ht : P.underlying t = some (.slice e)) : ∃ rows, vs = [.list (P.cellsOf e) rows false] ∧ rows.length ≤ maxLen ∧ ∀ r ∈ rows, Has P n e r := by
  simp only [Has, ht] at h
  exact h
theorem Has.struct {n : Nat} {t : TypeId} {fs : Array Field} {vs : List PV} (h : Has P (n + 1) t vs) (ht : P.underlying t = some (.struct fs)) : HasFs (Has P n) fs.toList vs := by
  simp only [Has, ht] at h
  exact h
theorem HasV.int {t : TypeId} {k : IntKind} {v : PV} (h : HasV P t v) (ht : P.underlying t = some (.int k)) : ∃ x, v = .int k x ∧ (Lit.int k x).wf = true := by
  unfold HasV at h
  rw [ht] at h
  obtain ⟨n, h⟩ := h
  obtain ⟨x, h1, h2⟩ := h.int ht
  simp at h1
  exact ⟨x, h1, h2⟩
theorem HasV.bool {t : TypeId} {v : PV} (h : HasV P t v) (ht : P.underlying t = some .bool) : ∃ x, v = .bool x := by
  unfold HasV at h
  rw [ht] at h
  obtain ⟨n, h⟩ := h
  obtain ⟨x, h1⟩ := h.bool ht
  simp at h1
  exact ⟨x, h1⟩
theorem HasV.str {t : TypeId} {v : PV} (h : HasV P t v) (ht : P.underlying t = some .string) : ∃ x, v = .str x ∧ x.length ≤ maxLen := by
  unfold HasV at h
  rw [ht] at h
  obtain ⟨n, h⟩ := h
  obtain ⟨x, h1, h2⟩ := h.str ht
  simp at h1
  exact ⟨x, h1, h2⟩
theorem HasV.slice {t e : TypeId} {v : PV} (h : HasV P t v) (ht : P.underlying t = some (.slice e)) : ∃ rows n, v = .list (P.cellsOf e) rows false ∧ rows.length ≤ maxLen ∧ ∀ r ∈ rows, Has P n e r := by
  unfold HasV at h
  rw [ht] at h
  obtain ⟨n, h⟩ := h
  cases n with
  | zero => exact h.elim
  | succ n =>
    obtain ⟨x, h1, h2, h3⟩ := h.slice ht
    simp at h1
    exact ⟨x, n, h1, h2, h3⟩
theorem HasV.struct {t : TypeId} {fs : Array Field} {v : PV} (h : HasV P t v) (ht : P.underlying t = some (.struct fs)) : ∃ vs n, v = .agg vs ∧ Has P (n + 1) t vs := by
  unfold HasV at h
  rw [ht] at h
  obtain ⟨vs, n, h1, h2⟩ := h
  cases n with
  | zero => exact h2.elim
  | succ n => exact ⟨vs, n, h1, h2⟩
/-- Rows of whole numbers. -/
theorem ints_of {n : Nat} {e : TypeId} {k : IntKind} (he : P.underlying e = some (.int k)) : ∀ (rows : List (List PV)), (∀ r ∈ rows, Has P n e r) → ∃ xs : List Int, rows = xs.map (fun x => [.int k x]) ∧ ∀ x ∈ xs, (Lit.int k x).wf = true
  | [], _ => ⟨[], rfl, fun x h => by cases h⟩
  | r :: rows, h => by
    obtain ⟨x, rfl, hx⟩ := (h r (by simp)).int he
    obtain ⟨xs, rfl, hxs⟩ := ints_of he rows fun r hr => h r (by simp [hr])
    exact ⟨x :: xs, rfl, fun y hy => (List.mem_cons.1 hy).elim (fun e => e ▸ hx) (hxs y)⟩
/-- Rows of texts. -/
theorem strs_of {n : Nat} {e : TypeId} (he : P.underlying e = some .string) : ∀ (rows : List (List PV)), (∀ r ∈ rows, Has P n e r) → ∃ xs : List (List UInt8), rows = xs.map (fun x => [.str x]) ∧ ∀ x ∈ xs, x.length ≤ maxLen
  | [], _ => ⟨[], rfl, fun x h => by cases h⟩
  | r :: rows, h => by
    obtain ⟨x, rfl, hx⟩ := (h r (by simp)).str he
    obtain ⟨xs, rfl, hxs⟩ := strs_of he rows fun r hr => h r (by simp [hr])
    exact ⟨x :: xs, rfl, fun y hy => (List.mem_cons.1 hy).elim (fun e => e ▸ hx) (hxs y)⟩
theorem range {k : IntKind} {x : Int} (h : (Lit.int k x).wf = true) : k.min ≤ x ∧ x ≤ k.max := by
  simp only [Lit.wf, Bool.and_eq_true, decide_eq_true_eq] at h
  exact h
end
end Go.Proofs.Ytebflncfgjnkkaa.M

/- THE ABSTRACT MACHINE, thirty-fourth part: slices.Clone, which asks whether a row is nil: either answer comes to the same. -/
namespace Go.Proofs.Ytebflncfgjnkkaa.M
set_option linter.unusedSimpArgs false
set_option linter.unusedVariables false
open Go Classical
section
variable {g g' : Gh} {S S' : Sto} {w w' : World} {P : Program}
theorem seq_post {cl : Oracle} (hcl : OracleOk P cl) (hm : P.follows .mixedOrders = true) {n : Nat} {b : Code} {sb : SC} (hb : cCode P n b = some sb) {N l : Nat} {Q : Exit → Act → World → Prop} {sa : SC} {ac : Ac} (hl : ac.S.length = l) (hp : EPost n g l w Q (evC cl N (.seq sa sb) ac)) :
    EPost n g l w (Exit.then (b.wp P Q) Q) (evC cl N sa ac) := by
  have hbad : evC cl N sa ac ≠ .bad := fun e => by
    simp only [evC, e] at hp
    exact hp
  refine EPost.behind hbad (fun hnn => ?_) (fun ac' he a' w' g' h1 h2 h3 => ?_)
  · simp only [evC] at hp
    cases he : evC cl N sa ac with
    | nor ac' => exact absurd he (hnn ac')
    | _ => rw [he] at hp; exact hp
  · simp only [evC, he] at hp
    exact evC_ok hcl hm b sb hb N h1 (by rw [h3]; exact hp.from h2)
/-- A row of its own that comes back may be taken for data. -/
theorem arr_to_list {sz : Nat} {rows : List (List PV)} {c : Value} (h : CallPost g S w (.ok (.arr sz rows false) S') (.returned c) w') : CallPost g S w (.ok (.v (.list sz rows false)) S') (.returned c) w' := by
  obtain ⟨g1, w1, x1, t1, ⟨ai, hA, rfl, hb⟩, l1⟩ := h
  obtain ⟨cs, c1, c2⟩ := hA.cells
  by_cases hr : rows = []
  · subst hr
    refine ⟨g1, w1, x1, t1, ?_, l1⟩
    have e0 : ai.len = ([] : List (List PV)).length := hA.len
    rw [e0]
    exact .data _ _ (.list sz [] false ai.A ai.cap (fun _ _ => undef) (Nat.zero_le _) (fun h => by cases h) (fun r hr => by cases hr) (fun h => absurd rfl h) (fun ad i j row v _ hi => by simp at hi) (fun i j row v hi => by simp at hi))
  · have hbk : ∃ b, ai.blk = some b := by
      cases hbk : ai.blk with
      | some b => exact ⟨b, rfl⟩
      | none =>
        rcases (hA.free hbk).2 with h | h
        · cases h
        · exact absurd h hr
    obtain ⟨b, hbk⟩ := hbk
    obtain ⟨hb1, hb2⟩ := hb b hbk
    obtain ⟨hA1, ⟨cells, elem, hc1, hc2⟩, _, hfz⟩ := hA.own b hbk
    have hfz' := hfz rfl
    obtain ⟨p1, p2⟩ := w1.fzMore (φ := fun b' o => if b' = b then w'.cell? ⟨b', o, none⟩ else g1.fz b' o) (fun b' o v hh => by
      split at hh
      · exact hh
      · exact w1.fz b' o v hh) (fun b' o v hh => by
      rw [if_neg]
      · exact hh
      · rintro rfl
        rw [hfz'] at hh
        cases hh) (fun x b' hx o => by
      rw [if_neg]
      rintro rfl
      exact hb2 x hx)
    refine ⟨_, p1, x1.trans p2, t1.trans ⟨rfl, rfl, rfl, Nat.le_refl _, p2.fz, fun _ _ _ => rfl, fun x k h => .inl h, p2.pop_⟩, ?_, l1⟩
    have e0 : ai.len = rows.length := hA.len
    rw [e0]
    refine .data _ _ (.list sz rows false ai.A ai.cap cs (by rw [← e0]; exact hA.cap) (fun h => by cases h) hA.each hA.addr (fun ad i j row v had hi hj => ?_) (fun i j row v hi hj => (c1 i j row v hi hj).mono p2.fz))
    have := (c2 ad i j row v had hi hj).1
    rw [hA1] at had
    obtain rfl := Option.some.inj had
    show (if b = b then _ else _) = _
    rw [if_pos rfl]
    exact this
theorem inv_isnil {o : Oper} {x' : X} (h : cOp P o = some (.v (.isnil false x'))) : ∃ t e x y u, o.op = .binOp .eql t x y u ∧ P.underlying t = some (.slice e) ∧ isNilSlice y = true ∧ cX P t x = some x' := by
  obtain ⟨dst, op, ty, pos, after, guard⟩ := o
  cases op <;> simp only [cOp, reduceCtorEq, Option.map_eq_some_iff] at h
  case binOp op t x y u =>
    split at h
    · rename_i x1 y1 hx hy
      split at h
      · rw [Option.map_eq_some_iff] at h; obtain ⟨_, _, h⟩ := h; cases h
      · rw [Option.map_eq_some_iff] at h; obtain ⟨_, _, h⟩ := h; cases h
      · cases h
      · cases h
      · rename_i e ht
        split at h
        · rename_i hn
          cases h
          exact ⟨t, e, x, y, u, rfl, ht, hn, hx⟩
        · cases h
      · split at h <;> cases h
      · cases h
      · cases h
    · cases h
  case call c =>
    unfold cCall at h
    repeat' split at h
    all_goals cases h
  all_goals first
    | (obtain ⟨_, _, h⟩ := h; cases h; done)
    | (repeat' split at h
       all_goals first | (cases h; done) | (rw [Option.map_eq_some_iff] at h; obtain ⟨_, _, h⟩ := h; cases h))
theorem inv_seq {n : Nat} {c : Code} {a b : SC} (h : cCode P n c = some (.seq a b)) : ∃ x y, c = .seq x y ∧ cCode P n x = some a ∧ cCode P n y = some b := by
  cases c <;> (try simp only [cCode, reduceCtorEq, Option.some.injEq, Option.map_eq_some_iff, false_and, and_false, exists_false] at h)
  case region id ops d =>
    cases d <;> simp only [cCode] at h
    · rw [Option.map_eq_some_iff] at h; obtain ⟨_, _, h⟩ := h; cases h
    · split at h
      · split at h <;> cases h
      · cases h
  case seq x y =>
    split at h
    · rename_i a' b' h1 h2
      cases h
      exact ⟨x, y, rfl, h1, h2⟩
    · cases h
  case cond => split at h <;> cases h
theorem inv_reg {n : Nat} {c : Code} {l : List SOper} (h : cCode P n c = some (.reg l)) : ∃ id ops, c = .region id ops false ∧ cOpers P n ops ops.toList = some l := by
  cases c <;> (try simp only [cCode, reduceCtorEq, Option.some.injEq, Option.map_eq_some_iff, false_and, and_false, exists_false] at h)
  case region id ops d =>
    cases d <;> simp only [cCode] at h
    · rw [Option.map_eq_some_iff] at h; obtain ⟨l', h1, h⟩ := h; cases h; exact ⟨id, ops, rfl, h1⟩
    · split at h
      · split at h <;> cases h
      · cases h
  case seq x y => split at h <;> cases h
  case cond => split at h <;> cases h
theorem comp_inv {fn : Func} {sf : SFunc} (h : comp P fn = some sf) : ∃ c, fn.body = some c ∧ cCode P fn.ntmps c = some sf.code ∧ cRes P fn.ntmps fn.results.toList = some sf.res ∧ sf.nargs = fn.params.size + fn.nfree ∧ fn.params.size + fn.nfree ≤ fn.ntmps := by
  unfold comp at h
  split at h
  · rename_i c hb
    split at h
    · rename_i c' r' h1 h2
      split at h
      · rename_i hc
        cases h
        exact ⟨c, hb, h1, h2, rfl, hc.1⟩
      · cases h
    · cases h
  · cases h
theorem start_relA (hw : WR g S w) {args : List PV} {cs : Array Value} (ha : ArgsR g args cs) {n : Nat} (hsz : cs.size ≤ n) : RelA n g.push (ac0 args S) { tmps := cs ++ Array.replicate (n - cs.size) undef, defers := [] } w := by
  refine ⟨⟨push_wr hw, fun t => ?_⟩, by simp; omega, rfl, Nat.succ_pos _⟩
  show VR g.push (argE (args.map PV.up) t) ((cs ++ Array.replicate (n - cs.size) undef).getD t undef)
  unfold argE
  rw [List.getElem?_map, Array.getD_eq_getD_getElem?]
  cases hat : args[t]? with
  | some v =>
    have hlt := (List.getElem?_eq_some_iff.1 hat).1
    rw [Array.getElem?_append_left (by rw [← ha.1]; exact hlt)]
    simp only [Option.map_some, Option.getD_some]
    rw [← Array.getD_eq_getD_getElem?]
    exact (ha.2 t v hat).up (Gh.pop_push g)
  | none =>
    have hge := List.getElem?_eq_none_iff.1 hat
    rw [Array.getElem?_append_right (by rw [← ha.1]; exact hge)]
    simp only [Option.map_none, Option.getD_none]
    rw [Array.getElem?_replicate]
    split <;> exact .undef
end
end Go.Proofs.Ytebflncfgjnkkaa.M

/- THE ABSTRACT MACHINE, thirty-fifth part: slices.Clone: what it yields is its row. -/
namespace Go.Proofs.Ytebflncfgjnkkaa.M
set_option linter.unusedSimpArgs false
set_option linter.unusedVariables false
open Go Classical
section
variable {g g' : Gh} {S S' : Sto} {w w' : World} {P : Program}
def cloneC (z bytes : Nat) (zero : List PV) : SC :=
  .seq (.reg [⟨some 2, none, .nilv z⟩]) (.seq (.seq (.reg [⟨some 3, none, .v (.mov (.t 0))⟩, ⟨some 4, none, .v (.isnil false (.t 3))⟩]) (.cond (.t 4) (.seq (.reg [⟨some 2, none, .nilv z⟩]) .ret) .skip))
    (.seq (.reg [⟨some 5, none, .bslice z 0 zero []⟩, ⟨some 6, none, .v (.mov (.t 0))⟩, ⟨some 7, none, .append z bytes (.t 5) (.t 6)⟩, ⟨some 2, none, .v (.mov (.t 7))⟩]) .ret))
noncomputable def cloneX (z bytes : Nat) : List PV → Option PV
  | [.list z' rows _] => if z' = z ∧ rows.length * bytes ≤ 1099511627776 ∧ rows.length ≤ 1099511627776 then some (.list z rows false) else none
  | _ => none
def cloneA1 (z : Nat) (rows : List (List PV)) (full : Bool) (S : Sto) : Ac := ⟨upd (killE 2 (argE [.list z rows full])) 2 (.sl 0 (.slot 2) 0 0 0 0 false), setArr (killS 2 (Fr.e :: S)) 0 (.slot 2) ⟨z, [], false, 0⟩⟩
def cloneA2 (z : Nat) (rows : List (List PV)) (full : Bool) (S : Sto) : Ac := (cloneA1 z rows full S).put (some 3) (.list z rows full)
def cloneEnd (z bytes : Nat) (zero : List PV) : SC := .seq (.cond (.t 4) (.seq (.reg [⟨some 2, none, .nilv z⟩]) .ret) .skip) (.seq (.reg [⟨some 5, none, .bslice z 0 zero []⟩, ⟨some 6, none, .v (.mov (.t 0))⟩, ⟨some 7, none, .append z bytes (.t 5) (.t 6)⟩, ⟨some 2, none, .v (.mov (.t 7))⟩]) .ret)
theorem clone_fin {cl : Oracle} {z bytes : Nat} {zero : List PV} {rows : List (List PV)} {full : Bool} (hb1 : rows.length * bytes ≤ 1099511627776) (hb2 : rows.length ≤ 1099511627776) (hby : bytes ≤ 65536) : ∀ b : Bool, (b = true → rows = []) → ∃ acf, evC cl 0 (cloneEnd z bytes zero) ((cloneA2 z rows full S).put (some 4) (.bool b)) = .ret acf ∧ retOf [.t 2] acf = .ok (.arr z rows false) S := by
  intro b hb
  cases b with
  | true =>
    obtain rfl := hb rfl
    refine ⟨_, by simp only [cloneEnd, evC, evOps, stp, ex, newArr]; rfl, ?_⟩
    simp only [retOf, rdRes, retL, ret1]
    rfl
  | false =>
    have hbig : bigRow rows.length bytes := ⟨hb1, hb2, hby⟩
    have happ : appendP true 7 z bytes (.nils z) (.list z rows full) (((((cloneA2 z rows full S).put (some 4) (.bool false)).put (some 5) (.nils z)).put (some 6) (.list z rows full))) = newArr true 7 ⟨z, rows, false, 0⟩ ((((cloneA2 z rows full S).put (some 4) (.bool false)).put (some 5) (.nils z)).put (some 6) (.list z rows full)) := by
      simp [appendP, srcRows, view, hbig]
    have hops : evOps cl [⟨some 5, none, .bslice z 0 zero []⟩, ⟨some 6, none, .v (.mov (.t 0))⟩, ⟨some 7, none, .append z bytes (.t 5) (.t 6)⟩, ⟨some 2, none, .v (.mov (.t 7))⟩] ((cloneA2 z rows full S).put (some 4) (.bool false)) = thOps cl (appendP true 7 z bytes (.nils z) (.list z rows full) (((((cloneA2 z rows full S).put (some 4) (.bool false)).put (some 5) (.nils z)).put (some 6) (.list z rows full)))) [⟨some 2, none, .v (.mov (.t 7))⟩] := rfl
    rw [happ] at hops
    refine ⟨_, by simp only [cloneEnd, evC]; rw [show Ac.ev ((cloneA2 z rows full S).put (some 4) (.bool false)) (.t 4) = .bool false from rfl]; simp only [hops, Bool.false_eq_true, if_false, newArr, if_true]; rfl, ?_⟩
    have harr : ∀ e : Nat → PV, e 2 = .sl 0 (.slot 7) 0 rows.length rows.length 0 false → ∀ St : Sto, getArr St 0 (.slot 7) = some ⟨z, rows, false, 0⟩ → St.tail = S → retOf [.t 2] ⟨e, St⟩ = .ok (.arr z rows false) S := by
      intro e h1 St h2 h3
      simp [retOf, rdRes, retL, ret1, h1, h2, h3]
    exact harr _ rfl _ rfl rfl
theorem two_of {α : Type} {l : List α} (h : l.length = 2) : ∃ a b, l = [a, b] := by
  match l, h with
  | [a, b], _ => exact ⟨a, b, rfl⟩
theorem clone_ext (hm : P.follows .mixedOrders = true) {f : Nat} {fn : Func} {nt z bytes : Nat} {zero : List PV} (hf : P.funcs[f]? = some fn) (hc : comp P fn = some ⟨1, nt, cloneC z bytes zero, [.t 2]⟩) (hby : bytes ≤ 65536) : ExtOk P f (cloneX z bytes) := by
  intro args v hx g S w cs hw ha
  have henter := enter_of hf hc cs w
  obtain ⟨c, hbody, hcode, hres, hna, hnt⟩ := comp_inv hc
  unfold cloneX at hx
  split at hx
  · rename_i z' rows full
    split at hx
    · rename_i hcnd
      obtain ⟨rfl, hb1, hb2⟩ := hcnd
      obtain rfl := Option.some.inj hx
      left
      refine ⟨henter, ?_⟩
      obtain ⟨r1, c2, rfl, hr1, hc2⟩ := inv_seq hcode
      obtain ⟨c3, rest, rfl, hc3, hrest⟩ := inv_seq hc2
      obtain ⟨r2, cnd_, rfl, hr2, hcd⟩ := inv_seq hc3
      obtain ⟨i2, ops, rfl, hops⟩ := inv_reg hr2
      obtain ⟨hol, hog⟩ := cOpers_get ops.toList _ hops
      have hlen : ops.toList.length = 2 := by rw [← hol]; rfl
      obtain ⟨o1, o2, hopl⟩ := two_of hlen
      · skip
        have ho1 : cOper P fn.ntmps ops o1 = some ⟨some 3, none, .v (.mov (.t 0))⟩ := by
          obtain ⟨so, h1, h2⟩ := hog 0 o1 (by rw [hopl]; rfl)
          simp at h1
          rw [h1]; exact h2
        have ho2 : cOper P fn.ntmps ops o2 = some ⟨some 4, none, .v (.isnil false (.t 3))⟩ := by
          obtain ⟨so, h1, h2⟩ := hog 1 o2 (by rw [hopl]; rfl)
          simp at h1
          rw [h1]; exact h2
        let cl : Oracle := fun _ _ _ => .bad
        have hcl : OracleOk P cl := fun f args S h => absurd rfl h
        have e1 : evC cl 0 (.reg [⟨some 2, none, .nilv z'⟩]) (ac0 [.list z' rows full] S) = .nor (cloneA1 z' rows full S) := by
          simp only [evC]
          rfl
        have e2 : stp cl true ⟨some 3, none, .v (.mov (.t 0))⟩ (cloneA1 z' rows full S) = .ok (cloneA2 z' rows full S) := rfl
        have hfin := clone_fin (cl := cl) (z := z') (zero := zero) (full := full) (S := S) hb1 hb2 hby
        have hsz : cs.size ≤ fn.ntmps := by
          rw [← ha.1]
          have : (1 : Nat) = fn.params.size + fn.nfree := hna
          show 1 ≤ fn.ntmps
          omega
        have hr0 := start_relA hw ha hsz
        refine calls_of_wp hf hbody (wp_seq (evC_ok hcl hm r1 _ hr1 0 hr0 ?_))
        rw [e1]
        intro a1 w1 g1 h1 t1 l1
        show (Code.seq (Code.seq (Code.region i2 ops false) cnd_) rest).wp P _ a1 w1
        refine wp_seq (wp_seq (wp_region_list ?_))
        rw [hopl]
        refine wpList_step fun K hK => ?_
        have s1 := stp_ok hcl ho1 (kd := true) h1 (fun h => by cases h)
        rw [e2] at s1
        obtain ⟨_, hd1, hdn1, _⟩ := cOper_inv ho1
        show doOp P ops o1 a1 w1 K _
        refine s1 K _ (fun c0 w2 g2 hst => hK _ _ ?_)
        · skip
          have h2 := hst.relA h1 hdn1
          obtain ⟨hop2, hdst2, hdn2, hgd⟩ := cOper_inv ho2
          have hg0 : o2.guard = none := by
            rcases hgd with ⟨h, _⟩ | ⟨_, _, _, _, _, h⟩
            · exact h
            · cases h
          refine wpList_plain hg0 fun K2 hK2 => ?_
          obtain ⟨t, e, x, y, u, ho, ht, hn, hx⟩ := inv_isnil hop2
          have hy := isNil_const hn
          subst hy
          have hev := h2.rel.ev hx
          have hv3 : (cloneA2 z' rows full S).ev (.t 3) = .list z' rows full := rfl
          rw [hv3] at hev
          cases hev with | data _ _ hfr =>
          generalize hcc : (a1.put o1.dst c0).eval x = cc at hfr
          cases hfr with | list _ _ _ A cap cs' hl hfl hss hA hcs hvs =>
          have hrun : (execOp (a1.put o1.dst c0).eval o2).run P w2 = .ok (.value (.bool A.isNone)) w2 := by
            have := nil_run ht .eql false (.inl ⟨rfl, rfl⟩) x (.const (.slice none 0 0)) A rows.length cap w2
            unfold execOp
            rw [ho]
            show (do pure (Next.value (← (do eqGuard .eql t x (.const (.slice none 0 0)) ((a1.put o1.dst c0).eval x) ((a1.put o1.dst c0).eval (.const (.slice none 0 0))); binOp .eql t ((a1.put o1.dst c0).eval x) ((a1.put o1.dst c0).eval (.const (.slice none 0 0))) : Sem Value))) : Sem Next).run P w2 = _
            rw [hcc]
            exact exec_w this
          unfold Oper.wp
          rw [hrun]
          apply hK2
          obtain ⟨acf, f1, f2⟩ := hfin A.isNone (fun hnn => by
            apply Classical.byContradiction
            intro hne
            obtain ⟨ad, rfl, _⟩ := hA hne
            cases hnn)
          have h3 := (put_step (d := o2.dst) (kd := true) (ac := cloneA2 z' rows full S) (S' := (cloneA2 z' rows full S).S) (w' := w2) (w := w2) (g := g2) (g' := g2) (v := .bool A.isNone) (c := .bool A.isNone) h2.rel.wr (Ext.refl g2) (Tr.refl g2 w2) (.data _ _ (.bool _)) rfl).relA h2 hdn2
          rw [← hdst2] at h3
          show cnd_.wp P _ _ w2
          rw [← hdst2]
          refine evC_ok hcl hm cnd_ _ hcd 0 h3 (seq_post hcl hm hrest rfl ?_)
          have f1' : evC cl 0 (cloneEnd z' bytes zero) (({ cloneA2 z' rows full S with S := (cloneA2 z' rows full S).S } : Ac).put (some 4) (.bool A.isNone)) = .ret acf := f1
          show EPost _ _ _ _ _ (evC cl 0 (cloneEnd z' bytes zero) _)
          rw [f1']
          intro a4 w4 g4 h4 t4 l4
          have hb4 : retOf [.t 2] acf ≠ .bad := by rw [f2]; exact fun h => by cases h
          obtain ⟨v, q1, q2⟩ := retOf_ok (g := g) (S := S) (w := w) hres h4 ((t1.trans hst.tr).trans t4) (by rw [l4]; rfl) hb4
          rw [f2] at q2
          exact ⟨h4.defers, v, q1, arr_to_list q2⟩
    · cases hx
  · cases hx
end
end Go.Proofs.Ytebflncfgjnkkaa.M

/- What the functions of package val, and of the law's own package, yield: reckoned on the machine. -/
namespace Go.Proofs.Ytebflncfgjnkkaa.M
set_option linter.unusedSimpArgs false
set_option linter.unusedVariables false
open Go Classical
/-- slices.Clone is told by a contract. -/
noncomputable def exts : Nat → Option (List PV → Option PV) := fun f => if f = 27 then some (cloneX 4 56) else none
noncomputable def SP : Prg := SPof Try.prog exts
theorem sp7 : SP 7 = some (.code sc7) := SPof_code rfl Try.func7 comp7
theorem sp8 : SP 8 = some (.code sc8) := SPof_code rfl Try.func8 comp8
theorem sp9 : SP 9 = some (.code sc9) := SPof_code rfl Try.func9 comp9
theorem sp10 : SP 10 = some (.code sc10) := SPof_code rfl Try.func10 comp10
theorem sp11 : SP 11 = some (.code sc11) := SPof_code rfl Try.func11 comp11
theorem sp21 : SP 21 = some (.code sc21) := SPof_code rfl Try.func21 comp21
theorem sp24 : SP 24 = some (.code sc24) := SPof_code rfl Try.func24 comp24
theorem sp25 : SP 25 = some (.code sc25) := SPof_code rfl Try.func25 comp25
/-- The cells of a value of package api. -/
def vc (k n : Int) (s : List UInt8) (l : List (List PV)) : List PV := [.int .i64 k, .int .i64 n, .str s, .list 4 l false]
theorem num_ok (n : Int) (S : Sto) : call SP 8 [.int .i64 n] S = .ok (.v (.agg [.int .i64 1, .int .i64 n, .str [], .list 4 [] false])) S := by
  rw [call_code sp8 _ _ rfl]
  simp only [sc8, ac0, List.map_cons, List.map_nil, PV.up, PV.upL, E_seq, E_reg, E_block, E_cnd, E_skip, E_exit, E_ret, E_dreg, thC_nor, thC_ret, thC_ext, thC_pan, thC_ite, inBlk_ext, inBlk_nor, inBlk_ret, inBlk_pan, inBlk_ite, evOps_cons, evOps_nil, thOps_ok, thOps_pan, thOps_ite, evD_cons, evD_nil, thD_tot, thD_same, thD_ite, List.tail_cons, stp_none, stp_some, gd_tt, gd_ff, gd_tf, gd_ft, gd_undef, gd_td, gd_fd, ex_v, vo_some, vo_ite, ex, vop, ev_t, ev_c, put_some, put_none, upd_same, upd_ne, updK_same, updK_ne, ne_eq, argE_at, List.getElem?_cons_zero, List.getElem?_cons_succ, Option.getD_some, PV.cells, List.all_cons, List.all_nil, PV.one, Bool.and_true, Bool.true_and, if_true, and_self, true_and, and_true, killS, kill_box, kill_arr, e_box, e_arr, AK.tmp, PV.killL, PV.kill, killE_at, newBox, initC, initA, ld, getBox, setBox, getArr, setArr, pickC, Option.map_some, Option.map_none, PV.upN, binP, binInt, binStr, binB, unP, cnd_true, cnd_false, cnd_dec, cnd_not, Nat.reduceEqDiff, not_false_eq_true, not_true_eq_false, reduceIte, reduceCtorEq, Nat.reduceAdd, Nat.zero_add, Nat.add_zero, Nat.reduceLeDiff, Nat.reduceSub, Nat.reduceMul, fin_ret, fin_nor, fin_ite, List.length_cons, List.length_nil, List.drop_succ_cons, List.drop_zero, List.take_succ_cons, List.take_zero, fillP, setAt, List.set_cons_zero, List.set_cons_succ, storeP, stCells, stCell, PV.dnN, PV.dn, PV.dnL, retOf, rdRes, retL, ret1, retV, hand, hand1, handL, handA, List.tail_cons, callP, List.append_nil, List.nil_append, List.any_cons, List.any_nil, PV.hasSl, PV.isSl, Bool.or_false, Bool.false_or, Bool.false_eq_true, if_false, slcP, slcGo, fullOf, idx, iaddrP, lenP, lenS, appendP, newArr, view, srcRows, bigRow, okA, eqCells, convP, slsP, gd_tb, gd_fb, List.cons_append, Option.getD_none, List.getElem?_nil, AK.slot.injEq, AK.cell.injEq, decide_true, decide_false, Bool.not_true, Bool.not_false, Option.isNone_none, Option.isSome_none, Option.isSome_some, Option.isNone_some, prep, Ac.kill, PV.int.injEq, beq_self_eq_true, decide_eq_true_eq, Bool.not_eq_true, decide_eq_false_iff_not]
theorem Int_ok (n : Int) (S : Sto) : call SP 25 [.int .i64 n] S = .ok (.v (.agg [.int .i64 1, .int .i64 n, .str [], .list 4 [] false])) S := by
  rw [call_code sp25 _ _ rfl]
  simp only [sc25, ac0, List.map_cons, List.map_nil, PV.up, PV.upL, E_seq, E_reg, E_block, E_cnd, E_skip, E_exit, E_ret, E_dreg, thC_nor, thC_ret, thC_ext, thC_pan, thC_ite, inBlk_ext, inBlk_nor, inBlk_ret, inBlk_pan, inBlk_ite, evOps_cons, evOps_nil, thOps_ok, thOps_pan, thOps_ite, evD_cons, evD_nil, thD_tot, thD_same, thD_ite, List.tail_cons, stp_none, stp_some, gd_tt, gd_ff, gd_tf, gd_ft, gd_undef, gd_td, gd_fd, ex_v, vo_some, vo_ite, ex, vop, ev_t, ev_c, put_some, put_none, upd_same, upd_ne, updK_same, updK_ne, ne_eq, argE_at, List.getElem?_cons_zero, List.getElem?_cons_succ, Option.getD_some, PV.cells, List.all_cons, List.all_nil, PV.one, Bool.and_true, Bool.true_and, if_true, and_self, true_and, and_true, killS, kill_box, kill_arr, e_box, e_arr, AK.tmp, PV.killL, PV.kill, killE_at, newBox, initC, initA, ld, getBox, setBox, getArr, setArr, pickC, Option.map_some, Option.map_none, PV.upN, binP, binInt, binStr, binB, unP, cnd_true, cnd_false, cnd_dec, cnd_not, Nat.reduceEqDiff, not_false_eq_true, not_true_eq_false, reduceIte, reduceCtorEq, Nat.reduceAdd, Nat.zero_add, Nat.add_zero, Nat.reduceLeDiff, Nat.reduceSub, Nat.reduceMul, fin_ret, fin_nor, fin_ite, List.length_cons, List.length_nil, List.drop_succ_cons, List.drop_zero, List.take_succ_cons, List.take_zero, fillP, setAt, List.set_cons_zero, List.set_cons_succ, storeP, stCells, stCell, PV.dnN, PV.dn, PV.dnL, retOf, rdRes, retL, ret1, retV, hand, hand1, handL, handA, List.tail_cons, callP, List.append_nil, List.nil_append, List.any_cons, List.any_nil, PV.hasSl, PV.isSl, Bool.or_false, Bool.false_or, Bool.false_eq_true, if_false, slcP, slcGo, fullOf, idx, iaddrP, lenP, lenS, appendP, newArr, view, srcRows, bigRow, okA, eqCells, convP, slsP, gd_tb, gd_fb, List.cons_append, Option.getD_none, List.getElem?_nil, AK.slot.injEq, AK.cell.injEq, decide_true, decide_false, Bool.not_true, Bool.not_false, Option.isNone_none, Option.isSome_none, Option.isSome_some, Option.isNone_some, prep, Ac.kill, PV.int.injEq, beq_self_eq_true, decide_eq_true_eq, Bool.not_eq_true, decide_eq_false_iff_not]
theorem Num_ok (n : Int) (S : Sto) : call SP 10 [.int .i64 n] S = .ok (.v (.int .i64 n)) S := by
  rw [call_code sp10 _ _ rfl]
  simp only [sc10, ac0, List.map_cons, List.map_nil, PV.up, PV.upL, E_seq, E_reg, E_block, E_cnd, E_skip, E_exit, E_ret, E_dreg, thC_nor, thC_ret, thC_ext, thC_pan, thC_ite, inBlk_ext, inBlk_nor, inBlk_ret, inBlk_pan, inBlk_ite, evOps_cons, evOps_nil, thOps_ok, thOps_pan, thOps_ite, evD_cons, evD_nil, thD_tot, thD_same, thD_ite, List.tail_cons, stp_none, stp_some, gd_tt, gd_ff, gd_tf, gd_ft, gd_undef, gd_td, gd_fd, ex_v, vo_some, vo_ite, ex, vop, ev_t, ev_c, put_some, put_none, upd_same, upd_ne, updK_same, updK_ne, ne_eq, argE_at, List.getElem?_cons_zero, List.getElem?_cons_succ, Option.getD_some, PV.cells, List.all_cons, List.all_nil, PV.one, Bool.and_true, Bool.true_and, if_true, and_self, true_and, and_true, killS, kill_box, kill_arr, e_box, e_arr, AK.tmp, PV.killL, PV.kill, killE_at, newBox, initC, initA, ld, getBox, setBox, getArr, setArr, pickC, Option.map_some, Option.map_none, PV.upN, binP, binInt, binStr, binB, unP, cnd_true, cnd_false, cnd_dec, cnd_not, Nat.reduceEqDiff, not_false_eq_true, not_true_eq_false, reduceIte, reduceCtorEq, Nat.reduceAdd, Nat.zero_add, Nat.add_zero, Nat.reduceLeDiff, Nat.reduceSub, Nat.reduceMul, fin_ret, fin_nor, fin_ite, List.length_cons, List.length_nil, List.drop_succ_cons, List.drop_zero, List.take_succ_cons, List.take_zero, fillP, setAt, List.set_cons_zero, List.set_cons_succ, storeP, stCells, stCell, PV.dnN, PV.dn, PV.dnL, retOf, rdRes, retL, ret1, retV, hand, hand1, handL, handA, List.tail_cons, callP, List.append_nil, List.nil_append, List.any_cons, List.any_nil, PV.hasSl, PV.isSl, Bool.or_false, Bool.false_or, Bool.false_eq_true, if_false, slcP, slcGo, fullOf, idx, iaddrP, lenP, lenS, appendP, newArr, view, srcRows, bigRow, okA, eqCells, convP, slsP, gd_tb, gd_fb, List.cons_append, Option.getD_none, List.getElem?_nil, AK.slot.injEq, AK.cell.injEq, decide_true, decide_false, Bool.not_true, Bool.not_false, Option.isNone_none, Option.isSome_none, Option.isSome_some, Option.isNone_some, prep, Ac.kill, PV.int.injEq, beq_self_eq_true, decide_eq_true_eq, Bool.not_eq_true, decide_eq_false_iff_not]
theorem Bool_ok (p : Prop) [Decidable p] (S : Sto) : call SP 21 [.bool (decide p)] S = .ok (.v (.agg [.int .i64 3, .int .i64 (if p then 1 else 0), .str [], .list 4 [] false])) S := by
  rw [call_code sp21 _ _ rfl]
  simp only [sc21, ac0, List.map_cons, List.map_nil, PV.up, PV.upL, E_seq, E_reg, E_block, E_cnd, E_skip, E_exit, E_ret, E_dreg, thC_nor, thC_ret, thC_ext, thC_pan, thC_ite, inBlk_ext, inBlk_nor, inBlk_ret, inBlk_pan, inBlk_ite, evOps_cons, evOps_nil, thOps_ok, thOps_pan, thOps_ite, evD_cons, evD_nil, thD_tot, thD_same, thD_ite, List.tail_cons, stp_none, stp_some, gd_tt, gd_ff, gd_tf, gd_ft, gd_undef, gd_td, gd_fd, ex_v, vo_some, vo_ite, ex, vop, ev_t, ev_c, put_some, put_none, upd_same, upd_ne, updK_same, updK_ne, ne_eq, argE_at, List.getElem?_cons_zero, List.getElem?_cons_succ, Option.getD_some, PV.cells, List.all_cons, List.all_nil, PV.one, Bool.and_true, Bool.true_and, if_true, and_self, true_and, and_true, killS, kill_box, kill_arr, e_box, e_arr, AK.tmp, PV.killL, PV.kill, killE_at, newBox, initC, initA, ld, getBox, setBox, getArr, setArr, pickC, Option.map_some, Option.map_none, PV.upN, binP, binInt, binStr, binB, unP, cnd_true, cnd_false, cnd_dec, cnd_not, Nat.reduceEqDiff, not_false_eq_true, not_true_eq_false, reduceIte, reduceCtorEq, Nat.reduceAdd, Nat.zero_add, Nat.add_zero, Nat.reduceLeDiff, Nat.reduceSub, Nat.reduceMul, fin_ret, fin_nor, fin_ite, List.length_cons, List.length_nil, List.drop_succ_cons, List.drop_zero, List.take_succ_cons, List.take_zero, fillP, setAt, List.set_cons_zero, List.set_cons_succ, storeP, stCells, stCell, PV.dnN, PV.dn, PV.dnL, retOf, rdRes, retL, ret1, retV, hand, hand1, handL, handA, List.tail_cons, callP, List.append_nil, List.nil_append, List.any_cons, List.any_nil, PV.hasSl, PV.isSl, Bool.or_false, Bool.false_or, Bool.false_eq_true, if_false, slcP, slcGo, fullOf, idx, iaddrP, lenP, lenS, appendP, newArr, view, srcRows, bigRow, okA, eqCells, convP, slsP, gd_tb, gd_fb, List.cons_append, Option.getD_none, List.getElem?_nil, AK.slot.injEq, AK.cell.injEq, decide_true, decide_false, Bool.not_true, Bool.not_false, Option.isNone_none, Option.isSome_none, Option.isSome_some, Option.isNone_some, prep, Ac.kill, PV.int.injEq, beq_self_eq_true, decide_eq_true_eq, Bool.not_eq_true, decide_eq_false_iff_not]
  split <;> rfl
/-- What comes of two numbers. -/
def reckonS (k a b : Int) : Int × Int :=
  if k = 19 then (if decide (a < IntKind.i64.wrap (a + b)) = decide (0 < b) then (IntKind.i64.wrap (a + b), 0) else (0, 8))
  else if k = 20 then (if decide (IntKind.i64.wrap (a - b) < a) = decide (0 < b) then (IntKind.i64.wrap (a - b), 0) else (0, 8))
  else if k = 21 then (if a = 0 ∨ IntKind.i64.wrap ((IntKind.i64.wrap (a * b)).tdiv a) = b ∧ ¬ (a = -1 ∧ b = -9223372036854775808) then (IntKind.i64.wrap (a * b), 0) else (0, 8))
  else if b = 0 then (0, 9)
  else if k = 23 then (a.tmod b, 0)
  else if a = -9223372036854775808 ∧ b = -1 then (0, 8)
  else (IntKind.i64.wrap (a.tdiv b), 0)
theorem reckon_ok (k a b : Int) (S : Sto) : call SP 24 [.int .i64 k, .int .i64 a, .int .i64 b] S = .ok (.v (.tup [.int .i64 (reckonS k a b).1, .int .i64 (reckonS k a b).2])) S := by
  rw [call_code sp24 _ _ rfl]
  simp only [sc24, ac0, List.map_cons, List.map_nil, PV.up, PV.upL, E_seq, E_reg, E_block, E_cnd, E_skip, E_exit, E_ret, E_dreg, thC_nor, thC_ret, thC_ext, thC_pan, inBlk_ext, inBlk_nor, inBlk_ret, inBlk_pan, evOps_cons, evOps_nil, thOps_ok, thOps_pan, evD_cons, evD_nil, thD_tot, thD_same, List.tail_cons, stp_none, stp_some, gd_tt, gd_ff, gd_tf, gd_ft, gd_undef, gd_td, gd_fd, ex_v, vo_some, ex, vop, ev_t, ev_c, put_some, put_none, upd_same, upd_ne, updK_same, updK_ne, ne_eq, argE_at, List.getElem?_cons_zero, List.getElem?_cons_succ, Option.getD_some, PV.cells, List.all_cons, List.all_nil, PV.one, Bool.and_true, Bool.true_and, if_true, and_self, true_and, and_true, killS, kill_box, kill_arr, e_box, e_arr, AK.tmp, PV.killL, PV.kill, killE_at, newBox, initC, initA, ld, getBox, setBox, getArr, setArr, pickC, Option.map_some, Option.map_none, PV.upN, binP, binInt, binStr, binB, unP, cnd_true, cnd_false, cnd_dec, cnd_not, Nat.reduceEqDiff, not_false_eq_true, not_true_eq_false, reduceIte, reduceCtorEq, Nat.reduceAdd, Nat.zero_add, Nat.add_zero, Nat.reduceLeDiff, Nat.reduceSub, Nat.reduceMul, fin_ret, fin_nor, List.length_cons, List.length_nil, List.drop_succ_cons, List.drop_zero, List.take_succ_cons, List.take_zero, fillP, setAt, List.set_cons_zero, List.set_cons_succ, storeP, stCells, stCell, PV.dnN, PV.dn, PV.dnL, retOf, rdRes, retL, ret1, retV, hand, hand1, handL, handA, List.tail_cons, callP, List.append_nil, List.nil_append, List.any_cons, List.any_nil, PV.hasSl, PV.isSl, Bool.or_false, Bool.false_or, Bool.false_eq_true, if_false, slcP, slcGo, fullOf, idx, iaddrP, lenP, lenS, appendP, newArr, view, srcRows, bigRow, okA, eqCells, convP, slsP, gd_tb, gd_fb, List.cons_append, Option.getD_none, List.getElem?_nil, AK.slot.injEq, AK.cell.injEq, decide_true, decide_false, Bool.not_true, Bool.not_false, Option.isNone_none, Option.isSome_none, Option.isSome_some, Option.isNone_some, prep, Ac.kill, PV.int.injEq, beq_self_eq_true, decide_eq_true_eq, Bool.not_eq_true, decide_eq_false_iff_not, true_or, or_true, false_or, or_false, false_and, and_false, Bool.not_not, Classical.not_not, Bool.false_and, Bool.and_false, Bool.and_self, ite_self, PV.pure, PV.plain, PV.plainL, Ret.plain, allPure, List.isEmpty_nil, List.isEmpty_cons, Bool.or_true, Bool.true_or, Int.reduceEq, Int.reduceNe, Int.reduceLT, Int.reduceLE, Int.reduceAdd, Int.reduceSub, Int.reduceMul, Int.reduceNeg, Nat.reduceLT, Nat.reduceDiv]
  unfold reckonS
  repeat' (split <;> (try simp only [*, List.map_cons, List.map_nil, PV.up, PV.upL, E_seq, E_reg, E_block, E_cnd, E_skip, E_exit, E_ret, E_dreg, thC_nor, thC_ret, thC_ext, thC_pan, inBlk_ext, inBlk_nor, inBlk_ret, inBlk_pan, evOps_cons, evOps_nil, thOps_ok, thOps_pan, evD_cons, evD_nil, thD_tot, thD_same, List.tail_cons, stp_none, stp_some, gd_tt, gd_ff, gd_tf, gd_ft, gd_undef, gd_td, gd_fd, ex_v, vo_some, ex, vop, ev_t, ev_c, put_some, put_none, upd_same, upd_ne, updK_same, updK_ne, ne_eq, argE_at, List.getElem?_cons_zero, List.getElem?_cons_succ, Option.getD_some, PV.cells, List.all_cons, List.all_nil, PV.one, Bool.and_true, Bool.true_and, if_true, and_self, true_and, and_true, killS, kill_box, kill_arr, e_box, e_arr, AK.tmp, PV.killL, PV.kill, killE_at, newBox, initC, initA, ld, getBox, setBox, getArr, setArr, pickC, Option.map_some, Option.map_none, PV.upN, binP, binInt, binStr, binB, unP, cnd_true, cnd_false, cnd_dec, cnd_not, Nat.reduceEqDiff, not_false_eq_true, not_true_eq_false, reduceIte, reduceCtorEq, Nat.reduceAdd, Nat.zero_add, Nat.add_zero, Nat.reduceLeDiff, Nat.reduceSub, Nat.reduceMul, fin_ret, fin_nor, List.length_cons, List.length_nil, List.drop_succ_cons, List.drop_zero, List.take_succ_cons, List.take_zero, fillP, setAt, List.set_cons_zero, List.set_cons_succ, storeP, stCells, stCell, PV.dnN, PV.dn, PV.dnL, retOf, rdRes, retL, ret1, retV, hand, hand1, handL, handA, List.tail_cons, callP, List.append_nil, List.nil_append, List.any_cons, List.any_nil, PV.hasSl, PV.isSl, Bool.or_false, Bool.false_or, Bool.false_eq_true, if_false, slcP, slcGo, fullOf, idx, iaddrP, lenP, lenS, appendP, newArr, view, srcRows, bigRow, okA, eqCells, convP, slsP, gd_tb, gd_fb, List.cons_append, Option.getD_none, List.getElem?_nil, AK.slot.injEq, AK.cell.injEq, decide_true, decide_false, Bool.not_true, Bool.not_false, Option.isNone_none, Option.isSome_none, Option.isSome_some, Option.isNone_some, prep, Ac.kill, PV.int.injEq, beq_self_eq_true, decide_eq_true_eq, Bool.not_eq_true, decide_eq_false_iff_not, true_or, or_true, false_or, or_false, false_and, and_false, Bool.not_not, Classical.not_not, Bool.false_and, Bool.and_false, Bool.and_self, ite_self, PV.pure, PV.plain, PV.plainL, Ret.plain, allPure, List.isEmpty_nil, List.isEmpty_cons, Bool.or_true, Bool.true_or, Int.reduceEq, Int.reduceNe, Int.reduceLT, Int.reduceLE, Int.reduceAdd, Int.reduceSub, Int.reduceMul, Int.reduceNeg, Nat.reduceLT, Nat.reduceDiv]))
  all_goals (exfalso; simp_all)
/-- A number. -/
def nm (n : Int) : PV := .agg [.int .i64 1, .int .i64 n, .str [], .list 4 [] false]
/-- No value. -/
def no : PV := .agg [.int .i64 0, .int .i64 0, .str [], .list 4 [] false]

theorem Two_num (k a b : Int) (h1 : 19 ≤ k) (h2 : k ≤ 23) (S : Sto) : call SP 9 [.int .i64 k, nm a, nm b] S = .ok (.v (.tup [if (reckonS k a b).2 = 0 then nm (reckonS k a b).1 else no, .int .i64 (reckonS k a b).2])) S := by
  rw [call_code sp9 _ _ rfl]
  have e1 : ¬ k < 11 := by omega
  have e2 : ¬ 23 < k := by omega
  have e3 : ¬ k ≤ 12 := by omega
  have e4 : ¬ k = 13 := by omega
  have e5 : ¬ k = 14 := by omega
  have e6 : ¬ k ≤ 14 := by omega
  have e7 : ¬ k ≤ 18 := by omega
  simp only [sc9, ac0, nm, no, e1, e2, e3, e4, e5, e6, e7, reckon_ok, Int_ok, List.map_cons, List.map_nil, PV.up, PV.upL, E_seq, E_reg, E_block, E_cnd, E_skip, E_exit, E_ret, E_dreg, thC_nor, thC_ret, thC_ext, thC_pan, inBlk_ext, inBlk_nor, inBlk_ret, inBlk_pan, evOps_cons, evOps_nil, thOps_ok, thOps_pan, evD_cons, evD_nil, thD_tot, thD_same, List.tail_cons, stp_none, stp_some, gd_tt, gd_ff, gd_tf, gd_ft, gd_undef, gd_td, gd_fd, ex_v, vo_some, ex, vop, ev_t, ev_c, put_some, put_none, upd_same, upd_ne, updK_same, updK_ne, ne_eq, argE_at, List.getElem?_cons_zero, List.getElem?_cons_succ, Option.getD_some, PV.cells, List.all_cons, List.all_nil, PV.one, Bool.and_true, Bool.true_and, if_true, and_self, true_and, and_true, killS, kill_box, kill_arr, e_box, e_arr, AK.tmp, PV.killL, PV.kill, killE_at, newBox, initC, initA, ld, getBox, setBox, getArr, setArr, pickC, Option.map_some, Option.map_none, PV.upN, binP, binInt, binStr, binB, unP, cnd_true, cnd_false, cnd_dec, cnd_not, Nat.reduceEqDiff, not_false_eq_true, not_true_eq_false, reduceIte, reduceCtorEq, Nat.reduceAdd, Nat.zero_add, Nat.add_zero, Nat.reduceLeDiff, Nat.reduceSub, Nat.reduceMul, fin_ret, fin_nor, List.length_cons, List.length_nil, List.drop_succ_cons, List.drop_zero, List.take_succ_cons, List.take_zero, fillP, setAt, List.set_cons_zero, List.set_cons_succ, storeP, stCells, stCell, PV.dnN, PV.dn, PV.dnL, retOf, rdRes, retL, ret1, retV, hand, hand1, handL, handA, List.tail_cons, callP, List.append_nil, List.nil_append, List.any_cons, List.any_nil, PV.hasSl, PV.isSl, Bool.or_false, Bool.false_or, Bool.false_eq_true, if_false, slcP, slcGo, fullOf, idx, iaddrP, lenP, lenS, appendP, newArr, view, srcRows, bigRow, okA, eqCells, convP, slsP, gd_tb, gd_fb, List.cons_append, Option.getD_none, List.getElem?_nil, AK.slot.injEq, AK.cell.injEq, decide_true, decide_false, Bool.not_true, Bool.not_false, Option.isNone_none, Option.isSome_none, Option.isSome_some, Option.isNone_some, prep, Ac.kill, PV.int.injEq, beq_self_eq_true, decide_eq_true_eq, Bool.not_eq_true, decide_eq_false_iff_not, true_or, or_true, false_or, or_false, false_and, and_false, Bool.not_not, Classical.not_not, Bool.false_and, Bool.and_false, Bool.and_self, ite_self, PV.pure, PV.plain, PV.plainL, Ret.plain, allPure, List.isEmpty_nil, List.isEmpty_cons, Bool.or_true, Bool.true_or, Int.reduceEq, Int.reduceNe, Int.reduceLT, Int.reduceLE, Int.reduceAdd, Int.reduceSub, Int.reduceMul, Int.reduceNeg, Nat.reduceLT, Nat.reduceDiv]
  repeat' (split <;> (try simp only [*, reckon_ok, Int_ok, List.map_cons, List.map_nil, PV.up, PV.upL, E_seq, E_reg, E_block, E_cnd, E_skip, E_exit, E_ret, E_dreg, thC_nor, thC_ret, thC_ext, thC_pan, inBlk_ext, inBlk_nor, inBlk_ret, inBlk_pan, evOps_cons, evOps_nil, thOps_ok, thOps_pan, evD_cons, evD_nil, thD_tot, thD_same, List.tail_cons, stp_none, stp_some, gd_tt, gd_ff, gd_tf, gd_ft, gd_undef, gd_td, gd_fd, ex_v, vo_some, ex, vop, ev_t, ev_c, put_some, put_none, upd_same, upd_ne, updK_same, updK_ne, ne_eq, argE_at, List.getElem?_cons_zero, List.getElem?_cons_succ, Option.getD_some, PV.cells, List.all_cons, List.all_nil, PV.one, Bool.and_true, Bool.true_and, if_true, and_self, true_and, and_true, killS, kill_box, kill_arr, e_box, e_arr, AK.tmp, PV.killL, PV.kill, killE_at, newBox, initC, initA, ld, getBox, setBox, getArr, setArr, pickC, Option.map_some, Option.map_none, PV.upN, binP, binInt, binStr, binB, unP, cnd_true, cnd_false, cnd_dec, cnd_not, Nat.reduceEqDiff, not_false_eq_true, not_true_eq_false, reduceIte, reduceCtorEq, Nat.reduceAdd, Nat.zero_add, Nat.add_zero, Nat.reduceLeDiff, Nat.reduceSub, Nat.reduceMul, fin_ret, fin_nor, List.length_cons, List.length_nil, List.drop_succ_cons, List.drop_zero, List.take_succ_cons, List.take_zero, fillP, setAt, List.set_cons_zero, List.set_cons_succ, storeP, stCells, stCell, PV.dnN, PV.dn, PV.dnL, retOf, rdRes, retL, ret1, retV, hand, hand1, handL, handA, List.tail_cons, callP, List.append_nil, List.nil_append, List.any_cons, List.any_nil, PV.hasSl, PV.isSl, Bool.or_false, Bool.false_or, Bool.false_eq_true, if_false, slcP, slcGo, fullOf, idx, iaddrP, lenP, lenS, appendP, newArr, view, srcRows, bigRow, okA, eqCells, convP, slsP, gd_tb, gd_fb, List.cons_append, Option.getD_none, List.getElem?_nil, AK.slot.injEq, AK.cell.injEq, decide_true, decide_false, Bool.not_true, Bool.not_false, Option.isNone_none, Option.isSome_none, Option.isSome_some, Option.isNone_some, prep, Ac.kill, PV.int.injEq, beq_self_eq_true, decide_eq_true_eq, Bool.not_eq_true, decide_eq_false_iff_not, true_or, or_true, false_or, or_false, false_and, and_false, Bool.not_not, Classical.not_not, Bool.false_and, Bool.and_false, Bool.and_self, ite_self, PV.pure, PV.plain, PV.plainL, Ret.plain, allPure, List.isEmpty_nil, List.isEmpty_cons, Bool.or_true, Bool.true_or, Int.reduceEq, Int.reduceNe, Int.reduceLT, Int.reduceLE, Int.reduceAdd, Int.reduceSub, Int.reduceMul, Int.reduceNeg, Nat.reduceLT, Nat.reduceDiv]))
  all_goals (exfalso; simp_all)

theorem One_num (a : Int) (S : Sto) : call SP 11 [.int .i64 9, nm a] S = .ok (.v (.tup [if a = -9223372036854775808 then no else nm (IntKind.i64.wrap (0 - a)), .int .i64 (if a = -9223372036854775808 then 8 else 0)])) S := by
  rw [call_code sp11 _ _ rfl]
  simp only [sc11, ac0, nm, no, Int_ok, List.map_cons, List.map_nil, PV.up, PV.upL, E_seq, E_reg, E_block, E_cnd, E_skip, E_exit, E_ret, E_dreg, thC_nor, thC_ret, thC_ext, thC_pan, inBlk_ext, inBlk_nor, inBlk_ret, inBlk_pan, evOps_cons, evOps_nil, thOps_ok, thOps_pan, evD_cons, evD_nil, thD_tot, thD_same, List.tail_cons, stp_none, stp_some, gd_tt, gd_ff, gd_tf, gd_ft, gd_undef, gd_td, gd_fd, ex_v, vo_some, ex, vop, ev_t, ev_c, put_some, put_none, upd_same, upd_ne, updK_same, updK_ne, ne_eq, argE_at, List.getElem?_cons_zero, List.getElem?_cons_succ, Option.getD_some, PV.cells, List.all_cons, List.all_nil, PV.one, Bool.and_true, Bool.true_and, if_true, and_self, true_and, and_true, killS, kill_box, kill_arr, e_box, e_arr, AK.tmp, PV.killL, PV.kill, killE_at, newBox, initC, initA, ld, getBox, setBox, getArr, setArr, pickC, Option.map_some, Option.map_none, PV.upN, binP, binInt, binStr, binB, unP, cnd_true, cnd_false, cnd_dec, cnd_not, Nat.reduceEqDiff, not_false_eq_true, not_true_eq_false, reduceIte, reduceCtorEq, Nat.reduceAdd, Nat.zero_add, Nat.add_zero, Nat.reduceLeDiff, Nat.reduceSub, Nat.reduceMul, fin_ret, fin_nor, List.length_cons, List.length_nil, List.drop_succ_cons, List.drop_zero, List.take_succ_cons, List.take_zero, fillP, setAt, List.set_cons_zero, List.set_cons_succ, storeP, stCells, stCell, PV.dnN, PV.dn, PV.dnL, retOf, rdRes, retL, ret1, retV, hand, hand1, handL, handA, List.tail_cons, callP, List.append_nil, List.nil_append, List.any_cons, List.any_nil, PV.hasSl, PV.isSl, Bool.or_false, Bool.false_or, Bool.false_eq_true, if_false, slcP, slcGo, fullOf, idx, iaddrP, lenP, lenS, appendP, newArr, view, srcRows, bigRow, okA, eqCells, convP, slsP, gd_tb, gd_fb, List.cons_append, Option.getD_none, List.getElem?_nil, AK.slot.injEq, AK.cell.injEq, decide_true, decide_false, Bool.not_true, Bool.not_false, Option.isNone_none, Option.isSome_none, Option.isSome_some, Option.isNone_some, prep, Ac.kill, PV.int.injEq, beq_self_eq_true, decide_eq_true_eq, Bool.not_eq_true, decide_eq_false_iff_not, true_or, or_true, false_or, or_false, false_and, and_false, Bool.not_not, Classical.not_not, Bool.false_and, Bool.and_false, Bool.and_self, ite_self, PV.pure, PV.plain, PV.plainL, Ret.plain, allPure, List.isEmpty_nil, List.isEmpty_cons, Bool.or_true, Bool.true_or, Int.reduceEq, Int.reduceNe, Int.reduceLT, Int.reduceLE, Int.reduceAdd, Int.reduceSub, Int.reduceMul, Int.reduceNeg, Nat.reduceLT, Nat.reduceDiv]
  repeat' (split <;> (try simp only [*, Int_ok, List.map_cons, List.map_nil, PV.up, PV.upL, E_seq, E_reg, E_block, E_cnd, E_skip, E_exit, E_ret, E_dreg, thC_nor, thC_ret, thC_ext, thC_pan, inBlk_ext, inBlk_nor, inBlk_ret, inBlk_pan, evOps_cons, evOps_nil, thOps_ok, thOps_pan, evD_cons, evD_nil, thD_tot, thD_same, List.tail_cons, stp_none, stp_some, gd_tt, gd_ff, gd_tf, gd_ft, gd_undef, gd_td, gd_fd, ex_v, vo_some, ex, vop, ev_t, ev_c, put_some, put_none, upd_same, upd_ne, updK_same, updK_ne, ne_eq, argE_at, List.getElem?_cons_zero, List.getElem?_cons_succ, Option.getD_some, PV.cells, List.all_cons, List.all_nil, PV.one, Bool.and_true, Bool.true_and, if_true, and_self, true_and, and_true, killS, kill_box, kill_arr, e_box, e_arr, AK.tmp, PV.killL, PV.kill, killE_at, newBox, initC, initA, ld, getBox, setBox, getArr, setArr, pickC, Option.map_some, Option.map_none, PV.upN, binP, binInt, binStr, binB, unP, cnd_true, cnd_false, cnd_dec, cnd_not, Nat.reduceEqDiff, not_false_eq_true, not_true_eq_false, reduceIte, reduceCtorEq, Nat.reduceAdd, Nat.zero_add, Nat.add_zero, Nat.reduceLeDiff, Nat.reduceSub, Nat.reduceMul, fin_ret, fin_nor, List.length_cons, List.length_nil, List.drop_succ_cons, List.drop_zero, List.take_succ_cons, List.take_zero, fillP, setAt, List.set_cons_zero, List.set_cons_succ, storeP, stCells, stCell, PV.dnN, PV.dn, PV.dnL, retOf, rdRes, retL, ret1, retV, hand, hand1, handL, handA, List.tail_cons, callP, List.append_nil, List.nil_append, List.any_cons, List.any_nil, PV.hasSl, PV.isSl, Bool.or_false, Bool.false_or, Bool.false_eq_true, if_false, slcP, slcGo, fullOf, idx, iaddrP, lenP, lenS, appendP, newArr, view, srcRows, bigRow, okA, eqCells, convP, slsP, gd_tb, gd_fb, List.cons_append, Option.getD_none, List.getElem?_nil, AK.slot.injEq, AK.cell.injEq, decide_true, decide_false, Bool.not_true, Bool.not_false, Option.isNone_none, Option.isSome_none, Option.isSome_some, Option.isNone_some, prep, Ac.kill, PV.int.injEq, beq_self_eq_true, decide_eq_true_eq, Bool.not_eq_true, decide_eq_false_iff_not, true_or, or_true, false_or, or_false, false_and, and_false, Bool.not_not, Classical.not_not, Bool.false_and, Bool.and_false, Bool.and_self, ite_self, PV.pure, PV.plain, PV.plainL, Ret.plain, allPure, List.isEmpty_nil, List.isEmpty_cons, Bool.or_true, Bool.true_or, Int.reduceEq, Int.reduceNe, Int.reduceLT, Int.reduceLE, Int.reduceAdd, Int.reduceSub, Int.reduceMul, Int.reduceNeg, Nat.reduceLT, Nat.reduceDiv]))

theorem awake_ok (S : Sto) : call SP 7 [] S = .ok (.v (.bool true)) S := by
  rw [call_code sp7 _ _ rfl]
  have h : reckonS 19 1 2 = (3, 0) := by decide +kernel
  have := Two_num 19 1 2 (by decide) (by decide)
  simp only [h, nm] at this
  simp only [sc7, ac0, this, Num_ok, List.map_cons, List.map_nil, PV.up, PV.upL, E_seq, E_reg, E_block, E_cnd, E_skip, E_exit, E_ret, E_dreg, thC_nor, thC_ret, thC_ext, thC_pan, inBlk_ext, inBlk_nor, inBlk_ret, inBlk_pan, evOps_cons, evOps_nil, thOps_ok, thOps_pan, evD_cons, evD_nil, thD_tot, thD_same, List.tail_cons, stp_none, stp_some, gd_tt, gd_ff, gd_tf, gd_ft, gd_undef, gd_td, gd_fd, ex_v, vo_some, ex, vop, ev_t, ev_c, put_some, put_none, upd_same, upd_ne, updK_same, updK_ne, ne_eq, argE_at, List.getElem?_cons_zero, List.getElem?_cons_succ, Option.getD_some, PV.cells, List.all_cons, List.all_nil, PV.one, Bool.and_true, Bool.true_and, if_true, and_self, true_and, and_true, killS, kill_box, kill_arr, e_box, e_arr, AK.tmp, PV.killL, PV.kill, killE_at, newBox, initC, initA, ld, getBox, setBox, getArr, setArr, pickC, Option.map_some, Option.map_none, PV.upN, binP, binInt, binStr, binB, unP, cnd_true, cnd_false, cnd_dec, cnd_not, Nat.reduceEqDiff, not_false_eq_true, not_true_eq_false, reduceIte, reduceCtorEq, Nat.reduceAdd, Nat.zero_add, Nat.add_zero, Nat.reduceLeDiff, Nat.reduceSub, Nat.reduceMul, fin_ret, fin_nor, List.length_cons, List.length_nil, List.drop_succ_cons, List.drop_zero, List.take_succ_cons, List.take_zero, fillP, setAt, List.set_cons_zero, List.set_cons_succ, storeP, stCells, stCell, PV.dnN, PV.dn, PV.dnL, retOf, rdRes, retL, ret1, retV, hand, hand1, handL, handA, List.tail_cons, callP, List.append_nil, List.nil_append, List.any_cons, List.any_nil, PV.hasSl, PV.isSl, Bool.or_false, Bool.false_or, Bool.false_eq_true, if_false, slcP, slcGo, fullOf, idx, iaddrP, lenP, lenS, appendP, newArr, view, srcRows, bigRow, okA, eqCells, convP, slsP, gd_tb, gd_fb, List.cons_append, Option.getD_none, List.getElem?_nil, AK.slot.injEq, AK.cell.injEq, decide_true, decide_false, Bool.not_true, Bool.not_false, Option.isNone_none, Option.isSome_none, Option.isSome_some, Option.isNone_some, prep, Ac.kill, PV.int.injEq, beq_self_eq_true, decide_eq_true_eq, Bool.not_eq_true, decide_eq_false_iff_not, true_or, or_true, false_or, or_false, false_and, and_false, Bool.not_not, Classical.not_not, Bool.false_and, Bool.and_false, Bool.and_self, ite_self, PV.pure, PV.plain, PV.plainL, Ret.plain, allPure, List.isEmpty_nil, List.isEmpty_cons, Bool.or_true, Bool.true_or, Int.reduceEq, Int.reduceNe, Int.reduceLT, Int.reduceLE, Int.reduceAdd, Int.reduceSub, Int.reduceMul, Int.reduceNeg, Nat.reduceLT, Nat.reduceDiv]
end Go.Proofs.Ytebflncfgjnkkaa.M

/- THE ABSTRACT MACHINE, thirty-sixth part: words for loops. -/
namespace Go.Proofs.Ytebflncfgjnkkaa.M
set_option linter.unusedSimpArgs false
set_option linter.unusedVariables false
open Go Classical
/-- It leaves block id, so. -/
def IsExt (id : Nat) (Φ : (Nat → PV) → Sto → Prop) : EO → Prop
  | .ext i ac => i = id ∧ Φ ac.e ac.S
  | _ => False
theorem IsExt.elim {id : Nat} {Φ : (Nat → PV) → Sto → Prop} {r : EO} (h : IsExt id Φ r) : ∃ e S, r = .ext id ⟨e, S⟩ ∧ Φ e S := by
  cases r with
  | ext i ac => obtain ⟨rfl, h⟩ := h; exact ⟨ac.e, ac.S, rfl, h⟩
  | _ => exact False.elim h
theorem IsExt.mono {id : Nat} {Φ Ψ : (Nat → PV) → Sto → Prop} {r : EO} (h : IsExt id Φ r) (hi : ∀ e S, Φ e S → Ψ e S) : IsExt id Ψ r := by
  cases r with
  | ext i ac => exact ⟨h.1, hi _ _ h.2⟩
  | _ => exact False.elim h
theorem isExt_ext {id i : Nat} {Φ : (Nat → PV) → Sto → Prop} {ac : Ac} (h : i = id) (h2 : Φ ac.e ac.S) : IsExt id Φ (.ext i ac) := ⟨h, h2⟩
/-- It returns, so. -/
def IsRet (Φ : (Nat → PV) → Sto → Prop) : EO → Prop
  | .ret ac => Φ ac.e ac.S
  | _ => False
theorem IsRet.elim {Φ : (Nat → PV) → Sto → Prop} {r : EO} (h : IsRet Φ r) : ∃ e S, r = .ret ⟨e, S⟩ ∧ Φ e S := by
  cases r with
  | ret ac => exact ⟨ac.e, ac.S, rfl, h⟩
  | _ => exact False.elim h
/-- It runs through, so. -/
def IsNor (Φ : (Nat → PV) → Sto → Prop) : EO → Prop
  | .nor ac => Φ ac.e ac.S
  | _ => False
theorem IsNor.elim {Φ : (Nat → PV) → Sto → Prop} {r : EO} (h : IsNor Φ r) : ∃ e S, r = .nor ⟨e, S⟩ ∧ Φ e S := by
  cases r with
  | nor ac => exact ⟨ac.e, ac.S, rfl, h⟩
  | _ => exact False.elim h
theorem nat_nonneg (n : Nat) : (0 : Int) ≤ (n : Int) := Int.natCast_nonneg n
theorem wrap_i64 {x : Int} (h1 : -9223372036854775808 ≤ x) (h2 : x ≤ 9223372036854775807) : IntKind.i64.wrap x = x := by
  simp only [IntKind.wrap, IntKind.min, IntKind.max, IntKind.signed, IntKind.bits]
  simp
  omega
end Go.Proofs.Ytebflncfgjnkkaa.M

/- Values within values: how deep. -/
namespace Go.Proofs.Ytebflncfgjnkkaa.M
set_option linter.unusedSimpArgs false
set_option linter.unusedVariables false
open Go Classical
/-- A value of package api. -/
inductive V where
  | mk (k n : Int) (s : List UInt8) (l : List V)
def V.k : V → Int | .mk k _ _ _ => k
def V.n : V → Int | .mk _ n _ _ => n
def V.s : V → List UInt8 | .mk _ _ s _ => s
def V.l : V → List V | .mk _ _ _ l => l
mutual
def enc : V → List PV
  | .mk k n s l => [.int .i64 k, .int .i64 n, .str s, .list 4 (encL l) false]
def encL : List V → List (List PV)
  | [] => []
  | v :: vs => enc v :: encL vs
end
mutual
def deep : V → Nat
  | .mk k _ _ l => if k = 4 then 1 + deepL l else 0
def deepL : List V → Nat
  | [] => 0
  | v :: vs => max (deep v) (deepL vs)
end
theorem encL_length : ∀ vs : List V, (encL vs).length = vs.length
  | [] => by simp [encL]
  | v :: vs => by simp [encL, encL_length vs]
theorem encL_get : ∀ (vs : List V) (i : Nat), (encL vs)[i]? = (vs[i]?).map enc
  | [], i => by simp [encL]
  | v :: vs, 0 => by simp [encL]
  | v :: vs, i + 1 => by simp [encL, encL_get vs i]
theorem sp26 : SP 26 = some (.code sc26) := SPof_code rfl Try.func26 comp26
theorem deep_get {vs : List V} {i : Nat} {v : V} (h : vs[i]? = some v) : deep v ≤ deepL vs := by
  induction vs generalizing i with
  | nil => simp at h
  | cons u vs ih =>
    cases i with
    | zero => simp at h; subst h; simp only [deepL]; omega
    | succ i => have := ih (i := i) (by simpa using h); simp only [deepL]; omega
theorem deepL_drop {vs : List V} {i : Nat} {v : V} (h : vs[i]? = some v) : deepL (vs.drop i) = max (deep v) (deepL (vs.drop (i + 1))) := by
  have hlt := (List.getElem?_eq_some_iff.1 h).1
  rw [List.drop_eq_getElem_cons hlt]
  have : vs[i] = v := (List.getElem?_eq_some_iff.1 h).2
  rw [this]
  rfl
theorem size_get {vs : List V} {i : Nat} {v : V} (h : vs[i]? = some v) : SizeOf.sizeOf v.l < SizeOf.sizeOf vs := by
  have h1 := List.sizeOf_lt_of_mem (List.mem_of_getElem? h)
  have h2 : SizeOf.sizeOf v.l < SizeOf.sizeOf v := by
    cases v
    simp [V.l]
    omega
  omega
theorem enc_eq (v : V) : enc v = [.int .i64 v.k, .int .i64 v.n, .str v.s, .list 4 (encL v.l) false] := by cases v; simp [enc, V.k, V.n, V.s, V.l]
theorem deep_eq (v : V) : deep v = if v.k = 4 then 1 + deepL v.l else 0 := by
  cases v
  simp only [deep, V.k, V.l]
  congr
mutual
/-- No row is too long. -/
def small : V → Prop
  | .mk _ _ _ l => l.length < 4611686018427387904 ∧ smallA l
def smallA : List V → Prop
  | [] => True
  | v :: vs => small v ∧ smallA vs
end
def smallL (vs : List V) : Prop := vs.length < 4611686018427387904 ∧ smallA vs
theorem smallL_length {vs : List V} (h : smallL vs) : vs.length < 4611686018427387904 := h.1
theorem smallA_mem {vs : List V} (h : smallA vs) : ∀ v ∈ vs, small v := by
  induction vs with
  | nil => intro v hv; cases hv
  | cons u vs ih =>
    intro v hv
    simp only [smallA] at h
    rcases List.mem_cons.1 hv with rfl | hv
    · exact h.1
    · exact ih h.2 v hv
theorem smallL_in {vs : List V} (h : smallL vs) : ∀ v ∈ vs, smallL v.l := by
  intro v hv
  have := smallA_mem h.2 v hv
  cases v
  simp only [small] at this
  exact this
def b26 : SC := match sc26.code with | .seq _ (.seq _ (.seq (.seq _ (.block _ (.loop b))) _)) => b | _ => .skip
theorem deep_ok (vs : List V) (hb : deepL vs < 4611686018427387904) (hs : smallL vs)  (S : Sto) : call SP 26 [.list 4 (encL vs) false] S = .ok (.v (.int .i64 (deepL vs))) S := by
  have hl := smallL_length hs
  have hll : ∀ v ∈ vs, smallL v.l := smallL_in hs
  have loop : ∀ (k i : Nat), i + k = vs.length → ∀ (e : Nat → PV) (f : Fr) (m : Nat), e 6 = .list 4 (encL vs) false → e 7 = .int .i64 vs.length → e 8 = .int .i64 i → e 3 = .int .i64 m →
      IsExt 0 (fun e' S' => e' 3 = .int .i64 (max m (deepL (vs.drop i)) : Nat) ∧ ∃ f', S' = f' :: S) (E SP (.loop b26) ⟨e, f :: S⟩) := by
    intro k
    induction k with
    | zero =>
      intro i hi e f m h6 h7 h8 h3
      have hlt : ¬ (i : Int) < (vs.length : Int) := by omega
      rw [E_loop]
      simp only [b26, sc26, h6, h7, h8, h3, hlt, List.map_cons, List.map_nil, PV.up, PV.upL, E_seq, E_reg, E_block, E_cnd, E_skip, E_exit, E_ret, E_dreg, thC_nor, thC_ret, thC_ext, thC_pan, inBlk_ext, inBlk_nor, inBlk_ret, inBlk_pan, evOps_cons, evOps_nil, thOps_ok, thOps_pan, evD_cons, evD_nil, thD_tot, thD_same, List.tail_cons, stp_none, stp_some, gd_tt, gd_ff, gd_tf, gd_ft, gd_undef, gd_td, gd_fd, ex_v, vo_some, ex, vop, ev_t, ev_c, put_some, put_none, upd_same, upd_ne, updK_same, updK_ne, ne_eq, argE_at, List.getElem?_cons_zero, List.getElem?_cons_succ, Option.getD_some, PV.cells, List.all_cons, List.all_nil, PV.one, Bool.and_true, Bool.true_and, if_true, and_self, true_and, and_true, killS, kill_box, kill_arr, e_box, e_arr, AK.tmp, PV.killL, PV.kill, killE_at, newBox, initC, initA, ld, getBox, setBox, getArr, setArr, pickC, Option.map_some, Option.map_none, PV.upN, binP, binInt, binStr, binB, unP, cnd_true, cnd_false, cnd_dec, cnd_not, Nat.reduceEqDiff, not_false_eq_true, not_true_eq_false, reduceIte, reduceCtorEq, Nat.reduceAdd, Nat.zero_add, Nat.add_zero, Nat.reduceLeDiff, Nat.reduceSub, Nat.reduceMul, fin_ret, fin_nor, List.length_cons, List.length_nil, List.drop_succ_cons, List.drop_zero, List.take_succ_cons, List.take_zero, fillP, setAt, List.set_cons_zero, List.set_cons_succ, storeP, stCells, stCell, PV.dnN, PV.dn, PV.dnL, retOf, rdRes, retL, ret1, retV, hand, hand1, handL, handA, List.tail_cons, callP, List.append_nil, List.nil_append, List.any_cons, List.any_nil, PV.hasSl, PV.isSl, Bool.or_false, Bool.false_or, Bool.false_eq_true, if_false, slcP, slcGo, fullOf, idx, iaddrP, lenP, lenS, appendP, newArr, view, srcRows, bigRow, okA, eqCells, convP, slsP, gd_tb, gd_fb, List.cons_append, Option.getD_none, List.getElem?_nil, AK.slot.injEq, AK.cell.injEq, decide_true, decide_false, Bool.not_true, Bool.not_false, Option.isNone_none, Option.isSome_none, Option.isSome_some, Option.isNone_some, prep, Ac.kill, PV.int.injEq, beq_self_eq_true, decide_eq_true_eq, Bool.not_eq_true, decide_eq_false_iff_not, true_or, or_true, false_or, or_false, false_and, and_false, Bool.not_not, Classical.not_not, Bool.false_and, Bool.and_false, Bool.and_self, ite_self, PV.pure, PV.plain, PV.plainL, Ret.plain, allPure, List.isEmpty_nil, List.isEmpty_cons, Bool.or_true, Bool.true_or, Int.reduceEq, Int.reduceNe, Int.reduceLT, Int.reduceLE, Int.reduceAdd, Int.reduceSub, Int.reduceMul, Int.reduceNeg, Nat.reduceLT, Nat.reduceDiv]
      refine ⟨rfl, ?_, _, rfl⟩
      have : vs.drop i = [] := List.drop_eq_nil_of_le (by omega)
      simp [this, deepL, upd, h3]
    | succ k ih =>
      intro i hi e f m h6 h7 h8 h3
      have hlt : (i : Int) < (vs.length : Int) := by omega
      have hi' : i < vs.length := by omega
      have hget : vs[i]? = some vs[i] := List.getElem?_eq_getElem hi'
      have hrow : (encL vs)[i]? = some (enc vs[i]) := by rw [encL_get, hget]; rfl
      rw [enc_eq] at hrow
      have hdg := deep_get hget
      rw [deep_eq] at hdg
      have hdd := deepL_drop hget
      rw [deep_eq] at hdd
      have w1 : IntKind.i64.wrap ((i : Int) + 1) = ((i + 1 : Nat) : Int) := by rw [wrap_i64 (by omega) (by omega)]; omega
      by_cases h4 : vs[i].k = 4
      · rw [if_pos h4] at hdg hdd
        have hrec := deep_ok vs[i].l (by omega) (hll _ (List.mem_of_getElem? hget))
        have w2 : IntKind.i64.wrap (1 + (deepL vs[i].l : Int)) = ((1 + deepL vs[i].l : Nat) : Int) := by rw [wrap_i64 (by omega) (by omega)]; omega
        rw [E_loop]
        simp only [b26, sc26] at ih ⊢
        simp only [h4] at hrow
        simp only [h6, h7, h8, h3, hlt, hrow, hrec, h4, nat_nonneg, Int.toNat_natCast, w1, w2, List.map_cons, List.map_nil, PV.up, PV.upL, E_seq, E_reg, E_block, E_cnd, E_skip, E_exit, E_ret, E_dreg, thC_nor, thC_ret, thC_ext, thC_pan, inBlk_ext, inBlk_nor, inBlk_ret, inBlk_pan, evOps_cons, evOps_nil, thOps_ok, thOps_pan, evD_cons, evD_nil, thD_tot, thD_same, List.tail_cons, stp_none, stp_some, gd_tt, gd_ff, gd_tf, gd_ft, gd_undef, gd_td, gd_fd, ex_v, vo_some, ex, vop, ev_t, ev_c, put_some, put_none, upd_same, upd_ne, updK_same, updK_ne, ne_eq, argE_at, List.getElem?_cons_zero, List.getElem?_cons_succ, Option.getD_some, PV.cells, List.all_cons, List.all_nil, PV.one, Bool.and_true, Bool.true_and, if_true, and_self, true_and, and_true, killS, kill_box, kill_arr, e_box, e_arr, AK.tmp, PV.killL, PV.kill, killE_at, newBox, initC, initA, ld, getBox, setBox, getArr, setArr, pickC, Option.map_some, Option.map_none, PV.upN, binP, binInt, binStr, binB, unP, cnd_true, cnd_false, cnd_dec, cnd_not, Nat.reduceEqDiff, not_false_eq_true, not_true_eq_false, reduceIte, reduceCtorEq, Nat.reduceAdd, Nat.zero_add, Nat.add_zero, Nat.reduceLeDiff, Nat.reduceSub, Nat.reduceMul, fin_ret, fin_nor, List.length_cons, List.length_nil, List.drop_succ_cons, List.drop_zero, List.take_succ_cons, List.take_zero, fillP, setAt, List.set_cons_zero, List.set_cons_succ, storeP, stCells, stCell, PV.dnN, PV.dn, PV.dnL, retOf, rdRes, retL, ret1, retV, hand, hand1, handL, handA, List.tail_cons, callP, List.append_nil, List.nil_append, List.any_cons, List.any_nil, PV.hasSl, PV.isSl, Bool.or_false, Bool.false_or, Bool.false_eq_true, if_false, slcP, slcGo, fullOf, idx, iaddrP, lenP, lenS, appendP, newArr, view, srcRows, bigRow, okA, eqCells, convP, slsP, gd_tb, gd_fb, List.cons_append, Option.getD_none, List.getElem?_nil, AK.slot.injEq, AK.cell.injEq, decide_true, decide_false, Bool.not_true, Bool.not_false, Option.isNone_none, Option.isSome_none, Option.isSome_some, Option.isNone_some, prep, Ac.kill, PV.int.injEq, beq_self_eq_true, decide_eq_true_eq, Bool.not_eq_true, decide_eq_false_iff_not, true_or, or_true, false_or, or_false, false_and, and_false, Bool.not_not, Classical.not_not, Bool.false_and, Bool.and_false, Bool.and_self, ite_self, PV.pure, PV.plain, PV.plainL, Ret.plain, allPure, List.isEmpty_nil, List.isEmpty_cons, Bool.or_true, Bool.true_or, Int.reduceEq, Int.reduceNe, Int.reduceLT, Int.reduceLE, Int.reduceAdd, Int.reduceSub, Int.reduceMul, Int.reduceNeg, Nat.reduceLT, Nat.reduceDiv]
        refine IsExt.mono (ih (i + 1) (by omega) _ _ (max m (1 + deepL vs[i].l)) ?_ ?_ ?_ ?_) ?_
        · simp only [h6, List.map_cons, List.map_nil, PV.up, PV.upL, E_seq, E_reg, E_block, E_cnd, E_skip, E_exit, E_ret, E_dreg, thC_nor, thC_ret, thC_ext, thC_pan, inBlk_ext, inBlk_nor, inBlk_ret, inBlk_pan, evOps_cons, evOps_nil, thOps_ok, thOps_pan, evD_cons, evD_nil, thD_tot, thD_same, List.tail_cons, stp_none, stp_some, gd_tt, gd_ff, gd_tf, gd_ft, gd_undef, gd_td, gd_fd, ex_v, vo_some, ex, vop, ev_t, ev_c, put_some, put_none, upd_same, upd_ne, updK_same, updK_ne, ne_eq, argE_at, List.getElem?_cons_zero, List.getElem?_cons_succ, Option.getD_some, PV.cells, List.all_cons, List.all_nil, PV.one, Bool.and_true, Bool.true_and, if_true, and_self, true_and, and_true, killS, kill_box, kill_arr, e_box, e_arr, AK.tmp, PV.killL, PV.kill, killE_at, newBox, initC, initA, ld, getBox, setBox, getArr, setArr, pickC, Option.map_some, Option.map_none, PV.upN, binP, binInt, binStr, binB, unP, cnd_true, cnd_false, cnd_dec, cnd_not, Nat.reduceEqDiff, not_false_eq_true, not_true_eq_false, reduceIte, reduceCtorEq, Nat.reduceAdd, Nat.zero_add, Nat.add_zero, Nat.reduceLeDiff, Nat.reduceSub, Nat.reduceMul, fin_ret, fin_nor, List.length_cons, List.length_nil, List.drop_succ_cons, List.drop_zero, List.take_succ_cons, List.take_zero, fillP, setAt, List.set_cons_zero, List.set_cons_succ, storeP, stCells, stCell, PV.dnN, PV.dn, PV.dnL, retOf, rdRes, retL, ret1, retV, hand, hand1, handL, handA, List.tail_cons, callP, List.append_nil, List.nil_append, List.any_cons, List.any_nil, PV.hasSl, PV.isSl, Bool.or_false, Bool.false_or, Bool.false_eq_true, if_false, slcP, slcGo, fullOf, idx, iaddrP, lenP, lenS, appendP, newArr, view, srcRows, bigRow, okA, eqCells, convP, slsP, gd_tb, gd_fb, List.cons_append, Option.getD_none, List.getElem?_nil, AK.slot.injEq, AK.cell.injEq, decide_true, decide_false, Bool.not_true, Bool.not_false, Option.isNone_none, Option.isSome_none, Option.isSome_some, Option.isNone_some, prep, Ac.kill, PV.int.injEq, beq_self_eq_true, decide_eq_true_eq, Bool.not_eq_true, decide_eq_false_iff_not, true_or, or_true, false_or, or_false, false_and, and_false, Bool.not_not, Classical.not_not, Bool.false_and, Bool.and_false, Bool.and_self, ite_self, PV.pure, PV.plain, PV.plainL, Ret.plain, allPure, List.isEmpty_nil, List.isEmpty_cons, Bool.or_true, Bool.true_or, Int.reduceEq, Int.reduceNe, Int.reduceLT, Int.reduceLE, Int.reduceAdd, Int.reduceSub, Int.reduceMul, Int.reduceNeg, Nat.reduceLT, Nat.reduceDiv]
        · simp only [h7, List.map_cons, List.map_nil, PV.up, PV.upL, E_seq, E_reg, E_block, E_cnd, E_skip, E_exit, E_ret, E_dreg, thC_nor, thC_ret, thC_ext, thC_pan, inBlk_ext, inBlk_nor, inBlk_ret, inBlk_pan, evOps_cons, evOps_nil, thOps_ok, thOps_pan, evD_cons, evD_nil, thD_tot, thD_same, List.tail_cons, stp_none, stp_some, gd_tt, gd_ff, gd_tf, gd_ft, gd_undef, gd_td, gd_fd, ex_v, vo_some, ex, vop, ev_t, ev_c, put_some, put_none, upd_same, upd_ne, updK_same, updK_ne, ne_eq, argE_at, List.getElem?_cons_zero, List.getElem?_cons_succ, Option.getD_some, PV.cells, List.all_cons, List.all_nil, PV.one, Bool.and_true, Bool.true_and, if_true, and_self, true_and, and_true, killS, kill_box, kill_arr, e_box, e_arr, AK.tmp, PV.killL, PV.kill, killE_at, newBox, initC, initA, ld, getBox, setBox, getArr, setArr, pickC, Option.map_some, Option.map_none, PV.upN, binP, binInt, binStr, binB, unP, cnd_true, cnd_false, cnd_dec, cnd_not, Nat.reduceEqDiff, not_false_eq_true, not_true_eq_false, reduceIte, reduceCtorEq, Nat.reduceAdd, Nat.zero_add, Nat.add_zero, Nat.reduceLeDiff, Nat.reduceSub, Nat.reduceMul, fin_ret, fin_nor, List.length_cons, List.length_nil, List.drop_succ_cons, List.drop_zero, List.take_succ_cons, List.take_zero, fillP, setAt, List.set_cons_zero, List.set_cons_succ, storeP, stCells, stCell, PV.dnN, PV.dn, PV.dnL, retOf, rdRes, retL, ret1, retV, hand, hand1, handL, handA, List.tail_cons, callP, List.append_nil, List.nil_append, List.any_cons, List.any_nil, PV.hasSl, PV.isSl, Bool.or_false, Bool.false_or, Bool.false_eq_true, if_false, slcP, slcGo, fullOf, idx, iaddrP, lenP, lenS, appendP, newArr, view, srcRows, bigRow, okA, eqCells, convP, slsP, gd_tb, gd_fb, List.cons_append, Option.getD_none, List.getElem?_nil, AK.slot.injEq, AK.cell.injEq, decide_true, decide_false, Bool.not_true, Bool.not_false, Option.isNone_none, Option.isSome_none, Option.isSome_some, Option.isNone_some, prep, Ac.kill, PV.int.injEq, beq_self_eq_true, decide_eq_true_eq, Bool.not_eq_true, decide_eq_false_iff_not, true_or, or_true, false_or, or_false, false_and, and_false, Bool.not_not, Classical.not_not, Bool.false_and, Bool.and_false, Bool.and_self, ite_self, PV.pure, PV.plain, PV.plainL, Ret.plain, allPure, List.isEmpty_nil, List.isEmpty_cons, Bool.or_true, Bool.true_or, Int.reduceEq, Int.reduceNe, Int.reduceLT, Int.reduceLE, Int.reduceAdd, Int.reduceSub, Int.reduceMul, Int.reduceNeg, Nat.reduceLT, Nat.reduceDiv]
        · simp only [List.map_cons, List.map_nil, PV.up, PV.upL, E_seq, E_reg, E_block, E_cnd, E_skip, E_exit, E_ret, E_dreg, thC_nor, thC_ret, thC_ext, thC_pan, inBlk_ext, inBlk_nor, inBlk_ret, inBlk_pan, evOps_cons, evOps_nil, thOps_ok, thOps_pan, evD_cons, evD_nil, thD_tot, thD_same, List.tail_cons, stp_none, stp_some, gd_tt, gd_ff, gd_tf, gd_ft, gd_undef, gd_td, gd_fd, ex_v, vo_some, ex, vop, ev_t, ev_c, put_some, put_none, upd_same, upd_ne, updK_same, updK_ne, ne_eq, argE_at, List.getElem?_cons_zero, List.getElem?_cons_succ, Option.getD_some, PV.cells, List.all_cons, List.all_nil, PV.one, Bool.and_true, Bool.true_and, if_true, and_self, true_and, and_true, killS, kill_box, kill_arr, e_box, e_arr, AK.tmp, PV.killL, PV.kill, killE_at, newBox, initC, initA, ld, getBox, setBox, getArr, setArr, pickC, Option.map_some, Option.map_none, PV.upN, binP, binInt, binStr, binB, unP, cnd_true, cnd_false, cnd_dec, cnd_not, Nat.reduceEqDiff, not_false_eq_true, not_true_eq_false, reduceIte, reduceCtorEq, Nat.reduceAdd, Nat.zero_add, Nat.add_zero, Nat.reduceLeDiff, Nat.reduceSub, Nat.reduceMul, fin_ret, fin_nor, List.length_cons, List.length_nil, List.drop_succ_cons, List.drop_zero, List.take_succ_cons, List.take_zero, fillP, setAt, List.set_cons_zero, List.set_cons_succ, storeP, stCells, stCell, PV.dnN, PV.dn, PV.dnL, retOf, rdRes, retL, ret1, retV, hand, hand1, handL, handA, List.tail_cons, callP, List.append_nil, List.nil_append, List.any_cons, List.any_nil, PV.hasSl, PV.isSl, Bool.or_false, Bool.false_or, Bool.false_eq_true, if_false, slcP, slcGo, fullOf, idx, iaddrP, lenP, lenS, appendP, newArr, view, srcRows, bigRow, okA, eqCells, convP, slsP, gd_tb, gd_fb, List.cons_append, Option.getD_none, List.getElem?_nil, AK.slot.injEq, AK.cell.injEq, decide_true, decide_false, Bool.not_true, Bool.not_false, Option.isNone_none, Option.isSome_none, Option.isSome_some, Option.isNone_some, prep, Ac.kill, PV.int.injEq, beq_self_eq_true, decide_eq_true_eq, Bool.not_eq_true, decide_eq_false_iff_not, true_or, or_true, false_or, or_false, false_and, and_false, Bool.not_not, Classical.not_not, Bool.false_and, Bool.and_false, Bool.and_self, ite_self, PV.pure, PV.plain, PV.plainL, Ret.plain, allPure, List.isEmpty_nil, List.isEmpty_cons, Bool.or_true, Bool.true_or, Int.reduceEq, Int.reduceNe, Int.reduceLT, Int.reduceLE, Int.reduceAdd, Int.reduceSub, Int.reduceMul, Int.reduceNeg, Nat.reduceLT, Nat.reduceDiv]
        · simp only [List.map_cons, List.map_nil, PV.up, PV.upL, E_seq, E_reg, E_block, E_cnd, E_skip, E_exit, E_ret, E_dreg, thC_nor, thC_ret, thC_ext, thC_pan, inBlk_ext, inBlk_nor, inBlk_ret, inBlk_pan, evOps_cons, evOps_nil, thOps_ok, thOps_pan, evD_cons, evD_nil, thD_tot, thD_same, List.tail_cons, stp_none, stp_some, gd_tt, gd_ff, gd_tf, gd_ft, gd_undef, gd_td, gd_fd, ex_v, vo_some, ex, vop, ev_t, ev_c, put_some, put_none, upd_same, upd_ne, updK_same, updK_ne, ne_eq, argE_at, List.getElem?_cons_zero, List.getElem?_cons_succ, Option.getD_some, PV.cells, List.all_cons, List.all_nil, PV.one, Bool.and_true, Bool.true_and, if_true, and_self, true_and, and_true, killS, kill_box, kill_arr, e_box, e_arr, AK.tmp, PV.killL, PV.kill, killE_at, newBox, initC, initA, ld, getBox, setBox, getArr, setArr, pickC, Option.map_some, Option.map_none, PV.upN, binP, binInt, binStr, binB, unP, cnd_true, cnd_false, cnd_dec, cnd_not, Nat.reduceEqDiff, not_false_eq_true, not_true_eq_false, reduceIte, reduceCtorEq, Nat.reduceAdd, Nat.zero_add, Nat.add_zero, Nat.reduceLeDiff, Nat.reduceSub, Nat.reduceMul, fin_ret, fin_nor, List.length_cons, List.length_nil, List.drop_succ_cons, List.drop_zero, List.take_succ_cons, List.take_zero, fillP, setAt, List.set_cons_zero, List.set_cons_succ, storeP, stCells, stCell, PV.dnN, PV.dn, PV.dnL, retOf, rdRes, retL, ret1, retV, hand, hand1, handL, handA, List.tail_cons, callP, List.append_nil, List.nil_append, List.any_cons, List.any_nil, PV.hasSl, PV.isSl, Bool.or_false, Bool.false_or, Bool.false_eq_true, if_false, slcP, slcGo, fullOf, idx, iaddrP, lenP, lenS, appendP, newArr, view, srcRows, bigRow, okA, eqCells, convP, slsP, gd_tb, gd_fb, List.cons_append, Option.getD_none, List.getElem?_nil, AK.slot.injEq, AK.cell.injEq, decide_true, decide_false, Bool.not_true, Bool.not_false, Option.isNone_none, Option.isSome_none, Option.isSome_some, Option.isNone_some, prep, Ac.kill, PV.int.injEq, beq_self_eq_true, decide_eq_true_eq, Bool.not_eq_true, decide_eq_false_iff_not, true_or, or_true, false_or, or_false, false_and, and_false, Bool.not_not, Classical.not_not, Bool.false_and, Bool.and_false, Bool.and_self, ite_self, PV.pure, PV.plain, PV.plainL, Ret.plain, allPure, List.isEmpty_nil, List.isEmpty_cons, Bool.or_true, Bool.true_or, Int.reduceEq, Int.reduceNe, Int.reduceLT, Int.reduceLE, Int.reduceAdd, Int.reduceSub, Int.reduceMul, Int.reduceNeg, Nat.reduceLT, Nat.reduceDiv]
          congr 1
          split <;> omega
        · rintro e' S' ⟨h, f', h'⟩
          refine ⟨?_, f', h'⟩
          rw [h, hdd]
          congr 2
          omega
      · rw [if_neg h4] at hdg hdd
        rw [E_loop]
        simp only [b26, sc26] at ih ⊢
        simp only [h6, h7, h8, h3, hlt, hrow, h4, nat_nonneg, Int.toNat_natCast, w1, List.map_cons, List.map_nil, PV.up, PV.upL, E_seq, E_reg, E_block, E_cnd, E_skip, E_exit, E_ret, E_dreg, thC_nor, thC_ret, thC_ext, thC_pan, inBlk_ext, inBlk_nor, inBlk_ret, inBlk_pan, evOps_cons, evOps_nil, thOps_ok, thOps_pan, evD_cons, evD_nil, thD_tot, thD_same, List.tail_cons, stp_none, stp_some, gd_tt, gd_ff, gd_tf, gd_ft, gd_undef, gd_td, gd_fd, ex_v, vo_some, ex, vop, ev_t, ev_c, put_some, put_none, upd_same, upd_ne, updK_same, updK_ne, ne_eq, argE_at, List.getElem?_cons_zero, List.getElem?_cons_succ, Option.getD_some, PV.cells, List.all_cons, List.all_nil, PV.one, Bool.and_true, Bool.true_and, if_true, and_self, true_and, and_true, killS, kill_box, kill_arr, e_box, e_arr, AK.tmp, PV.killL, PV.kill, killE_at, newBox, initC, initA, ld, getBox, setBox, getArr, setArr, pickC, Option.map_some, Option.map_none, PV.upN, binP, binInt, binStr, binB, unP, cnd_true, cnd_false, cnd_dec, cnd_not, Nat.reduceEqDiff, not_false_eq_true, not_true_eq_false, reduceIte, reduceCtorEq, Nat.reduceAdd, Nat.zero_add, Nat.add_zero, Nat.reduceLeDiff, Nat.reduceSub, Nat.reduceMul, fin_ret, fin_nor, List.length_cons, List.length_nil, List.drop_succ_cons, List.drop_zero, List.take_succ_cons, List.take_zero, fillP, setAt, List.set_cons_zero, List.set_cons_succ, storeP, stCells, stCell, PV.dnN, PV.dn, PV.dnL, retOf, rdRes, retL, ret1, retV, hand, hand1, handL, handA, List.tail_cons, callP, List.append_nil, List.nil_append, List.any_cons, List.any_nil, PV.hasSl, PV.isSl, Bool.or_false, Bool.false_or, Bool.false_eq_true, if_false, slcP, slcGo, fullOf, idx, iaddrP, lenP, lenS, appendP, newArr, view, srcRows, bigRow, okA, eqCells, convP, slsP, gd_tb, gd_fb, List.cons_append, Option.getD_none, List.getElem?_nil, AK.slot.injEq, AK.cell.injEq, decide_true, decide_false, Bool.not_true, Bool.not_false, Option.isNone_none, Option.isSome_none, Option.isSome_some, Option.isNone_some, prep, Ac.kill, PV.int.injEq, beq_self_eq_true, decide_eq_true_eq, Bool.not_eq_true, decide_eq_false_iff_not, true_or, or_true, false_or, or_false, false_and, and_false, Bool.not_not, Classical.not_not, Bool.false_and, Bool.and_false, Bool.and_self, ite_self, PV.pure, PV.plain, PV.plainL, Ret.plain, allPure, List.isEmpty_nil, List.isEmpty_cons, Bool.or_true, Bool.true_or, Int.reduceEq, Int.reduceNe, Int.reduceLT, Int.reduceLE, Int.reduceAdd, Int.reduceSub, Int.reduceMul, Int.reduceNeg, Nat.reduceLT, Nat.reduceDiv]
        refine IsExt.mono (ih (i + 1) (by omega) _ _ m ?_ ?_ ?_ ?_) ?_
        · simp only [h6, List.map_cons, List.map_nil, PV.up, PV.upL, E_seq, E_reg, E_block, E_cnd, E_skip, E_exit, E_ret, E_dreg, thC_nor, thC_ret, thC_ext, thC_pan, inBlk_ext, inBlk_nor, inBlk_ret, inBlk_pan, evOps_cons, evOps_nil, thOps_ok, thOps_pan, evD_cons, evD_nil, thD_tot, thD_same, List.tail_cons, stp_none, stp_some, gd_tt, gd_ff, gd_tf, gd_ft, gd_undef, gd_td, gd_fd, ex_v, vo_some, ex, vop, ev_t, ev_c, put_some, put_none, upd_same, upd_ne, updK_same, updK_ne, ne_eq, argE_at, List.getElem?_cons_zero, List.getElem?_cons_succ, Option.getD_some, PV.cells, List.all_cons, List.all_nil, PV.one, Bool.and_true, Bool.true_and, if_true, and_self, true_and, and_true, killS, kill_box, kill_arr, e_box, e_arr, AK.tmp, PV.killL, PV.kill, killE_at, newBox, initC, initA, ld, getBox, setBox, getArr, setArr, pickC, Option.map_some, Option.map_none, PV.upN, binP, binInt, binStr, binB, unP, cnd_true, cnd_false, cnd_dec, cnd_not, Nat.reduceEqDiff, not_false_eq_true, not_true_eq_false, reduceIte, reduceCtorEq, Nat.reduceAdd, Nat.zero_add, Nat.add_zero, Nat.reduceLeDiff, Nat.reduceSub, Nat.reduceMul, fin_ret, fin_nor, List.length_cons, List.length_nil, List.drop_succ_cons, List.drop_zero, List.take_succ_cons, List.take_zero, fillP, setAt, List.set_cons_zero, List.set_cons_succ, storeP, stCells, stCell, PV.dnN, PV.dn, PV.dnL, retOf, rdRes, retL, ret1, retV, hand, hand1, handL, handA, List.tail_cons, callP, List.append_nil, List.nil_append, List.any_cons, List.any_nil, PV.hasSl, PV.isSl, Bool.or_false, Bool.false_or, Bool.false_eq_true, if_false, slcP, slcGo, fullOf, idx, iaddrP, lenP, lenS, appendP, newArr, view, srcRows, bigRow, okA, eqCells, convP, slsP, gd_tb, gd_fb, List.cons_append, Option.getD_none, List.getElem?_nil, AK.slot.injEq, AK.cell.injEq, decide_true, decide_false, Bool.not_true, Bool.not_false, Option.isNone_none, Option.isSome_none, Option.isSome_some, Option.isNone_some, prep, Ac.kill, PV.int.injEq, beq_self_eq_true, decide_eq_true_eq, Bool.not_eq_true, decide_eq_false_iff_not, true_or, or_true, false_or, or_false, false_and, and_false, Bool.not_not, Classical.not_not, Bool.false_and, Bool.and_false, Bool.and_self, ite_self, PV.pure, PV.plain, PV.plainL, Ret.plain, allPure, List.isEmpty_nil, List.isEmpty_cons, Bool.or_true, Bool.true_or, Int.reduceEq, Int.reduceNe, Int.reduceLT, Int.reduceLE, Int.reduceAdd, Int.reduceSub, Int.reduceMul, Int.reduceNeg, Nat.reduceLT, Nat.reduceDiv]
        · simp only [h7, List.map_cons, List.map_nil, PV.up, PV.upL, E_seq, E_reg, E_block, E_cnd, E_skip, E_exit, E_ret, E_dreg, thC_nor, thC_ret, thC_ext, thC_pan, inBlk_ext, inBlk_nor, inBlk_ret, inBlk_pan, evOps_cons, evOps_nil, thOps_ok, thOps_pan, evD_cons, evD_nil, thD_tot, thD_same, List.tail_cons, stp_none, stp_some, gd_tt, gd_ff, gd_tf, gd_ft, gd_undef, gd_td, gd_fd, ex_v, vo_some, ex, vop, ev_t, ev_c, put_some, put_none, upd_same, upd_ne, updK_same, updK_ne, ne_eq, argE_at, List.getElem?_cons_zero, List.getElem?_cons_succ, Option.getD_some, PV.cells, List.all_cons, List.all_nil, PV.one, Bool.and_true, Bool.true_and, if_true, and_self, true_and, and_true, killS, kill_box, kill_arr, e_box, e_arr, AK.tmp, PV.killL, PV.kill, killE_at, newBox, initC, initA, ld, getBox, setBox, getArr, setArr, pickC, Option.map_some, Option.map_none, PV.upN, binP, binInt, binStr, binB, unP, cnd_true, cnd_false, cnd_dec, cnd_not, Nat.reduceEqDiff, not_false_eq_true, not_true_eq_false, reduceIte, reduceCtorEq, Nat.reduceAdd, Nat.zero_add, Nat.add_zero, Nat.reduceLeDiff, Nat.reduceSub, Nat.reduceMul, fin_ret, fin_nor, List.length_cons, List.length_nil, List.drop_succ_cons, List.drop_zero, List.take_succ_cons, List.take_zero, fillP, setAt, List.set_cons_zero, List.set_cons_succ, storeP, stCells, stCell, PV.dnN, PV.dn, PV.dnL, retOf, rdRes, retL, ret1, retV, hand, hand1, handL, handA, List.tail_cons, callP, List.append_nil, List.nil_append, List.any_cons, List.any_nil, PV.hasSl, PV.isSl, Bool.or_false, Bool.false_or, Bool.false_eq_true, if_false, slcP, slcGo, fullOf, idx, iaddrP, lenP, lenS, appendP, newArr, view, srcRows, bigRow, okA, eqCells, convP, slsP, gd_tb, gd_fb, List.cons_append, Option.getD_none, List.getElem?_nil, AK.slot.injEq, AK.cell.injEq, decide_true, decide_false, Bool.not_true, Bool.not_false, Option.isNone_none, Option.isSome_none, Option.isSome_some, Option.isNone_some, prep, Ac.kill, PV.int.injEq, beq_self_eq_true, decide_eq_true_eq, Bool.not_eq_true, decide_eq_false_iff_not, true_or, or_true, false_or, or_false, false_and, and_false, Bool.not_not, Classical.not_not, Bool.false_and, Bool.and_false, Bool.and_self, ite_self, PV.pure, PV.plain, PV.plainL, Ret.plain, allPure, List.isEmpty_nil, List.isEmpty_cons, Bool.or_true, Bool.true_or, Int.reduceEq, Int.reduceNe, Int.reduceLT, Int.reduceLE, Int.reduceAdd, Int.reduceSub, Int.reduceMul, Int.reduceNeg, Nat.reduceLT, Nat.reduceDiv]
        · simp only [List.map_cons, List.map_nil, PV.up, PV.upL, E_seq, E_reg, E_block, E_cnd, E_skip, E_exit, E_ret, E_dreg, thC_nor, thC_ret, thC_ext, thC_pan, inBlk_ext, inBlk_nor, inBlk_ret, inBlk_pan, evOps_cons, evOps_nil, thOps_ok, thOps_pan, evD_cons, evD_nil, thD_tot, thD_same, List.tail_cons, stp_none, stp_some, gd_tt, gd_ff, gd_tf, gd_ft, gd_undef, gd_td, gd_fd, ex_v, vo_some, ex, vop, ev_t, ev_c, put_some, put_none, upd_same, upd_ne, updK_same, updK_ne, ne_eq, argE_at, List.getElem?_cons_zero, List.getElem?_cons_succ, Option.getD_some, PV.cells, List.all_cons, List.all_nil, PV.one, Bool.and_true, Bool.true_and, if_true, and_self, true_and, and_true, killS, kill_box, kill_arr, e_box, e_arr, AK.tmp, PV.killL, PV.kill, killE_at, newBox, initC, initA, ld, getBox, setBox, getArr, setArr, pickC, Option.map_some, Option.map_none, PV.upN, binP, binInt, binStr, binB, unP, cnd_true, cnd_false, cnd_dec, cnd_not, Nat.reduceEqDiff, not_false_eq_true, not_true_eq_false, reduceIte, reduceCtorEq, Nat.reduceAdd, Nat.zero_add, Nat.add_zero, Nat.reduceLeDiff, Nat.reduceSub, Nat.reduceMul, fin_ret, fin_nor, List.length_cons, List.length_nil, List.drop_succ_cons, List.drop_zero, List.take_succ_cons, List.take_zero, fillP, setAt, List.set_cons_zero, List.set_cons_succ, storeP, stCells, stCell, PV.dnN, PV.dn, PV.dnL, retOf, rdRes, retL, ret1, retV, hand, hand1, handL, handA, List.tail_cons, callP, List.append_nil, List.nil_append, List.any_cons, List.any_nil, PV.hasSl, PV.isSl, Bool.or_false, Bool.false_or, Bool.false_eq_true, if_false, slcP, slcGo, fullOf, idx, iaddrP, lenP, lenS, appendP, newArr, view, srcRows, bigRow, okA, eqCells, convP, slsP, gd_tb, gd_fb, List.cons_append, Option.getD_none, List.getElem?_nil, AK.slot.injEq, AK.cell.injEq, decide_true, decide_false, Bool.not_true, Bool.not_false, Option.isNone_none, Option.isSome_none, Option.isSome_some, Option.isNone_some, prep, Ac.kill, PV.int.injEq, beq_self_eq_true, decide_eq_true_eq, Bool.not_eq_true, decide_eq_false_iff_not, true_or, or_true, false_or, or_false, false_and, and_false, Bool.not_not, Classical.not_not, Bool.false_and, Bool.and_false, Bool.and_self, ite_self, PV.pure, PV.plain, PV.plainL, Ret.plain, allPure, List.isEmpty_nil, List.isEmpty_cons, Bool.or_true, Bool.true_or, Int.reduceEq, Int.reduceNe, Int.reduceLT, Int.reduceLE, Int.reduceAdd, Int.reduceSub, Int.reduceMul, Int.reduceNeg, Nat.reduceLT, Nat.reduceDiv]
        · simp only [h3, List.map_cons, List.map_nil, PV.up, PV.upL, E_seq, E_reg, E_block, E_cnd, E_skip, E_exit, E_ret, E_dreg, thC_nor, thC_ret, thC_ext, thC_pan, inBlk_ext, inBlk_nor, inBlk_ret, inBlk_pan, evOps_cons, evOps_nil, thOps_ok, thOps_pan, evD_cons, evD_nil, thD_tot, thD_same, List.tail_cons, stp_none, stp_some, gd_tt, gd_ff, gd_tf, gd_ft, gd_undef, gd_td, gd_fd, ex_v, vo_some, ex, vop, ev_t, ev_c, put_some, put_none, upd_same, upd_ne, updK_same, updK_ne, ne_eq, argE_at, List.getElem?_cons_zero, List.getElem?_cons_succ, Option.getD_some, PV.cells, List.all_cons, List.all_nil, PV.one, Bool.and_true, Bool.true_and, if_true, and_self, true_and, and_true, killS, kill_box, kill_arr, e_box, e_arr, AK.tmp, PV.killL, PV.kill, killE_at, newBox, initC, initA, ld, getBox, setBox, getArr, setArr, pickC, Option.map_some, Option.map_none, PV.upN, binP, binInt, binStr, binB, unP, cnd_true, cnd_false, cnd_dec, cnd_not, Nat.reduceEqDiff, not_false_eq_true, not_true_eq_false, reduceIte, reduceCtorEq, Nat.reduceAdd, Nat.zero_add, Nat.add_zero, Nat.reduceLeDiff, Nat.reduceSub, Nat.reduceMul, fin_ret, fin_nor, List.length_cons, List.length_nil, List.drop_succ_cons, List.drop_zero, List.take_succ_cons, List.take_zero, fillP, setAt, List.set_cons_zero, List.set_cons_succ, storeP, stCells, stCell, PV.dnN, PV.dn, PV.dnL, retOf, rdRes, retL, ret1, retV, hand, hand1, handL, handA, List.tail_cons, callP, List.append_nil, List.nil_append, List.any_cons, List.any_nil, PV.hasSl, PV.isSl, Bool.or_false, Bool.false_or, Bool.false_eq_true, if_false, slcP, slcGo, fullOf, idx, iaddrP, lenP, lenS, appendP, newArr, view, srcRows, bigRow, okA, eqCells, convP, slsP, gd_tb, gd_fb, List.cons_append, Option.getD_none, List.getElem?_nil, AK.slot.injEq, AK.cell.injEq, decide_true, decide_false, Bool.not_true, Bool.not_false, Option.isNone_none, Option.isSome_none, Option.isSome_some, Option.isNone_some, prep, Ac.kill, PV.int.injEq, beq_self_eq_true, decide_eq_true_eq, Bool.not_eq_true, decide_eq_false_iff_not, true_or, or_true, false_or, or_false, false_and, and_false, Bool.not_not, Classical.not_not, Bool.false_and, Bool.and_false, Bool.and_self, ite_self, PV.pure, PV.plain, PV.plainL, Ret.plain, allPure, List.isEmpty_nil, List.isEmpty_cons, Bool.or_true, Bool.true_or, Int.reduceEq, Int.reduceNe, Int.reduceLT, Int.reduceLE, Int.reduceAdd, Int.reduceSub, Int.reduceMul, Int.reduceNeg, Nat.reduceLT, Nat.reduceDiv]
        · rintro e' S' ⟨h, f', h'⟩
          refine ⟨?_, f', h'⟩
          rw [h, hdd, Nat.zero_max]
  rw [call_code sp26 _ _ rfl]
  simp only [sc26, ac0, encL_length, List.map_cons, List.map_nil, PV.up, PV.upL, E_seq, E_reg, E_block, E_cnd, E_skip, E_exit, E_ret, E_dreg, thC_nor, thC_ret, thC_ext, thC_pan, inBlk_ext, inBlk_nor, inBlk_ret, inBlk_pan, evOps_cons, evOps_nil, thOps_ok, thOps_pan, evD_cons, evD_nil, thD_tot, thD_same, List.tail_cons, stp_none, stp_some, gd_tt, gd_ff, gd_tf, gd_ft, gd_undef, gd_td, gd_fd, ex_v, vo_some, ex, vop, ev_t, ev_c, put_some, put_none, upd_same, upd_ne, updK_same, updK_ne, ne_eq, argE_at, List.getElem?_cons_zero, List.getElem?_cons_succ, Option.getD_some, PV.cells, List.all_cons, List.all_nil, PV.one, Bool.and_true, Bool.true_and, if_true, and_self, true_and, and_true, killS, kill_box, kill_arr, e_box, e_arr, AK.tmp, PV.killL, PV.kill, killE_at, newBox, initC, initA, ld, getBox, setBox, getArr, setArr, pickC, Option.map_some, Option.map_none, PV.upN, binP, binInt, binStr, binB, unP, cnd_true, cnd_false, cnd_dec, cnd_not, Nat.reduceEqDiff, not_false_eq_true, not_true_eq_false, reduceIte, reduceCtorEq, Nat.reduceAdd, Nat.zero_add, Nat.add_zero, Nat.reduceLeDiff, Nat.reduceSub, Nat.reduceMul, fin_ret, fin_nor, List.length_cons, List.length_nil, List.drop_succ_cons, List.drop_zero, List.take_succ_cons, List.take_zero, fillP, setAt, List.set_cons_zero, List.set_cons_succ, storeP, stCells, stCell, PV.dnN, PV.dn, PV.dnL, retOf, rdRes, retL, ret1, retV, hand, hand1, handL, handA, List.tail_cons, callP, List.append_nil, List.nil_append, List.any_cons, List.any_nil, PV.hasSl, PV.isSl, Bool.or_false, Bool.false_or, Bool.false_eq_true, if_false, slcP, slcGo, fullOf, idx, iaddrP, lenP, lenS, appendP, newArr, view, srcRows, bigRow, okA, eqCells, convP, slsP, gd_tb, gd_fb, List.cons_append, Option.getD_none, List.getElem?_nil, AK.slot.injEq, AK.cell.injEq, decide_true, decide_false, Bool.not_true, Bool.not_false, Option.isNone_none, Option.isSome_none, Option.isSome_some, Option.isNone_some, prep, Ac.kill, PV.int.injEq, beq_self_eq_true, decide_eq_true_eq, Bool.not_eq_true, decide_eq_false_iff_not, true_or, or_true, false_or, or_false, false_and, and_false, Bool.not_not, Classical.not_not, Bool.false_and, Bool.and_false, Bool.and_self, ite_self, PV.pure, PV.plain, PV.plainL, Ret.plain, allPure, List.isEmpty_nil, List.isEmpty_cons, Bool.or_true, Bool.true_or, Int.reduceEq, Int.reduceNe, Int.reduceLT, Int.reduceLE, Int.reduceAdd, Int.reduceSub, Int.reduceMul, Int.reduceNeg, Nat.reduceLT, Nat.reduceDiv]
  have h := loop vs.length 0 (by omega)
  simp only [b26, sc26] at h
  generalize hr : E SP _ _ = r
  have hx : IsExt 0 (fun e' S' => e' 3 = .int .i64 (max 0 (deepL (vs.drop 0)) : Nat) ∧ ∃ f', S' = f' :: S) r := by
    rw [← hr]
    refine h _ _ 0 ?_ ?_ ?_ ?_
    all_goals first | rfl | (simp only [List.map_cons, List.map_nil, PV.up, PV.upL, E_seq, E_reg, E_block, E_cnd, E_skip, E_exit, E_ret, E_dreg, thC_nor, thC_ret, thC_ext, thC_pan, inBlk_ext, inBlk_nor, inBlk_ret, inBlk_pan, evOps_cons, evOps_nil, thOps_ok, thOps_pan, evD_cons, evD_nil, thD_tot, thD_same, List.tail_cons, stp_none, stp_some, gd_tt, gd_ff, gd_tf, gd_ft, gd_undef, gd_td, gd_fd, ex_v, vo_some, ex, vop, ev_t, ev_c, put_some, put_none, upd_same, upd_ne, updK_same, updK_ne, ne_eq, argE_at, List.getElem?_cons_zero, List.getElem?_cons_succ, Option.getD_some, PV.cells, List.all_cons, List.all_nil, PV.one, Bool.and_true, Bool.true_and, if_true, and_self, true_and, and_true, killS, kill_box, kill_arr, e_box, e_arr, AK.tmp, PV.killL, PV.kill, killE_at, newBox, initC, initA, ld, getBox, setBox, getArr, setArr, pickC, Option.map_some, Option.map_none, PV.upN, binP, binInt, binStr, binB, unP, cnd_true, cnd_false, cnd_dec, cnd_not, Nat.reduceEqDiff, not_false_eq_true, not_true_eq_false, reduceIte, reduceCtorEq, Nat.reduceAdd, Nat.zero_add, Nat.add_zero, Nat.reduceLeDiff, Nat.reduceSub, Nat.reduceMul, fin_ret, fin_nor, List.length_cons, List.length_nil, List.drop_succ_cons, List.drop_zero, List.take_succ_cons, List.take_zero, fillP, setAt, List.set_cons_zero, List.set_cons_succ, storeP, stCells, stCell, PV.dnN, PV.dn, PV.dnL, retOf, rdRes, retL, ret1, retV, hand, hand1, handL, handA, List.tail_cons, callP, List.append_nil, List.nil_append, List.any_cons, List.any_nil, PV.hasSl, PV.isSl, Bool.or_false, Bool.false_or, Bool.false_eq_true, if_false, slcP, slcGo, fullOf, idx, iaddrP, lenP, lenS, appendP, newArr, view, srcRows, bigRow, okA, eqCells, convP, slsP, gd_tb, gd_fb, List.cons_append, Option.getD_none, List.getElem?_nil, AK.slot.injEq, AK.cell.injEq, decide_true, decide_false, Bool.not_true, Bool.not_false, Option.isNone_none, Option.isSome_none, Option.isSome_some, Option.isNone_some, prep, Ac.kill, PV.int.injEq, beq_self_eq_true, decide_eq_true_eq, Bool.not_eq_true, decide_eq_false_iff_not, true_or, or_true, false_or, or_false, false_and, and_false, Bool.not_not, Classical.not_not, Bool.false_and, Bool.and_false, Bool.and_self, ite_self, PV.pure, PV.plain, PV.plainL, Ret.plain, allPure, List.isEmpty_nil, List.isEmpty_cons, Bool.or_true, Bool.true_or, Int.reduceEq, Int.reduceNe, Int.reduceLT, Int.reduceLE, Int.reduceAdd, Int.reduceSub, Int.reduceMul, Int.reduceNeg, Nat.reduceLT, Nat.reduceDiv]; done) | (simp only [List.map_cons, List.map_nil, PV.up, PV.upL, E_seq, E_reg, E_block, E_cnd, E_skip, E_exit, E_ret, E_dreg, thC_nor, thC_ret, thC_ext, thC_pan, inBlk_ext, inBlk_nor, inBlk_ret, inBlk_pan, evOps_cons, evOps_nil, thOps_ok, thOps_pan, evD_cons, evD_nil, thD_tot, thD_same, List.tail_cons, stp_none, stp_some, gd_tt, gd_ff, gd_tf, gd_ft, gd_undef, gd_td, gd_fd, ex_v, vo_some, ex, vop, ev_t, ev_c, put_some, put_none, upd_same, upd_ne, updK_same, updK_ne, ne_eq, argE_at, List.getElem?_cons_zero, List.getElem?_cons_succ, Option.getD_some, PV.cells, List.all_cons, List.all_nil, PV.one, Bool.and_true, Bool.true_and, if_true, and_self, true_and, and_true, killS, kill_box, kill_arr, e_box, e_arr, AK.tmp, PV.killL, PV.kill, killE_at, newBox, initC, initA, ld, getBox, setBox, getArr, setArr, pickC, Option.map_some, Option.map_none, PV.upN, binP, binInt, binStr, binB, unP, cnd_true, cnd_false, cnd_dec, cnd_not, Nat.reduceEqDiff, not_false_eq_true, not_true_eq_false, reduceIte, reduceCtorEq, Nat.reduceAdd, Nat.zero_add, Nat.add_zero, Nat.reduceLeDiff, Nat.reduceSub, Nat.reduceMul, fin_ret, fin_nor, List.length_cons, List.length_nil, List.drop_succ_cons, List.drop_zero, List.take_succ_cons, List.take_zero, fillP, setAt, List.set_cons_zero, List.set_cons_succ, storeP, stCells, stCell, PV.dnN, PV.dn, PV.dnL, retOf, rdRes, retL, ret1, retV, hand, hand1, handL, handA, List.tail_cons, callP, List.append_nil, List.nil_append, List.any_cons, List.any_nil, PV.hasSl, PV.isSl, Bool.or_false, Bool.false_or, Bool.false_eq_true, if_false, slcP, slcGo, fullOf, idx, iaddrP, lenP, lenS, appendP, newArr, view, srcRows, bigRow, okA, eqCells, convP, slsP, gd_tb, gd_fb, List.cons_append, Option.getD_none, List.getElem?_nil, AK.slot.injEq, AK.cell.injEq, decide_true, decide_false, Bool.not_true, Bool.not_false, Option.isNone_none, Option.isSome_none, Option.isSome_some, Option.isNone_some, prep, Ac.kill, PV.int.injEq, beq_self_eq_true, decide_eq_true_eq, Bool.not_eq_true, decide_eq_false_iff_not, true_or, or_true, false_or, or_false, false_and, and_false, Bool.not_not, Classical.not_not, Bool.false_and, Bool.and_false, Bool.and_self, ite_self, PV.pure, PV.plain, PV.plainL, Ret.plain, allPure, List.isEmpty_nil, List.isEmpty_cons, Bool.or_true, Bool.true_or, Int.reduceEq, Int.reduceNe, Int.reduceLT, Int.reduceLE, Int.reduceAdd, Int.reduceSub, Int.reduceMul, Int.reduceNeg, Nat.reduceLT, Nat.reduceDiv]; rfl)
  obtain ⟨e', S', rfl, he, f', rfl⟩ := hx.elim
  simp only [he, List.map_cons, List.map_nil, PV.up, PV.upL, E_seq, E_reg, E_block, E_cnd, E_skip, E_exit, E_ret, E_dreg, thC_nor, thC_ret, thC_ext, thC_pan, inBlk_ext, inBlk_nor, inBlk_ret, inBlk_pan, evOps_cons, evOps_nil, thOps_ok, thOps_pan, evD_cons, evD_nil, thD_tot, thD_same, List.tail_cons, stp_none, stp_some, gd_tt, gd_ff, gd_tf, gd_ft, gd_undef, gd_td, gd_fd, ex_v, vo_some, ex, vop, ev_t, ev_c, put_some, put_none, upd_same, upd_ne, updK_same, updK_ne, ne_eq, argE_at, List.getElem?_cons_zero, List.getElem?_cons_succ, Option.getD_some, PV.cells, List.all_cons, List.all_nil, PV.one, Bool.and_true, Bool.true_and, if_true, and_self, true_and, and_true, killS, kill_box, kill_arr, e_box, e_arr, AK.tmp, PV.killL, PV.kill, killE_at, newBox, initC, initA, ld, getBox, setBox, getArr, setArr, pickC, Option.map_some, Option.map_none, PV.upN, binP, binInt, binStr, binB, unP, cnd_true, cnd_false, cnd_dec, cnd_not, Nat.reduceEqDiff, not_false_eq_true, not_true_eq_false, reduceIte, reduceCtorEq, Nat.reduceAdd, Nat.zero_add, Nat.add_zero, Nat.reduceLeDiff, Nat.reduceSub, Nat.reduceMul, fin_ret, fin_nor, List.length_cons, List.length_nil, List.drop_succ_cons, List.drop_zero, List.take_succ_cons, List.take_zero, fillP, setAt, List.set_cons_zero, List.set_cons_succ, storeP, stCells, stCell, PV.dnN, PV.dn, PV.dnL, retOf, rdRes, retL, ret1, retV, hand, hand1, handL, handA, List.tail_cons, callP, List.append_nil, List.nil_append, List.any_cons, List.any_nil, PV.hasSl, PV.isSl, Bool.or_false, Bool.false_or, Bool.false_eq_true, if_false, slcP, slcGo, fullOf, idx, iaddrP, lenP, lenS, appendP, newArr, view, srcRows, bigRow, okA, eqCells, convP, slsP, gd_tb, gd_fb, List.cons_append, Option.getD_none, List.getElem?_nil, AK.slot.injEq, AK.cell.injEq, decide_true, decide_false, Bool.not_true, Bool.not_false, Option.isNone_none, Option.isSome_none, Option.isSome_some, Option.isNone_some, prep, Ac.kill, PV.int.injEq, beq_self_eq_true, decide_eq_true_eq, Bool.not_eq_true, decide_eq_false_iff_not, true_or, or_true, false_or, or_false, false_and, and_false, Bool.not_not, Classical.not_not, Bool.false_and, Bool.and_false, Bool.and_self, ite_self, PV.pure, PV.plain, PV.plainL, Ret.plain, allPure, List.isEmpty_nil, List.isEmpty_cons, Bool.or_true, Bool.true_or, Int.reduceEq, Int.reduceNe, Int.reduceLT, Int.reduceLE, Int.reduceAdd, Int.reduceSub, Int.reduceMul, Int.reduceNeg, Nat.reduceLT, Nat.reduceDiv]
  rw [Nat.zero_max]
termination_by SizeOf.sizeOf vs
decreasing_by all_goals exact size_get hget
end Go.Proofs.Ytebflncfgjnkkaa.M
/- Lists of values; what stands in them; which values may be. -/
namespace Go.Proofs.Ytebflncfgjnkkaa.M
set_option linter.unusedSimpArgs false
set_option linter.unusedVariables false
open Go Classical
theorem sp12 : SP 12 = some (.code sc12) := SPof_code rfl Try.func12 comp12
theorem sp13 : SP 13 = some (.code sc13) := SPof_code rfl Try.func13 comp13
theorem sp14 : SP 14 = some (.code sc14) := SPof_code rfl Try.func14 comp14
theorem sp28 : SP 28 = some (.code sc28) := SPof_code rfl Try.func28 comp28
theorem sp37 : SP 37 = some (.code sc37) := SPof_code rfl Try.func37 comp37
theorem sp38 : SP 38 = some (.code sc38) := SPof_code rfl Try.func38 comp38
theorem sp39 : SP 39 = some (.code sc39) := SPof_code rfl Try.func39 comp39
theorem sp27 : SP 27 = some (.ext (cloneX 4 56)) := rfl
theorem Clone_ok (rows : List (List PV)) (h : rows.length ≤ 64) (S : Sto) : call SP 27 [.list 4 rows false] S = .ok (.v (.list 4 rows false)) S := by
  refine call_ext sp27 S ?_
  exact if_pos ⟨rfl, by omega, by omega⟩
theorem List_large (vs : List V) (hb : deepL vs < 4611686018427387904) (hs : smallL vs) (h : 64 < vs.length ∨ 64 ≤ deepL vs) (S : Sto) : call SP 12 [.list 4 (encL vs) false] S = .ok (.v (.tup [.agg [.int .i64 0, .int .i64 0, .str [], .list 4 [] false], .int .i64 4])) S := by
  rw [call_code sp12 _ _ rfl]
  have hd := deep_ok vs hb hs
  by_cases h1 : 64 < vs.length
  · have e1 : (64 : Int) < (vs.length : Int) := by omega
    simp only [sc12, ac0, encL_length, e1, List.map_cons, List.map_nil, PV.up, PV.upL, E_seq, E_reg, E_block, E_cnd, E_skip, E_exit, E_ret, E_dreg, thC_nor, thC_ret, thC_ext, thC_pan, inBlk_ext, inBlk_nor, inBlk_ret, inBlk_pan, evOps_cons, evOps_nil, thOps_ok, thOps_pan, evD_cons, evD_nil, thD_tot, thD_same, List.tail_cons, stp_none, stp_some, gd_tt, gd_ff, gd_tf, gd_ft, gd_undef, gd_td, gd_fd, ex_v, vo_some, ex, vop, ev_t, ev_c, put_some, put_none, upd_same, upd_ne, updK_same, updK_ne, ne_eq, argE_at, List.getElem?_cons_zero, List.getElem?_cons_succ, Option.getD_some, PV.cells, List.all_cons, List.all_nil, PV.one, Bool.and_true, Bool.true_and, if_true, and_self, true_and, and_true, killS, kill_box, kill_arr, e_box, e_arr, AK.tmp, PV.killL, PV.kill, killE_at, newBox, initC, initA, ld, getBox, setBox, getArr, setArr, pickC, Option.map_some, Option.map_none, PV.upN, binP, binInt, binStr, binB, unP, cnd_true, cnd_false, cnd_dec, cnd_not, Nat.reduceEqDiff, not_false_eq_true, not_true_eq_false, reduceIte, reduceCtorEq, Nat.reduceAdd, Nat.zero_add, Nat.add_zero, Nat.reduceLeDiff, Nat.reduceSub, Nat.reduceMul, fin_ret, fin_nor, List.length_cons, List.length_nil, List.drop_succ_cons, List.drop_zero, List.take_succ_cons, List.take_zero, fillP, setAt, List.set_cons_zero, List.set_cons_succ, storeP, stCells, stCell, PV.dnN, PV.dn, PV.dnL, retOf, rdRes, retL, ret1, retV, hand, hand1, handL, handA, List.tail_cons, callP, List.append_nil, List.nil_append, List.any_cons, List.any_nil, PV.hasSl, PV.isSl, Bool.or_false, Bool.false_or, Bool.false_eq_true, if_false, slcP, slcGo, fullOf, idx, iaddrP, lenP, lenS, appendP, newArr, view, srcRows, bigRow, okA, eqCells, convP, slsP, gd_tb, gd_fb, List.cons_append, Option.getD_none, List.getElem?_nil, AK.slot.injEq, AK.cell.injEq, decide_true, decide_false, Bool.not_true, Bool.not_false, Option.isNone_none, Option.isSome_none, Option.isSome_some, Option.isNone_some, prep, Ac.kill, PV.int.injEq, beq_self_eq_true, decide_eq_true_eq, Bool.not_eq_true, decide_eq_false_iff_not, true_or, or_true, false_or, or_false, false_and, and_false, Bool.not_not, Classical.not_not, Bool.false_and, Bool.and_false, Bool.and_self, ite_self, PV.pure, PV.plain, PV.plainL, Ret.plain, allPure, List.isEmpty_nil, List.isEmpty_cons, Bool.or_true, Bool.true_or, Int.reduceEq, Int.reduceNe, Int.reduceLT, Int.reduceLE, Int.reduceAdd, Int.reduceSub, Int.reduceMul, Int.reduceNeg, Nat.reduceLT, Nat.reduceDiv]
  · have e1 : ¬ (64 : Int) < (vs.length : Int) := by omega
    have e2 : (64 : Int) ≤ (deepL vs : Int) := by omega
    simp only [sc12, ac0, encL_length, e1, e2, hd, List.map_cons, List.map_nil, PV.up, PV.upL, E_seq, E_reg, E_block, E_cnd, E_skip, E_exit, E_ret, E_dreg, thC_nor, thC_ret, thC_ext, thC_pan, inBlk_ext, inBlk_nor, inBlk_ret, inBlk_pan, evOps_cons, evOps_nil, thOps_ok, thOps_pan, evD_cons, evD_nil, thD_tot, thD_same, List.tail_cons, stp_none, stp_some, gd_tt, gd_ff, gd_tf, gd_ft, gd_undef, gd_td, gd_fd, ex_v, vo_some, ex, vop, ev_t, ev_c, put_some, put_none, upd_same, upd_ne, updK_same, updK_ne, ne_eq, argE_at, List.getElem?_cons_zero, List.getElem?_cons_succ, Option.getD_some, PV.cells, List.all_cons, List.all_nil, PV.one, Bool.and_true, Bool.true_and, if_true, and_self, true_and, and_true, killS, kill_box, kill_arr, e_box, e_arr, AK.tmp, PV.killL, PV.kill, killE_at, newBox, initC, initA, ld, getBox, setBox, getArr, setArr, pickC, Option.map_some, Option.map_none, PV.upN, binP, binInt, binStr, binB, unP, cnd_true, cnd_false, cnd_dec, cnd_not, Nat.reduceEqDiff, not_false_eq_true, not_true_eq_false, reduceIte, reduceCtorEq, Nat.reduceAdd, Nat.zero_add, Nat.add_zero, Nat.reduceLeDiff, Nat.reduceSub, Nat.reduceMul, fin_ret, fin_nor, List.length_cons, List.length_nil, List.drop_succ_cons, List.drop_zero, List.take_succ_cons, List.take_zero, fillP, setAt, List.set_cons_zero, List.set_cons_succ, storeP, stCells, stCell, PV.dnN, PV.dn, PV.dnL, retOf, rdRes, retL, ret1, retV, hand, hand1, handL, handA, List.tail_cons, callP, List.append_nil, List.nil_append, List.any_cons, List.any_nil, PV.hasSl, PV.isSl, Bool.or_false, Bool.false_or, Bool.false_eq_true, if_false, slcP, slcGo, fullOf, idx, iaddrP, lenP, lenS, appendP, newArr, view, srcRows, bigRow, okA, eqCells, convP, slsP, gd_tb, gd_fb, List.cons_append, Option.getD_none, List.getElem?_nil, AK.slot.injEq, AK.cell.injEq, decide_true, decide_false, Bool.not_true, Bool.not_false, Option.isNone_none, Option.isSome_none, Option.isSome_some, Option.isNone_some, prep, Ac.kill, PV.int.injEq, beq_self_eq_true, decide_eq_true_eq, Bool.not_eq_true, decide_eq_false_iff_not, true_or, or_true, false_or, or_false, false_and, and_false, Bool.not_not, Classical.not_not, Bool.false_and, Bool.and_false, Bool.and_self, ite_self, PV.pure, PV.plain, PV.plainL, Ret.plain, allPure, List.isEmpty_nil, List.isEmpty_cons, Bool.or_true, Bool.true_or, Int.reduceEq, Int.reduceNe, Int.reduceLT, Int.reduceLE, Int.reduceAdd, Int.reduceSub, Int.reduceMul, Int.reduceNeg, Nat.reduceLT, Nat.reduceDiv]
theorem List_fits (vs : List V) (hb : deepL vs < 64) (hs : smallL vs) (h : vs.length ≤ 64) (S : Sto) : call SP 12 [.list 4 (encL vs) false] S = .ok (.v (.tup [.agg [.int .i64 4, .int .i64 0, .str [], .list 4 (encL vs) false], .int .i64 0])) S := by
  rw [call_code sp12 _ _ rfl]
  have hd := deep_ok vs (by omega) hs
  have hc := Clone_ok (encL vs) (by rw [encL_length]; exact h)
  have e1 : ¬ (64 : Int) < (vs.length : Int) := by omega
  have e2 : ¬ (64 : Int) ≤ (deepL vs : Int) := by omega
  simp only [sc12, ac0, encL_length, e1, e2, hd, hc, List.map_cons, List.map_nil, PV.up, PV.upL, E_seq, E_reg, E_block, E_cnd, E_skip, E_exit, E_ret, E_dreg, thC_nor, thC_ret, thC_ext, thC_pan, inBlk_ext, inBlk_nor, inBlk_ret, inBlk_pan, evOps_cons, evOps_nil, thOps_ok, thOps_pan, evD_cons, evD_nil, thD_tot, thD_same, List.tail_cons, stp_none, stp_some, gd_tt, gd_ff, gd_tf, gd_ft, gd_undef, gd_td, gd_fd, ex_v, vo_some, ex, vop, ev_t, ev_c, put_some, put_none, upd_same, upd_ne, updK_same, updK_ne, ne_eq, argE_at, List.getElem?_cons_zero, List.getElem?_cons_succ, Option.getD_some, PV.cells, List.all_cons, List.all_nil, PV.one, Bool.and_true, Bool.true_and, if_true, and_self, true_and, and_true, killS, kill_box, kill_arr, e_box, e_arr, AK.tmp, PV.killL, PV.kill, killE_at, newBox, initC, initA, ld, getBox, setBox, getArr, setArr, pickC, Option.map_some, Option.map_none, PV.upN, binP, binInt, binStr, binB, unP, cnd_true, cnd_false, cnd_dec, cnd_not, Nat.reduceEqDiff, not_false_eq_true, not_true_eq_false, reduceIte, reduceCtorEq, Nat.reduceAdd, Nat.zero_add, Nat.add_zero, Nat.reduceLeDiff, Nat.reduceSub, Nat.reduceMul, fin_ret, fin_nor, List.length_cons, List.length_nil, List.drop_succ_cons, List.drop_zero, List.take_succ_cons, List.take_zero, fillP, setAt, List.set_cons_zero, List.set_cons_succ, storeP, stCells, stCell, PV.dnN, PV.dn, PV.dnL, retOf, rdRes, retL, ret1, retV, hand, hand1, handL, handA, List.tail_cons, callP, List.append_nil, List.nil_append, List.any_cons, List.any_nil, PV.hasSl, PV.isSl, Bool.or_false, Bool.false_or, Bool.false_eq_true, if_false, slcP, slcGo, fullOf, idx, iaddrP, lenP, lenS, appendP, newArr, view, srcRows, bigRow, okA, eqCells, convP, slsP, gd_tb, gd_fb, List.cons_append, Option.getD_none, List.getElem?_nil, AK.slot.injEq, AK.cell.injEq, decide_true, decide_false, Bool.not_true, Bool.not_false, Option.isNone_none, Option.isSome_none, Option.isSome_some, Option.isNone_some, prep, Ac.kill, PV.int.injEq, beq_self_eq_true, decide_eq_true_eq, Bool.not_eq_true, decide_eq_false_iff_not, true_or, or_true, false_or, or_false, false_and, and_false, Bool.not_not, Classical.not_not, Bool.false_and, Bool.and_false, Bool.and_self, ite_self, PV.pure, PV.plain, PV.plainL, Ret.plain, allPure, List.isEmpty_nil, List.isEmpty_cons, Bool.or_true, Bool.true_or, Int.reduceEq, Int.reduceNe, Int.reduceLT, Int.reduceLE, Int.reduceAdd, Int.reduceSub, Int.reduceMul, Int.reduceNeg, Nat.reduceLT, Nat.reduceDiv]
theorem Index_in (vs : List V) (i : Nat) (v : V) (h : vs[i]? = some v) (S : Sto) : call SP 13 [.agg [.int .i64 4, .int .i64 0, .str [], .list 4 (encL vs) false], .agg [.int .i64 1, .int .i64 i, .str [], .list 4 [] false]] S = .ok (.v (.tup [.agg (enc v), .int .i64 0])) S := by
  rw [call_code sp13 _ _ rfl]
  have hlt := (List.getElem?_eq_some_iff.1 h).1
  have e1 : ¬ (i : Int) < 0 := by omega
  have e2 : ¬ (vs.length : Int) ≤ (i : Int) := by omega
  have hrow : (encL vs)[i]? = some (enc v) := by rw [encL_get, h]; rfl
  rw [enc_eq] at hrow
  simp only [sc13, ac0, encL_length, e1, e2, hrow, nat_nonneg, Int.toNat_natCast, enc_eq, List.map_cons, List.map_nil, PV.up, PV.upL, E_seq, E_reg, E_block, E_cnd, E_skip, E_exit, E_ret, E_dreg, thC_nor, thC_ret, thC_ext, thC_pan, inBlk_ext, inBlk_nor, inBlk_ret, inBlk_pan, evOps_cons, evOps_nil, thOps_ok, thOps_pan, evD_cons, evD_nil, thD_tot, thD_same, List.tail_cons, stp_none, stp_some, gd_tt, gd_ff, gd_tf, gd_ft, gd_undef, gd_td, gd_fd, ex_v, vo_some, ex, vop, ev_t, ev_c, put_some, put_none, upd_same, upd_ne, updK_same, updK_ne, ne_eq, argE_at, List.getElem?_cons_zero, List.getElem?_cons_succ, Option.getD_some, PV.cells, List.all_cons, List.all_nil, PV.one, Bool.and_true, Bool.true_and, if_true, and_self, true_and, and_true, killS, kill_box, kill_arr, e_box, e_arr, AK.tmp, PV.killL, PV.kill, killE_at, newBox, initC, initA, ld, getBox, setBox, getArr, setArr, pickC, Option.map_some, Option.map_none, PV.upN, binP, binInt, binStr, binB, unP, cnd_true, cnd_false, cnd_dec, cnd_not, Nat.reduceEqDiff, not_false_eq_true, not_true_eq_false, reduceIte, reduceCtorEq, Nat.reduceAdd, Nat.zero_add, Nat.add_zero, Nat.reduceLeDiff, Nat.reduceSub, Nat.reduceMul, fin_ret, fin_nor, List.length_cons, List.length_nil, List.drop_succ_cons, List.drop_zero, List.take_succ_cons, List.take_zero, fillP, setAt, List.set_cons_zero, List.set_cons_succ, storeP, stCells, stCell, PV.dnN, PV.dn, PV.dnL, retOf, rdRes, retL, ret1, retV, hand, hand1, handL, handA, List.tail_cons, callP, List.append_nil, List.nil_append, List.any_cons, List.any_nil, PV.hasSl, PV.isSl, Bool.or_false, Bool.false_or, Bool.false_eq_true, if_false, slcP, slcGo, fullOf, idx, iaddrP, lenP, lenS, appendP, newArr, view, srcRows, bigRow, okA, eqCells, convP, slsP, gd_tb, gd_fb, List.cons_append, Option.getD_none, List.getElem?_nil, AK.slot.injEq, AK.cell.injEq, decide_true, decide_false, Bool.not_true, Bool.not_false, Option.isNone_none, Option.isSome_none, Option.isSome_some, Option.isNone_some, prep, Ac.kill, PV.int.injEq, beq_self_eq_true, decide_eq_true_eq, Bool.not_eq_true, decide_eq_false_iff_not, true_or, or_true, false_or, or_false, false_and, and_false, Bool.not_not, Classical.not_not, Bool.false_and, Bool.and_false, Bool.and_self, ite_self, PV.pure, PV.plain, PV.plainL, Ret.plain, allPure, List.isEmpty_nil, List.isEmpty_cons, Bool.or_true, Bool.true_or, Int.reduceEq, Int.reduceNe, Int.reduceLT, Int.reduceLE, Int.reduceAdd, Int.reduceSub, Int.reduceMul, Int.reduceNeg, Nat.reduceLT, Nat.reduceDiv]
theorem Index_out (vs : List V) (i : Int) (h : i < 0 ∨ (vs.length : Int) ≤ i) (S : Sto) : call SP 13 [.agg [.int .i64 4, .int .i64 0, .str [], .list 4 (encL vs) false], .agg [.int .i64 1, .int .i64 i, .str [], .list 4 [] false]] S = .ok (.v (.tup [.agg [.int .i64 0, .int .i64 0, .str [], .list 4 [] false], .int .i64 2])) S := by
  rw [call_code sp13 _ _ rfl]
  by_cases e1 : i < 0
  · simp only [sc13, ac0, encL_length, e1, List.map_cons, List.map_nil, PV.up, PV.upL, E_seq, E_reg, E_block, E_cnd, E_skip, E_exit, E_ret, E_dreg, thC_nor, thC_ret, thC_ext, thC_pan, inBlk_ext, inBlk_nor, inBlk_ret, inBlk_pan, evOps_cons, evOps_nil, thOps_ok, thOps_pan, evD_cons, evD_nil, thD_tot, thD_same, List.tail_cons, stp_none, stp_some, gd_tt, gd_ff, gd_tf, gd_ft, gd_undef, gd_td, gd_fd, ex_v, vo_some, ex, vop, ev_t, ev_c, put_some, put_none, upd_same, upd_ne, updK_same, updK_ne, ne_eq, argE_at, List.getElem?_cons_zero, List.getElem?_cons_succ, Option.getD_some, PV.cells, List.all_cons, List.all_nil, PV.one, Bool.and_true, Bool.true_and, if_true, and_self, true_and, and_true, killS, kill_box, kill_arr, e_box, e_arr, AK.tmp, PV.killL, PV.kill, killE_at, newBox, initC, initA, ld, getBox, setBox, getArr, setArr, pickC, Option.map_some, Option.map_none, PV.upN, binP, binInt, binStr, binB, unP, cnd_true, cnd_false, cnd_dec, cnd_not, Nat.reduceEqDiff, not_false_eq_true, not_true_eq_false, reduceIte, reduceCtorEq, Nat.reduceAdd, Nat.zero_add, Nat.add_zero, Nat.reduceLeDiff, Nat.reduceSub, Nat.reduceMul, fin_ret, fin_nor, List.length_cons, List.length_nil, List.drop_succ_cons, List.drop_zero, List.take_succ_cons, List.take_zero, fillP, setAt, List.set_cons_zero, List.set_cons_succ, storeP, stCells, stCell, PV.dnN, PV.dn, PV.dnL, retOf, rdRes, retL, ret1, retV, hand, hand1, handL, handA, List.tail_cons, callP, List.append_nil, List.nil_append, List.any_cons, List.any_nil, PV.hasSl, PV.isSl, Bool.or_false, Bool.false_or, Bool.false_eq_true, if_false, slcP, slcGo, fullOf, idx, iaddrP, lenP, lenS, appendP, newArr, view, srcRows, bigRow, okA, eqCells, convP, slsP, gd_tb, gd_fb, List.cons_append, Option.getD_none, List.getElem?_nil, AK.slot.injEq, AK.cell.injEq, decide_true, decide_false, Bool.not_true, Bool.not_false, Option.isNone_none, Option.isSome_none, Option.isSome_some, Option.isNone_some, prep, Ac.kill, PV.int.injEq, beq_self_eq_true, decide_eq_true_eq, Bool.not_eq_true, decide_eq_false_iff_not, true_or, or_true, false_or, or_false, false_and, and_false, Bool.not_not, Classical.not_not, Bool.false_and, Bool.and_false, Bool.and_self, ite_self, PV.pure, PV.plain, PV.plainL, Ret.plain, allPure, List.isEmpty_nil, List.isEmpty_cons, Bool.or_true, Bool.true_or, Int.reduceEq, Int.reduceNe, Int.reduceLT, Int.reduceLE, Int.reduceAdd, Int.reduceSub, Int.reduceMul, Int.reduceNeg, Nat.reduceLT, Nat.reduceDiv]
  · have e2 : (vs.length : Int) ≤ i := by omega
    simp only [sc13, ac0, encL_length, e1, e2, List.map_cons, List.map_nil, PV.up, PV.upL, E_seq, E_reg, E_block, E_cnd, E_skip, E_exit, E_ret, E_dreg, thC_nor, thC_ret, thC_ext, thC_pan, inBlk_ext, inBlk_nor, inBlk_ret, inBlk_pan, evOps_cons, evOps_nil, thOps_ok, thOps_pan, evD_cons, evD_nil, thD_tot, thD_same, List.tail_cons, stp_none, stp_some, gd_tt, gd_ff, gd_tf, gd_ft, gd_undef, gd_td, gd_fd, ex_v, vo_some, ex, vop, ev_t, ev_c, put_some, put_none, upd_same, upd_ne, updK_same, updK_ne, ne_eq, argE_at, List.getElem?_cons_zero, List.getElem?_cons_succ, Option.getD_some, PV.cells, List.all_cons, List.all_nil, PV.one, Bool.and_true, Bool.true_and, if_true, and_self, true_and, and_true, killS, kill_box, kill_arr, e_box, e_arr, AK.tmp, PV.killL, PV.kill, killE_at, newBox, initC, initA, ld, getBox, setBox, getArr, setArr, pickC, Option.map_some, Option.map_none, PV.upN, binP, binInt, binStr, binB, unP, cnd_true, cnd_false, cnd_dec, cnd_not, Nat.reduceEqDiff, not_false_eq_true, not_true_eq_false, reduceIte, reduceCtorEq, Nat.reduceAdd, Nat.zero_add, Nat.add_zero, Nat.reduceLeDiff, Nat.reduceSub, Nat.reduceMul, fin_ret, fin_nor, List.length_cons, List.length_nil, List.drop_succ_cons, List.drop_zero, List.take_succ_cons, List.take_zero, fillP, setAt, List.set_cons_zero, List.set_cons_succ, storeP, stCells, stCell, PV.dnN, PV.dn, PV.dnL, retOf, rdRes, retL, ret1, retV, hand, hand1, handL, handA, List.tail_cons, callP, List.append_nil, List.nil_append, List.any_cons, List.any_nil, PV.hasSl, PV.isSl, Bool.or_false, Bool.false_or, Bool.false_eq_true, if_false, slcP, slcGo, fullOf, idx, iaddrP, lenP, lenS, appendP, newArr, view, srcRows, bigRow, okA, eqCells, convP, slsP, gd_tb, gd_fb, List.cons_append, Option.getD_none, List.getElem?_nil, AK.slot.injEq, AK.cell.injEq, decide_true, decide_false, Bool.not_true, Bool.not_false, Option.isNone_none, Option.isSome_none, Option.isSome_some, Option.isNone_some, prep, Ac.kill, PV.int.injEq, beq_self_eq_true, decide_eq_true_eq, Bool.not_eq_true, decide_eq_false_iff_not, true_or, or_true, false_or, or_false, false_and, and_false, Bool.not_not, Classical.not_not, Bool.false_and, Bool.and_false, Bool.and_self, ite_self, PV.pure, PV.plain, PV.plainL, Ret.plain, allPure, List.isEmpty_nil, List.isEmpty_cons, Bool.or_true, Bool.true_or, Int.reduceEq, Int.reduceNe, Int.reduceLT, Int.reduceLE, Int.reduceAdd, Int.reduceSub, Int.reduceMul, Int.reduceNeg, Nat.reduceLT, Nat.reduceDiv]
/-- Are a value's fields as they should be, within too? -/
def plainV : V → Bool
  | .mk k n s l =>
    if k = 1 then decide (s = [] ∧ l.length = 0)
    else if k = 2 then decide (n = 0 ∧ s.length ≤ 400 ∧ l.length = 0)
    else if k = 3 then decide ((n = 0 ∨ n = 1) ∧ s = [] ∧ l.length = 0)
    else if k = 4 then decide (n = 0 ∧ s = [] ∧ l.length ≤ 64) && plainA l
    else false
where
  plainA : List V → Bool
    | [] => true
    | v :: vs => plainV v && plainA vs
end Go.Proofs.Ytebflncfgjnkkaa.M

/- Which values may be. -/
namespace Go.Proofs.Ytebflncfgjnkkaa.M
set_option linter.unusedSimpArgs false
set_option linter.unusedVariables false
open Go Classical
/-- The first that is not as it should be, from place i on. -/
def bad (i : Nat) : List V → Int
  | [] => -1
  | v :: vs => if plainV v = true then bad (i + 1) vs else i
theorem bad_drop {vs : List V} {i : Nat} {v : V} (h : vs[i]? = some v) : bad i (vs.drop i) = if plainV v = true then bad (i + 1) (vs.drop (i + 1)) else (i : Int) := by
  have hlt := (List.getElem?_eq_some_iff.1 h).1
  rw [List.drop_eq_getElem_cons hlt]
  have : vs[i] = v := (List.getElem?_eq_some_iff.1 h).2
  rw [this]
  rfl
theorem bad_iff : ∀ (vs : List V) (i : Nat), 0 ≤ bad i vs ↔ plainV.plainA vs = false
  | [], i => by simp [bad, plainV.plainA]
  | v :: vs, i => by
    have := bad_iff vs (i + 1)
    simp only [bad, plainV.plainA]
    cases h : plainV v with
    | true => simpa [h] using this
    | false => simp
/-- It leaves block 0, or it returns n in slot 4. -/
def Finds (n : Int) (S : Sto) : EO → Prop
  | .ext i ac => i = 0 ∧ n = -1 ∧ ∃ f', ac.S = f' :: S
  | .ret ac => ac.e 4 = .int .i64 n ∧ ∃ f', ac.S = f' :: S
  | _ => False
def b39 : SC := match sc39.code with | .seq _ (.seq (.seq _ (.block _ (.loop b))) _) => b | _ => .skip
theorem IndexFunc_ok (vs : List V) (hl : vs.length < 4611686018427387904) (hf : ∀ u ∈ vs, ∀ S, call SP 38 [.agg (enc u)] S = .ok (.v (.bool (!plainV u))) S) (S : Sto) : call SP 39 [.list 4 (encL vs) false, .func 38 []] S = .ok (.v (.int .i64 (bad 0 vs))) S := by
  have loop : ∀ (k i : Nat), i + k = vs.length → ∀ (e : Nat → PV) (f : Fr), e 0 = .list 4 (encL vs) false → e 1 = .func 38 [] → e 7 = .int .i64 vs.length → e 8 = .int .i64 i → Finds (bad i (vs.drop i)) S (E SP (.loop b39) ⟨e, f :: S⟩) := by
    intro k
    induction k with
    | zero =>
      intro i hi e f h0 h1 h7 h8
      have hlt : ¬ (i : Int) < (vs.length : Int) := by omega
      rw [E_loop]
      simp only [b39, sc39, h0, h1, h7, h8, hlt, List.map_cons, List.map_nil, PV.up, PV.upL, E_seq, E_reg, E_block, E_cnd, E_skip, E_exit, E_ret, E_dreg, thC_nor, thC_ret, thC_ext, thC_pan, inBlk_ext, inBlk_nor, inBlk_ret, inBlk_pan, evOps_cons, evOps_nil, thOps_ok, thOps_pan, evD_cons, evD_nil, thD_tot, thD_same, List.tail_cons, stp_none, stp_some, gd_tt, gd_ff, gd_tf, gd_ft, gd_undef, gd_td, gd_fd, ex_v, vo_some, ex, vop, ev_t, ev_c, put_some, put_none, upd_same, upd_ne, updK_same, updK_ne, ne_eq, argE_at, List.getElem?_cons_zero, List.getElem?_cons_succ, Option.getD_some, PV.cells, List.all_cons, List.all_nil, PV.one, Bool.and_true, Bool.true_and, if_true, and_self, true_and, and_true, killS, kill_box, kill_arr, e_box, e_arr, AK.tmp, PV.killL, PV.kill, killE_at, newBox, initC, initA, ld, getBox, setBox, getArr, setArr, pickC, Option.map_some, Option.map_none, PV.upN, binP, binInt, binStr, binB, unP, cnd_true, cnd_false, cnd_dec, cnd_not, Nat.reduceEqDiff, not_false_eq_true, not_true_eq_false, reduceIte, reduceCtorEq, Nat.reduceAdd, Nat.zero_add, Nat.add_zero, Nat.reduceLeDiff, Nat.reduceSub, Nat.reduceMul, fin_ret, fin_nor, List.length_cons, List.length_nil, List.drop_succ_cons, List.drop_zero, List.take_succ_cons, List.take_zero, fillP, setAt, List.set_cons_zero, List.set_cons_succ, storeP, stCells, stCell, PV.dnN, PV.dn, PV.dnL, retOf, rdRes, retL, ret1, retV, hand, hand1, handL, handA, List.tail_cons, callP, List.append_nil, List.nil_append, List.any_cons, List.any_nil, PV.hasSl, PV.isSl, Bool.or_false, Bool.false_or, Bool.false_eq_true, if_false, slcP, slcGo, fullOf, idx, iaddrP, lenP, lenS, appendP, newArr, view, srcRows, bigRow, okA, eqCells, convP, slsP, gd_tb, gd_fb, List.cons_append, Option.getD_none, List.getElem?_nil, AK.slot.injEq, AK.cell.injEq, decide_true, decide_false, Bool.not_true, Bool.not_false, Option.isNone_none, Option.isSome_none, Option.isSome_some, Option.isNone_some, prep, Ac.kill, PV.int.injEq, beq_self_eq_true, decide_eq_true_eq, Bool.not_eq_true, decide_eq_false_iff_not, true_or, or_true, false_or, or_false, false_and, and_false, Bool.not_not, Classical.not_not, Bool.false_and, Bool.and_false, Bool.and_self, ite_self, PV.pure, PV.plain, PV.plainL, Ret.plain, allPure, List.isEmpty_nil, List.isEmpty_cons, Bool.or_true, Bool.true_or, Int.reduceEq, Int.reduceNe, Int.reduceLT, Int.reduceLE, Int.reduceAdd, Int.reduceSub, Int.reduceMul, Int.reduceNeg, Nat.reduceLT, Nat.reduceDiv]
      refine ⟨rfl, ?_, _, rfl⟩
      rw [List.drop_eq_nil_of_le (by omega)]
      rfl
    | succ k ih =>
      intro i hi e f h0 h1 h7 h8
      have hlt : (i : Int) < (vs.length : Int) := by omega
      have hi' : i < vs.length := by omega
      have hget : vs[i]? = some vs[i] := List.getElem?_eq_getElem hi'
      have hrow : (encL vs)[i]? = some (enc vs[i]) := by rw [encL_get, hget]; rfl
      have hfu := hf vs[i] (List.mem_of_getElem? hget)
      rw [enc_eq] at hrow hfu
      have w1 : IntKind.i64.wrap ((i : Int) + 1) = ((i + 1 : Nat) : Int) := by rw [wrap_i64 (by omega) (by omega)]; omega
      rw [E_loop, bad_drop hget]
      simp only [b39, sc39] at ih ⊢
      cases hp : plainV vs[i] with
      | true =>
        rw [hp] at hfu
        simp only [h0, h1, h7, h8, hlt, hrow, hfu, hp, nat_nonneg, Int.toNat_natCast, w1, List.map_cons, List.map_nil, PV.up, PV.upL, E_seq, E_reg, E_block, E_cnd, E_skip, E_exit, E_ret, E_dreg, thC_nor, thC_ret, thC_ext, thC_pan, inBlk_ext, inBlk_nor, inBlk_ret, inBlk_pan, evOps_cons, evOps_nil, thOps_ok, thOps_pan, evD_cons, evD_nil, thD_tot, thD_same, List.tail_cons, stp_none, stp_some, gd_tt, gd_ff, gd_tf, gd_ft, gd_undef, gd_td, gd_fd, ex_v, vo_some, ex, vop, ev_t, ev_c, put_some, put_none, upd_same, upd_ne, updK_same, updK_ne, ne_eq, argE_at, List.getElem?_cons_zero, List.getElem?_cons_succ, Option.getD_some, PV.cells, List.all_cons, List.all_nil, PV.one, Bool.and_true, Bool.true_and, if_true, and_self, true_and, and_true, killS, kill_box, kill_arr, e_box, e_arr, AK.tmp, PV.killL, PV.kill, killE_at, newBox, initC, initA, ld, getBox, setBox, getArr, setArr, pickC, Option.map_some, Option.map_none, PV.upN, binP, binInt, binStr, binB, unP, cnd_true, cnd_false, cnd_dec, cnd_not, Nat.reduceEqDiff, not_false_eq_true, not_true_eq_false, reduceIte, reduceCtorEq, Nat.reduceAdd, Nat.zero_add, Nat.add_zero, Nat.reduceLeDiff, Nat.reduceSub, Nat.reduceMul, fin_ret, fin_nor, List.length_cons, List.length_nil, List.drop_succ_cons, List.drop_zero, List.take_succ_cons, List.take_zero, fillP, setAt, List.set_cons_zero, List.set_cons_succ, storeP, stCells, stCell, PV.dnN, PV.dn, PV.dnL, retOf, rdRes, retL, ret1, retV, hand, hand1, handL, handA, List.tail_cons, callP, List.append_nil, List.nil_append, List.any_cons, List.any_nil, PV.hasSl, PV.isSl, Bool.or_false, Bool.false_or, Bool.false_eq_true, if_false, slcP, slcGo, fullOf, idx, iaddrP, lenP, lenS, appendP, newArr, view, srcRows, bigRow, okA, eqCells, convP, slsP, gd_tb, gd_fb, List.cons_append, Option.getD_none, List.getElem?_nil, AK.slot.injEq, AK.cell.injEq, decide_true, decide_false, Bool.not_true, Bool.not_false, Option.isNone_none, Option.isSome_none, Option.isSome_some, Option.isNone_some, prep, Ac.kill, PV.int.injEq, beq_self_eq_true, decide_eq_true_eq, Bool.not_eq_true, decide_eq_false_iff_not, true_or, or_true, false_or, or_false, false_and, and_false, Bool.not_not, Classical.not_not, Bool.false_and, Bool.and_false, Bool.and_self, ite_self, PV.pure, PV.plain, PV.plainL, Ret.plain, allPure, List.isEmpty_nil, List.isEmpty_cons, Bool.or_true, Bool.true_or, Int.reduceEq, Int.reduceNe, Int.reduceLT, Int.reduceLE, Int.reduceAdd, Int.reduceSub, Int.reduceMul, Int.reduceNeg, Nat.reduceLT, Nat.reduceDiv]
        refine ih (i + 1) (by omega) _ _ ?_ ?_ ?_ ?_
        · simp only [h0, List.map_cons, List.map_nil, PV.up, PV.upL, E_seq, E_reg, E_block, E_cnd, E_skip, E_exit, E_ret, E_dreg, thC_nor, thC_ret, thC_ext, thC_pan, inBlk_ext, inBlk_nor, inBlk_ret, inBlk_pan, evOps_cons, evOps_nil, thOps_ok, thOps_pan, evD_cons, evD_nil, thD_tot, thD_same, List.tail_cons, stp_none, stp_some, gd_tt, gd_ff, gd_tf, gd_ft, gd_undef, gd_td, gd_fd, ex_v, vo_some, ex, vop, ev_t, ev_c, put_some, put_none, upd_same, upd_ne, updK_same, updK_ne, ne_eq, argE_at, List.getElem?_cons_zero, List.getElem?_cons_succ, Option.getD_some, PV.cells, List.all_cons, List.all_nil, PV.one, Bool.and_true, Bool.true_and, if_true, and_self, true_and, and_true, killS, kill_box, kill_arr, e_box, e_arr, AK.tmp, PV.killL, PV.kill, killE_at, newBox, initC, initA, ld, getBox, setBox, getArr, setArr, pickC, Option.map_some, Option.map_none, PV.upN, binP, binInt, binStr, binB, unP, cnd_true, cnd_false, cnd_dec, cnd_not, Nat.reduceEqDiff, not_false_eq_true, not_true_eq_false, reduceIte, reduceCtorEq, Nat.reduceAdd, Nat.zero_add, Nat.add_zero, Nat.reduceLeDiff, Nat.reduceSub, Nat.reduceMul, fin_ret, fin_nor, List.length_cons, List.length_nil, List.drop_succ_cons, List.drop_zero, List.take_succ_cons, List.take_zero, fillP, setAt, List.set_cons_zero, List.set_cons_succ, storeP, stCells, stCell, PV.dnN, PV.dn, PV.dnL, retOf, rdRes, retL, ret1, retV, hand, hand1, handL, handA, List.tail_cons, callP, List.append_nil, List.nil_append, List.any_cons, List.any_nil, PV.hasSl, PV.isSl, Bool.or_false, Bool.false_or, Bool.false_eq_true, if_false, slcP, slcGo, fullOf, idx, iaddrP, lenP, lenS, appendP, newArr, view, srcRows, bigRow, okA, eqCells, convP, slsP, gd_tb, gd_fb, List.cons_append, Option.getD_none, List.getElem?_nil, AK.slot.injEq, AK.cell.injEq, decide_true, decide_false, Bool.not_true, Bool.not_false, Option.isNone_none, Option.isSome_none, Option.isSome_some, Option.isNone_some, prep, Ac.kill, PV.int.injEq, beq_self_eq_true, decide_eq_true_eq, Bool.not_eq_true, decide_eq_false_iff_not, true_or, or_true, false_or, or_false, false_and, and_false, Bool.not_not, Classical.not_not, Bool.false_and, Bool.and_false, Bool.and_self, ite_self, PV.pure, PV.plain, PV.plainL, Ret.plain, allPure, List.isEmpty_nil, List.isEmpty_cons, Bool.or_true, Bool.true_or, Int.reduceEq, Int.reduceNe, Int.reduceLT, Int.reduceLE, Int.reduceAdd, Int.reduceSub, Int.reduceMul, Int.reduceNeg, Nat.reduceLT, Nat.reduceDiv]
        · simp only [h1, List.map_cons, List.map_nil, PV.up, PV.upL, E_seq, E_reg, E_block, E_cnd, E_skip, E_exit, E_ret, E_dreg, thC_nor, thC_ret, thC_ext, thC_pan, inBlk_ext, inBlk_nor, inBlk_ret, inBlk_pan, evOps_cons, evOps_nil, thOps_ok, thOps_pan, evD_cons, evD_nil, thD_tot, thD_same, List.tail_cons, stp_none, stp_some, gd_tt, gd_ff, gd_tf, gd_ft, gd_undef, gd_td, gd_fd, ex_v, vo_some, ex, vop, ev_t, ev_c, put_some, put_none, upd_same, upd_ne, updK_same, updK_ne, ne_eq, argE_at, List.getElem?_cons_zero, List.getElem?_cons_succ, Option.getD_some, PV.cells, List.all_cons, List.all_nil, PV.one, Bool.and_true, Bool.true_and, if_true, and_self, true_and, and_true, killS, kill_box, kill_arr, e_box, e_arr, AK.tmp, PV.killL, PV.kill, killE_at, newBox, initC, initA, ld, getBox, setBox, getArr, setArr, pickC, Option.map_some, Option.map_none, PV.upN, binP, binInt, binStr, binB, unP, cnd_true, cnd_false, cnd_dec, cnd_not, Nat.reduceEqDiff, not_false_eq_true, not_true_eq_false, reduceIte, reduceCtorEq, Nat.reduceAdd, Nat.zero_add, Nat.add_zero, Nat.reduceLeDiff, Nat.reduceSub, Nat.reduceMul, fin_ret, fin_nor, List.length_cons, List.length_nil, List.drop_succ_cons, List.drop_zero, List.take_succ_cons, List.take_zero, fillP, setAt, List.set_cons_zero, List.set_cons_succ, storeP, stCells, stCell, PV.dnN, PV.dn, PV.dnL, retOf, rdRes, retL, ret1, retV, hand, hand1, handL, handA, List.tail_cons, callP, List.append_nil, List.nil_append, List.any_cons, List.any_nil, PV.hasSl, PV.isSl, Bool.or_false, Bool.false_or, Bool.false_eq_true, if_false, slcP, slcGo, fullOf, idx, iaddrP, lenP, lenS, appendP, newArr, view, srcRows, bigRow, okA, eqCells, convP, slsP, gd_tb, gd_fb, List.cons_append, Option.getD_none, List.getElem?_nil, AK.slot.injEq, AK.cell.injEq, decide_true, decide_false, Bool.not_true, Bool.not_false, Option.isNone_none, Option.isSome_none, Option.isSome_some, Option.isNone_some, prep, Ac.kill, PV.int.injEq, beq_self_eq_true, decide_eq_true_eq, Bool.not_eq_true, decide_eq_false_iff_not, true_or, or_true, false_or, or_false, false_and, and_false, Bool.not_not, Classical.not_not, Bool.false_and, Bool.and_false, Bool.and_self, ite_self, PV.pure, PV.plain, PV.plainL, Ret.plain, allPure, List.isEmpty_nil, List.isEmpty_cons, Bool.or_true, Bool.true_or, Int.reduceEq, Int.reduceNe, Int.reduceLT, Int.reduceLE, Int.reduceAdd, Int.reduceSub, Int.reduceMul, Int.reduceNeg, Nat.reduceLT, Nat.reduceDiv]
        · simp only [h7, List.map_cons, List.map_nil, PV.up, PV.upL, E_seq, E_reg, E_block, E_cnd, E_skip, E_exit, E_ret, E_dreg, thC_nor, thC_ret, thC_ext, thC_pan, inBlk_ext, inBlk_nor, inBlk_ret, inBlk_pan, evOps_cons, evOps_nil, thOps_ok, thOps_pan, evD_cons, evD_nil, thD_tot, thD_same, List.tail_cons, stp_none, stp_some, gd_tt, gd_ff, gd_tf, gd_ft, gd_undef, gd_td, gd_fd, ex_v, vo_some, ex, vop, ev_t, ev_c, put_some, put_none, upd_same, upd_ne, updK_same, updK_ne, ne_eq, argE_at, List.getElem?_cons_zero, List.getElem?_cons_succ, Option.getD_some, PV.cells, List.all_cons, List.all_nil, PV.one, Bool.and_true, Bool.true_and, if_true, and_self, true_and, and_true, killS, kill_box, kill_arr, e_box, e_arr, AK.tmp, PV.killL, PV.kill, killE_at, newBox, initC, initA, ld, getBox, setBox, getArr, setArr, pickC, Option.map_some, Option.map_none, PV.upN, binP, binInt, binStr, binB, unP, cnd_true, cnd_false, cnd_dec, cnd_not, Nat.reduceEqDiff, not_false_eq_true, not_true_eq_false, reduceIte, reduceCtorEq, Nat.reduceAdd, Nat.zero_add, Nat.add_zero, Nat.reduceLeDiff, Nat.reduceSub, Nat.reduceMul, fin_ret, fin_nor, List.length_cons, List.length_nil, List.drop_succ_cons, List.drop_zero, List.take_succ_cons, List.take_zero, fillP, setAt, List.set_cons_zero, List.set_cons_succ, storeP, stCells, stCell, PV.dnN, PV.dn, PV.dnL, retOf, rdRes, retL, ret1, retV, hand, hand1, handL, handA, List.tail_cons, callP, List.append_nil, List.nil_append, List.any_cons, List.any_nil, PV.hasSl, PV.isSl, Bool.or_false, Bool.false_or, Bool.false_eq_true, if_false, slcP, slcGo, fullOf, idx, iaddrP, lenP, lenS, appendP, newArr, view, srcRows, bigRow, okA, eqCells, convP, slsP, gd_tb, gd_fb, List.cons_append, Option.getD_none, List.getElem?_nil, AK.slot.injEq, AK.cell.injEq, decide_true, decide_false, Bool.not_true, Bool.not_false, Option.isNone_none, Option.isSome_none, Option.isSome_some, Option.isNone_some, prep, Ac.kill, PV.int.injEq, beq_self_eq_true, decide_eq_true_eq, Bool.not_eq_true, decide_eq_false_iff_not, true_or, or_true, false_or, or_false, false_and, and_false, Bool.not_not, Classical.not_not, Bool.false_and, Bool.and_false, Bool.and_self, ite_self, PV.pure, PV.plain, PV.plainL, Ret.plain, allPure, List.isEmpty_nil, List.isEmpty_cons, Bool.or_true, Bool.true_or, Int.reduceEq, Int.reduceNe, Int.reduceLT, Int.reduceLE, Int.reduceAdd, Int.reduceSub, Int.reduceMul, Int.reduceNeg, Nat.reduceLT, Nat.reduceDiv]
        · simp only [List.map_cons, List.map_nil, PV.up, PV.upL, E_seq, E_reg, E_block, E_cnd, E_skip, E_exit, E_ret, E_dreg, thC_nor, thC_ret, thC_ext, thC_pan, inBlk_ext, inBlk_nor, inBlk_ret, inBlk_pan, evOps_cons, evOps_nil, thOps_ok, thOps_pan, evD_cons, evD_nil, thD_tot, thD_same, List.tail_cons, stp_none, stp_some, gd_tt, gd_ff, gd_tf, gd_ft, gd_undef, gd_td, gd_fd, ex_v, vo_some, ex, vop, ev_t, ev_c, put_some, put_none, upd_same, upd_ne, updK_same, updK_ne, ne_eq, argE_at, List.getElem?_cons_zero, List.getElem?_cons_succ, Option.getD_some, PV.cells, List.all_cons, List.all_nil, PV.one, Bool.and_true, Bool.true_and, if_true, and_self, true_and, and_true, killS, kill_box, kill_arr, e_box, e_arr, AK.tmp, PV.killL, PV.kill, killE_at, newBox, initC, initA, ld, getBox, setBox, getArr, setArr, pickC, Option.map_some, Option.map_none, PV.upN, binP, binInt, binStr, binB, unP, cnd_true, cnd_false, cnd_dec, cnd_not, Nat.reduceEqDiff, not_false_eq_true, not_true_eq_false, reduceIte, reduceCtorEq, Nat.reduceAdd, Nat.zero_add, Nat.add_zero, Nat.reduceLeDiff, Nat.reduceSub, Nat.reduceMul, fin_ret, fin_nor, List.length_cons, List.length_nil, List.drop_succ_cons, List.drop_zero, List.take_succ_cons, List.take_zero, fillP, setAt, List.set_cons_zero, List.set_cons_succ, storeP, stCells, stCell, PV.dnN, PV.dn, PV.dnL, retOf, rdRes, retL, ret1, retV, hand, hand1, handL, handA, List.tail_cons, callP, List.append_nil, List.nil_append, List.any_cons, List.any_nil, PV.hasSl, PV.isSl, Bool.or_false, Bool.false_or, Bool.false_eq_true, if_false, slcP, slcGo, fullOf, idx, iaddrP, lenP, lenS, appendP, newArr, view, srcRows, bigRow, okA, eqCells, convP, slsP, gd_tb, gd_fb, List.cons_append, Option.getD_none, List.getElem?_nil, AK.slot.injEq, AK.cell.injEq, decide_true, decide_false, Bool.not_true, Bool.not_false, Option.isNone_none, Option.isSome_none, Option.isSome_some, Option.isNone_some, prep, Ac.kill, PV.int.injEq, beq_self_eq_true, decide_eq_true_eq, Bool.not_eq_true, decide_eq_false_iff_not, true_or, or_true, false_or, or_false, false_and, and_false, Bool.not_not, Classical.not_not, Bool.false_and, Bool.and_false, Bool.and_self, ite_self, PV.pure, PV.plain, PV.plainL, Ret.plain, allPure, List.isEmpty_nil, List.isEmpty_cons, Bool.or_true, Bool.true_or, Int.reduceEq, Int.reduceNe, Int.reduceLT, Int.reduceLE, Int.reduceAdd, Int.reduceSub, Int.reduceMul, Int.reduceNeg, Nat.reduceLT, Nat.reduceDiv]
      | false =>
        rw [hp] at hfu
        simp only [h0, h1, h7, h8, hlt, hrow, hfu, hp, nat_nonneg, Int.toNat_natCast, w1, List.map_cons, List.map_nil, PV.up, PV.upL, E_seq, E_reg, E_block, E_cnd, E_skip, E_exit, E_ret, E_dreg, thC_nor, thC_ret, thC_ext, thC_pan, inBlk_ext, inBlk_nor, inBlk_ret, inBlk_pan, evOps_cons, evOps_nil, thOps_ok, thOps_pan, evD_cons, evD_nil, thD_tot, thD_same, List.tail_cons, stp_none, stp_some, gd_tt, gd_ff, gd_tf, gd_ft, gd_undef, gd_td, gd_fd, ex_v, vo_some, ex, vop, ev_t, ev_c, put_some, put_none, upd_same, upd_ne, updK_same, updK_ne, ne_eq, argE_at, List.getElem?_cons_zero, List.getElem?_cons_succ, Option.getD_some, PV.cells, List.all_cons, List.all_nil, PV.one, Bool.and_true, Bool.true_and, if_true, and_self, true_and, and_true, killS, kill_box, kill_arr, e_box, e_arr, AK.tmp, PV.killL, PV.kill, killE_at, newBox, initC, initA, ld, getBox, setBox, getArr, setArr, pickC, Option.map_some, Option.map_none, PV.upN, binP, binInt, binStr, binB, unP, cnd_true, cnd_false, cnd_dec, cnd_not, Nat.reduceEqDiff, not_false_eq_true, not_true_eq_false, reduceIte, reduceCtorEq, Nat.reduceAdd, Nat.zero_add, Nat.add_zero, Nat.reduceLeDiff, Nat.reduceSub, Nat.reduceMul, fin_ret, fin_nor, List.length_cons, List.length_nil, List.drop_succ_cons, List.drop_zero, List.take_succ_cons, List.take_zero, fillP, setAt, List.set_cons_zero, List.set_cons_succ, storeP, stCells, stCell, PV.dnN, PV.dn, PV.dnL, retOf, rdRes, retL, ret1, retV, hand, hand1, handL, handA, List.tail_cons, callP, List.append_nil, List.nil_append, List.any_cons, List.any_nil, PV.hasSl, PV.isSl, Bool.or_false, Bool.false_or, Bool.false_eq_true, if_false, slcP, slcGo, fullOf, idx, iaddrP, lenP, lenS, appendP, newArr, view, srcRows, bigRow, okA, eqCells, convP, slsP, gd_tb, gd_fb, List.cons_append, Option.getD_none, List.getElem?_nil, AK.slot.injEq, AK.cell.injEq, decide_true, decide_false, Bool.not_true, Bool.not_false, Option.isNone_none, Option.isSome_none, Option.isSome_some, Option.isNone_some, prep, Ac.kill, PV.int.injEq, beq_self_eq_true, decide_eq_true_eq, Bool.not_eq_true, decide_eq_false_iff_not, true_or, or_true, false_or, or_false, false_and, and_false, Bool.not_not, Classical.not_not, Bool.false_and, Bool.and_false, Bool.and_self, ite_self, PV.pure, PV.plain, PV.plainL, Ret.plain, allPure, List.isEmpty_nil, List.isEmpty_cons, Bool.or_true, Bool.true_or, Int.reduceEq, Int.reduceNe, Int.reduceLT, Int.reduceLE, Int.reduceAdd, Int.reduceSub, Int.reduceMul, Int.reduceNeg, Nat.reduceLT, Nat.reduceDiv]
        exact ⟨rfl, _, rfl⟩
  rw [call_code sp39 _ _ rfl]
  simp only [sc39, ac0, encL_length, List.map_cons, List.map_nil, PV.up, PV.upL, E_seq, E_reg, E_block, E_cnd, E_skip, E_exit, E_ret, E_dreg, thC_nor, thC_ret, thC_ext, thC_pan, inBlk_ext, inBlk_nor, inBlk_ret, inBlk_pan, evOps_cons, evOps_nil, thOps_ok, thOps_pan, evD_cons, evD_nil, thD_tot, thD_same, List.tail_cons, stp_none, stp_some, gd_tt, gd_ff, gd_tf, gd_ft, gd_undef, gd_td, gd_fd, ex_v, vo_some, ex, vop, ev_t, ev_c, put_some, put_none, upd_same, upd_ne, updK_same, updK_ne, ne_eq, argE_at, List.getElem?_cons_zero, List.getElem?_cons_succ, Option.getD_some, PV.cells, List.all_cons, List.all_nil, PV.one, Bool.and_true, Bool.true_and, if_true, and_self, true_and, and_true, killS, kill_box, kill_arr, e_box, e_arr, AK.tmp, PV.killL, PV.kill, killE_at, newBox, initC, initA, ld, getBox, setBox, getArr, setArr, pickC, Option.map_some, Option.map_none, PV.upN, binP, binInt, binStr, binB, unP, cnd_true, cnd_false, cnd_dec, cnd_not, Nat.reduceEqDiff, not_false_eq_true, not_true_eq_false, reduceIte, reduceCtorEq, Nat.reduceAdd, Nat.zero_add, Nat.add_zero, Nat.reduceLeDiff, Nat.reduceSub, Nat.reduceMul, fin_ret, fin_nor, List.length_cons, List.length_nil, List.drop_succ_cons, List.drop_zero, List.take_succ_cons, List.take_zero, fillP, setAt, List.set_cons_zero, List.set_cons_succ, storeP, stCells, stCell, PV.dnN, PV.dn, PV.dnL, retOf, rdRes, retL, ret1, retV, hand, hand1, handL, handA, List.tail_cons, callP, List.append_nil, List.nil_append, List.any_cons, List.any_nil, PV.hasSl, PV.isSl, Bool.or_false, Bool.false_or, Bool.false_eq_true, if_false, slcP, slcGo, fullOf, idx, iaddrP, lenP, lenS, appendP, newArr, view, srcRows, bigRow, okA, eqCells, convP, slsP, gd_tb, gd_fb, List.cons_append, Option.getD_none, List.getElem?_nil, AK.slot.injEq, AK.cell.injEq, decide_true, decide_false, Bool.not_true, Bool.not_false, Option.isNone_none, Option.isSome_none, Option.isSome_some, Option.isNone_some, prep, Ac.kill, PV.int.injEq, beq_self_eq_true, decide_eq_true_eq, Bool.not_eq_true, decide_eq_false_iff_not, true_or, or_true, false_or, or_false, false_and, and_false, Bool.not_not, Classical.not_not, Bool.false_and, Bool.and_false, Bool.and_self, ite_self, PV.pure, PV.plain, PV.plainL, Ret.plain, allPure, List.isEmpty_nil, List.isEmpty_cons, Bool.or_true, Bool.true_or, Int.reduceEq, Int.reduceNe, Int.reduceLT, Int.reduceLE, Int.reduceAdd, Int.reduceSub, Int.reduceMul, Int.reduceNeg, Nat.reduceLT, Nat.reduceDiv]
  have h := loop vs.length 0 (by omega)
  simp only [b39, sc39] at h
  generalize hr : E SP _ _ = r
  have hx : Finds (bad 0 (vs.drop 0)) S r := by
    rw [← hr]
    refine h _ _ ?_ ?_ ?_ ?_
    all_goals first | rfl | (simp only [List.map_cons, List.map_nil, PV.up, PV.upL, E_seq, E_reg, E_block, E_cnd, E_skip, E_exit, E_ret, E_dreg, thC_nor, thC_ret, thC_ext, thC_pan, inBlk_ext, inBlk_nor, inBlk_ret, inBlk_pan, evOps_cons, evOps_nil, thOps_ok, thOps_pan, evD_cons, evD_nil, thD_tot, thD_same, List.tail_cons, stp_none, stp_some, gd_tt, gd_ff, gd_tf, gd_ft, gd_undef, gd_td, gd_fd, ex_v, vo_some, ex, vop, ev_t, ev_c, put_some, put_none, upd_same, upd_ne, updK_same, updK_ne, ne_eq, argE_at, List.getElem?_cons_zero, List.getElem?_cons_succ, Option.getD_some, PV.cells, List.all_cons, List.all_nil, PV.one, Bool.and_true, Bool.true_and, if_true, and_self, true_and, and_true, killS, kill_box, kill_arr, e_box, e_arr, AK.tmp, PV.killL, PV.kill, killE_at, newBox, initC, initA, ld, getBox, setBox, getArr, setArr, pickC, Option.map_some, Option.map_none, PV.upN, binP, binInt, binStr, binB, unP, cnd_true, cnd_false, cnd_dec, cnd_not, Nat.reduceEqDiff, not_false_eq_true, not_true_eq_false, reduceIte, reduceCtorEq, Nat.reduceAdd, Nat.zero_add, Nat.add_zero, Nat.reduceLeDiff, Nat.reduceSub, Nat.reduceMul, fin_ret, fin_nor, List.length_cons, List.length_nil, List.drop_succ_cons, List.drop_zero, List.take_succ_cons, List.take_zero, fillP, setAt, List.set_cons_zero, List.set_cons_succ, storeP, stCells, stCell, PV.dnN, PV.dn, PV.dnL, retOf, rdRes, retL, ret1, retV, hand, hand1, handL, handA, List.tail_cons, callP, List.append_nil, List.nil_append, List.any_cons, List.any_nil, PV.hasSl, PV.isSl, Bool.or_false, Bool.false_or, Bool.false_eq_true, if_false, slcP, slcGo, fullOf, idx, iaddrP, lenP, lenS, appendP, newArr, view, srcRows, bigRow, okA, eqCells, convP, slsP, gd_tb, gd_fb, List.cons_append, Option.getD_none, List.getElem?_nil, AK.slot.injEq, AK.cell.injEq, decide_true, decide_false, Bool.not_true, Bool.not_false, Option.isNone_none, Option.isSome_none, Option.isSome_some, Option.isNone_some, prep, Ac.kill, PV.int.injEq, beq_self_eq_true, decide_eq_true_eq, Bool.not_eq_true, decide_eq_false_iff_not, true_or, or_true, false_or, or_false, false_and, and_false, Bool.not_not, Classical.not_not, Bool.false_and, Bool.and_false, Bool.and_self, ite_self, PV.pure, PV.plain, PV.plainL, Ret.plain, allPure, List.isEmpty_nil, List.isEmpty_cons, Bool.or_true, Bool.true_or, Int.reduceEq, Int.reduceNe, Int.reduceLT, Int.reduceLE, Int.reduceAdd, Int.reduceSub, Int.reduceMul, Int.reduceNeg, Nat.reduceLT, Nat.reduceDiv]; done) | (simp only [List.map_cons, List.map_nil, PV.up, PV.upL, E_seq, E_reg, E_block, E_cnd, E_skip, E_exit, E_ret, E_dreg, thC_nor, thC_ret, thC_ext, thC_pan, inBlk_ext, inBlk_nor, inBlk_ret, inBlk_pan, evOps_cons, evOps_nil, thOps_ok, thOps_pan, evD_cons, evD_nil, thD_tot, thD_same, List.tail_cons, stp_none, stp_some, gd_tt, gd_ff, gd_tf, gd_ft, gd_undef, gd_td, gd_fd, ex_v, vo_some, ex, vop, ev_t, ev_c, put_some, put_none, upd_same, upd_ne, updK_same, updK_ne, ne_eq, argE_at, List.getElem?_cons_zero, List.getElem?_cons_succ, Option.getD_some, PV.cells, List.all_cons, List.all_nil, PV.one, Bool.and_true, Bool.true_and, if_true, and_self, true_and, and_true, killS, kill_box, kill_arr, e_box, e_arr, AK.tmp, PV.killL, PV.kill, killE_at, newBox, initC, initA, ld, getBox, setBox, getArr, setArr, pickC, Option.map_some, Option.map_none, PV.upN, binP, binInt, binStr, binB, unP, cnd_true, cnd_false, cnd_dec, cnd_not, Nat.reduceEqDiff, not_false_eq_true, not_true_eq_false, reduceIte, reduceCtorEq, Nat.reduceAdd, Nat.zero_add, Nat.add_zero, Nat.reduceLeDiff, Nat.reduceSub, Nat.reduceMul, fin_ret, fin_nor, List.length_cons, List.length_nil, List.drop_succ_cons, List.drop_zero, List.take_succ_cons, List.take_zero, fillP, setAt, List.set_cons_zero, List.set_cons_succ, storeP, stCells, stCell, PV.dnN, PV.dn, PV.dnL, retOf, rdRes, retL, ret1, retV, hand, hand1, handL, handA, List.tail_cons, callP, List.append_nil, List.nil_append, List.any_cons, List.any_nil, PV.hasSl, PV.isSl, Bool.or_false, Bool.false_or, Bool.false_eq_true, if_false, slcP, slcGo, fullOf, idx, iaddrP, lenP, lenS, appendP, newArr, view, srcRows, bigRow, okA, eqCells, convP, slsP, gd_tb, gd_fb, List.cons_append, Option.getD_none, List.getElem?_nil, AK.slot.injEq, AK.cell.injEq, decide_true, decide_false, Bool.not_true, Bool.not_false, Option.isNone_none, Option.isSome_none, Option.isSome_some, Option.isNone_some, prep, Ac.kill, PV.int.injEq, beq_self_eq_true, decide_eq_true_eq, Bool.not_eq_true, decide_eq_false_iff_not, true_or, or_true, false_or, or_false, false_and, and_false, Bool.not_not, Classical.not_not, Bool.false_and, Bool.and_false, Bool.and_self, ite_self, PV.pure, PV.plain, PV.plainL, Ret.plain, allPure, List.isEmpty_nil, List.isEmpty_cons, Bool.or_true, Bool.true_or, Int.reduceEq, Int.reduceNe, Int.reduceLT, Int.reduceLE, Int.reduceAdd, Int.reduceSub, Int.reduceMul, Int.reduceNeg, Nat.reduceLT, Nat.reduceDiv]; rfl)
  rw [List.drop_zero] at hx
  cases r with
  | ext i ac =>
    obtain ⟨rfl, hn, f', hS⟩ := hx
    obtain ⟨e, S'⟩ := ac
    simp only at hS
    subst hS
    simp only [hn, List.map_cons, List.map_nil, PV.up, PV.upL, E_seq, E_reg, E_block, E_cnd, E_skip, E_exit, E_ret, E_dreg, thC_nor, thC_ret, thC_ext, thC_pan, inBlk_ext, inBlk_nor, inBlk_ret, inBlk_pan, evOps_cons, evOps_nil, thOps_ok, thOps_pan, evD_cons, evD_nil, thD_tot, thD_same, List.tail_cons, stp_none, stp_some, gd_tt, gd_ff, gd_tf, gd_ft, gd_undef, gd_td, gd_fd, ex_v, vo_some, ex, vop, ev_t, ev_c, put_some, put_none, upd_same, upd_ne, updK_same, updK_ne, ne_eq, argE_at, List.getElem?_cons_zero, List.getElem?_cons_succ, Option.getD_some, PV.cells, List.all_cons, List.all_nil, PV.one, Bool.and_true, Bool.true_and, if_true, and_self, true_and, and_true, killS, kill_box, kill_arr, e_box, e_arr, AK.tmp, PV.killL, PV.kill, killE_at, newBox, initC, initA, ld, getBox, setBox, getArr, setArr, pickC, Option.map_some, Option.map_none, PV.upN, binP, binInt, binStr, binB, unP, cnd_true, cnd_false, cnd_dec, cnd_not, Nat.reduceEqDiff, not_false_eq_true, not_true_eq_false, reduceIte, reduceCtorEq, Nat.reduceAdd, Nat.zero_add, Nat.add_zero, Nat.reduceLeDiff, Nat.reduceSub, Nat.reduceMul, fin_ret, fin_nor, List.length_cons, List.length_nil, List.drop_succ_cons, List.drop_zero, List.take_succ_cons, List.take_zero, fillP, setAt, List.set_cons_zero, List.set_cons_succ, storeP, stCells, stCell, PV.dnN, PV.dn, PV.dnL, retOf, rdRes, retL, ret1, retV, hand, hand1, handL, handA, List.tail_cons, callP, List.append_nil, List.nil_append, List.any_cons, List.any_nil, PV.hasSl, PV.isSl, Bool.or_false, Bool.false_or, Bool.false_eq_true, if_false, slcP, slcGo, fullOf, idx, iaddrP, lenP, lenS, appendP, newArr, view, srcRows, bigRow, okA, eqCells, convP, slsP, gd_tb, gd_fb, List.cons_append, Option.getD_none, List.getElem?_nil, AK.slot.injEq, AK.cell.injEq, decide_true, decide_false, Bool.not_true, Bool.not_false, Option.isNone_none, Option.isSome_none, Option.isSome_some, Option.isNone_some, prep, Ac.kill, PV.int.injEq, beq_self_eq_true, decide_eq_true_eq, Bool.not_eq_true, decide_eq_false_iff_not, true_or, or_true, false_or, or_false, false_and, and_false, Bool.not_not, Classical.not_not, Bool.false_and, Bool.and_false, Bool.and_self, ite_self, PV.pure, PV.plain, PV.plainL, Ret.plain, allPure, List.isEmpty_nil, List.isEmpty_cons, Bool.or_true, Bool.true_or, Int.reduceEq, Int.reduceNe, Int.reduceLT, Int.reduceLE, Int.reduceAdd, Int.reduceSub, Int.reduceMul, Int.reduceNeg, Nat.reduceLT, Nat.reduceDiv]
  | ret ac =>
    obtain ⟨he, f', hS⟩ := hx
    obtain ⟨e, S'⟩ := ac
    simp only at hS he
    subst hS
    simp only [he, List.map_cons, List.map_nil, PV.up, PV.upL, E_seq, E_reg, E_block, E_cnd, E_skip, E_exit, E_ret, E_dreg, thC_nor, thC_ret, thC_ext, thC_pan, inBlk_ext, inBlk_nor, inBlk_ret, inBlk_pan, evOps_cons, evOps_nil, thOps_ok, thOps_pan, evD_cons, evD_nil, thD_tot, thD_same, List.tail_cons, stp_none, stp_some, gd_tt, gd_ff, gd_tf, gd_ft, gd_undef, gd_td, gd_fd, ex_v, vo_some, ex, vop, ev_t, ev_c, put_some, put_none, upd_same, upd_ne, updK_same, updK_ne, ne_eq, argE_at, List.getElem?_cons_zero, List.getElem?_cons_succ, Option.getD_some, PV.cells, List.all_cons, List.all_nil, PV.one, Bool.and_true, Bool.true_and, if_true, and_self, true_and, and_true, killS, kill_box, kill_arr, e_box, e_arr, AK.tmp, PV.killL, PV.kill, killE_at, newBox, initC, initA, ld, getBox, setBox, getArr, setArr, pickC, Option.map_some, Option.map_none, PV.upN, binP, binInt, binStr, binB, unP, cnd_true, cnd_false, cnd_dec, cnd_not, Nat.reduceEqDiff, not_false_eq_true, not_true_eq_false, reduceIte, reduceCtorEq, Nat.reduceAdd, Nat.zero_add, Nat.add_zero, Nat.reduceLeDiff, Nat.reduceSub, Nat.reduceMul, fin_ret, fin_nor, List.length_cons, List.length_nil, List.drop_succ_cons, List.drop_zero, List.take_succ_cons, List.take_zero, fillP, setAt, List.set_cons_zero, List.set_cons_succ, storeP, stCells, stCell, PV.dnN, PV.dn, PV.dnL, retOf, rdRes, retL, ret1, retV, hand, hand1, handL, handA, List.tail_cons, callP, List.append_nil, List.nil_append, List.any_cons, List.any_nil, PV.hasSl, PV.isSl, Bool.or_false, Bool.false_or, Bool.false_eq_true, if_false, slcP, slcGo, fullOf, idx, iaddrP, lenP, lenS, appendP, newArr, view, srcRows, bigRow, okA, eqCells, convP, slsP, gd_tb, gd_fb, List.cons_append, Option.getD_none, List.getElem?_nil, AK.slot.injEq, AK.cell.injEq, decide_true, decide_false, Bool.not_true, Bool.not_false, Option.isNone_none, Option.isSome_none, Option.isSome_some, Option.isNone_some, prep, Ac.kill, PV.int.injEq, beq_self_eq_true, decide_eq_true_eq, Bool.not_eq_true, decide_eq_false_iff_not, true_or, or_true, false_or, or_false, false_and, and_false, Bool.not_not, Classical.not_not, Bool.false_and, Bool.and_false, Bool.and_self, ite_self, PV.pure, PV.plain, PV.plainL, Ret.plain, allPure, List.isEmpty_nil, List.isEmpty_cons, Bool.or_true, Bool.true_or, Int.reduceEq, Int.reduceNe, Int.reduceLT, Int.reduceLE, Int.reduceAdd, Int.reduceSub, Int.reduceMul, Int.reduceNeg, Nat.reduceLT, Nat.reduceDiv]
  | nor ac => exact False.elim hx
  | pan v S => exact False.elim hx
  | bad => exact False.elim hx
theorem ContainsFunc_ok (vs : List V) (hl : vs.length < 4611686018427387904) (hf : ∀ u ∈ vs, ∀ S, call SP 38 [.agg (enc u)] S = .ok (.v (.bool (!plainV u))) S) (S : Sto) : call SP 37 [.list 4 (encL vs) false, .func 38 []] S = .ok (.v (.bool (!plainV.plainA vs))) S := by
  rw [call_code sp37 _ _ rfl]
  have h := IndexFunc_ok vs hl hf
  have hb : decide (0 ≤ bad 0 vs) = !plainV.plainA vs := by
    have := bad_iff vs 0
    cases hp : plainV.plainA vs <;> simp_all
  simp only [sc37, ac0, h, hb, List.map_cons, List.map_nil, PV.up, PV.upL, E_seq, E_reg, E_block, E_cnd, E_skip, E_exit, E_ret, E_dreg, thC_nor, thC_ret, thC_ext, thC_pan, inBlk_ext, inBlk_nor, inBlk_ret, inBlk_pan, evOps_cons, evOps_nil, thOps_ok, thOps_pan, evD_cons, evD_nil, thD_tot, thD_same, List.tail_cons, stp_none, stp_some, gd_tt, gd_ff, gd_tf, gd_ft, gd_undef, gd_td, gd_fd, ex_v, vo_some, ex, vop, ev_t, ev_c, put_some, put_none, upd_same, upd_ne, updK_same, updK_ne, ne_eq, argE_at, List.getElem?_cons_zero, List.getElem?_cons_succ, Option.getD_some, PV.cells, List.all_cons, List.all_nil, PV.one, Bool.and_true, Bool.true_and, if_true, and_self, true_and, and_true, killS, kill_box, kill_arr, e_box, e_arr, AK.tmp, PV.killL, PV.kill, killE_at, newBox, initC, initA, ld, getBox, setBox, getArr, setArr, pickC, Option.map_some, Option.map_none, PV.upN, binP, binInt, binStr, binB, unP, cnd_true, cnd_false, cnd_dec, cnd_not, Nat.reduceEqDiff, not_false_eq_true, not_true_eq_false, reduceIte, reduceCtorEq, Nat.reduceAdd, Nat.zero_add, Nat.add_zero, Nat.reduceLeDiff, Nat.reduceSub, Nat.reduceMul, fin_ret, fin_nor, List.length_cons, List.length_nil, List.drop_succ_cons, List.drop_zero, List.take_succ_cons, List.take_zero, fillP, setAt, List.set_cons_zero, List.set_cons_succ, storeP, stCells, stCell, PV.dnN, PV.dn, PV.dnL, retOf, rdRes, retL, ret1, retV, hand, hand1, handL, handA, List.tail_cons, callP, List.append_nil, List.nil_append, List.any_cons, List.any_nil, PV.hasSl, PV.isSl, Bool.or_false, Bool.false_or, Bool.false_eq_true, if_false, slcP, slcGo, fullOf, idx, iaddrP, lenP, lenS, appendP, newArr, view, srcRows, bigRow, okA, eqCells, convP, slsP, gd_tb, gd_fb, List.cons_append, Option.getD_none, List.getElem?_nil, AK.slot.injEq, AK.cell.injEq, decide_true, decide_false, Bool.not_true, Bool.not_false, Option.isNone_none, Option.isSome_none, Option.isSome_some, Option.isNone_some, prep, Ac.kill, PV.int.injEq, beq_self_eq_true, decide_eq_true_eq, Bool.not_eq_true, decide_eq_false_iff_not, true_or, or_true, false_or, or_false, false_and, and_false, Bool.not_not, Classical.not_not, Bool.false_and, Bool.and_false, Bool.and_self, ite_self, PV.pure, PV.plain, PV.plainL, Ret.plain, allPure, List.isEmpty_nil, List.isEmpty_cons, Bool.or_true, Bool.true_or, Int.reduceEq, Int.reduceNe, Int.reduceLT, Int.reduceLE, Int.reduceAdd, Int.reduceSub, Int.reduceMul, Int.reduceNeg, Nat.reduceLT, Nat.reduceDiv]
end Go.Proofs.Ytebflncfgjnkkaa.M

/- Which values may be: joined. -/
namespace Go.Proofs.Ytebflncfgjnkkaa.M
set_option linter.unusedSimpArgs false
set_option linter.unusedVariables false
open Go Classical
theorem plain1_of {v : V} (h : ∀ S, call SP 28 [.agg (enc v)] S = .ok (.v (.bool (plainV v))) S) (S : Sto) : call SP 38 [.agg (enc v)] S = .ok (.v (.bool (!plainV v))) S := by
  rw [call_code sp38 _ _ rfl]
  rw [enc_eq] at h ⊢
  simp only [sc38, ac0, h, List.map_cons, List.map_nil, PV.up, PV.upL, E_seq, E_reg, E_block, E_cnd, E_skip, E_exit, E_ret, E_dreg, thC_nor, thC_ret, thC_ext, thC_pan, inBlk_ext, inBlk_nor, inBlk_ret, inBlk_pan, evOps_cons, evOps_nil, thOps_ok, thOps_pan, evD_cons, evD_nil, thD_tot, thD_same, List.tail_cons, stp_none, stp_some, gd_tt, gd_ff, gd_tf, gd_ft, gd_undef, gd_td, gd_fd, ex_v, vo_some, ex, vop, ev_t, ev_c, put_some, put_none, upd_same, upd_ne, updK_same, updK_ne, ne_eq, argE_at, List.getElem?_cons_zero, List.getElem?_cons_succ, Option.getD_some, PV.cells, List.all_cons, List.all_nil, PV.one, Bool.and_true, Bool.true_and, if_true, and_self, true_and, and_true, killS, kill_box, kill_arr, e_box, e_arr, AK.tmp, PV.killL, PV.kill, killE_at, newBox, initC, initA, ld, getBox, setBox, getArr, setArr, pickC, Option.map_some, Option.map_none, PV.upN, binP, binInt, binStr, binB, unP, cnd_true, cnd_false, cnd_dec, cnd_not, Nat.reduceEqDiff, not_false_eq_true, not_true_eq_false, reduceIte, reduceCtorEq, Nat.reduceAdd, Nat.zero_add, Nat.add_zero, Nat.reduceLeDiff, Nat.reduceSub, Nat.reduceMul, fin_ret, fin_nor, List.length_cons, List.length_nil, List.drop_succ_cons, List.drop_zero, List.take_succ_cons, List.take_zero, fillP, setAt, List.set_cons_zero, List.set_cons_succ, storeP, stCells, stCell, PV.dnN, PV.dn, PV.dnL, retOf, rdRes, retL, ret1, retV, hand, hand1, handL, handA, List.tail_cons, callP, List.append_nil, List.nil_append, List.any_cons, List.any_nil, PV.hasSl, PV.isSl, Bool.or_false, Bool.false_or, Bool.false_eq_true, if_false, slcP, slcGo, fullOf, idx, iaddrP, lenP, lenS, appendP, newArr, view, srcRows, bigRow, okA, eqCells, convP, slsP, gd_tb, gd_fb, List.cons_append, Option.getD_none, List.getElem?_nil, AK.slot.injEq, AK.cell.injEq, decide_true, decide_false, Bool.not_true, Bool.not_false, Option.isNone_none, Option.isSome_none, Option.isSome_some, Option.isNone_some, prep, Ac.kill, PV.int.injEq, beq_self_eq_true, decide_eq_true_eq, Bool.not_eq_true, decide_eq_false_iff_not, true_or, or_true, false_or, or_false, false_and, and_false, Bool.not_not, Classical.not_not, Bool.false_and, Bool.and_false, Bool.and_self, ite_self, PV.pure, PV.plain, PV.plainL, Ret.plain, allPure, List.isEmpty_nil, List.isEmpty_cons, Bool.or_true, Bool.true_or, Int.reduceEq, Int.reduceNe, Int.reduceLT, Int.reduceLE, Int.reduceAdd, Int.reduceSub, Int.reduceMul, Int.reduceNeg, Nat.reduceLT, Nat.reduceDiv]
theorem small_l {v : V} (h : small v) : smallL v.l := by
  cases v
  simp only [small] at h
  exact h
theorem plainV_eq (v : V) : plainV v = if v.k = 1 then decide (v.s = [] ∧ v.l.length = 0) else if v.k = 2 then decide (v.n = 0 ∧ v.s.length ≤ 400 ∧ v.l.length = 0) else if v.k = 3 then decide ((v.n = 0 ∨ v.n = 1) ∧ v.s = [] ∧ v.l.length = 0) else if v.k = 4 then decide (v.n = 0 ∧ v.s = [] ∧ v.l.length ≤ 64) && plainV.plainA v.l else false := by
  cases v
  simp only [plainV, V.k, V.n, V.s, V.l]
  congr
theorem int_len0 (n : Nat) : ((n : Int) = 0) = (n = 0) := by apply propext; omega
theorem int_len400 (n : Nat) : ((n : Int) ≤ 400) = (n ≤ 400) := by apply propext; omega
theorem int_len64 (n : Nat) : ((n : Int) ≤ 64) = (n ≤ 64) := by apply propext; omega
theorem plain_ok (v : V) (hs : small v) (S : Sto) : call SP 28 [.agg (enc v)] S = .ok (.v (.bool (plainV v))) S := by
  have hl := small_l hs
  have hc := ContainsFunc_ok v.l hl.1 (fun u hu => plain1_of (plain_ok u (smallA_mem hl.2 u hu)))
  rw [call_code sp28 _ _ rfl]
  rw [enc_eq, plainV_eq]
  simp only [sc28, ac0, encL_length, hc, int_len0, int_len400, int_len64, List.map_cons, List.map_nil, PV.up, PV.upL, E_seq, E_reg, E_block, E_cnd, E_skip, E_exit, E_ret, E_dreg, thC_nor, thC_ret, thC_ext, thC_pan, inBlk_ext, inBlk_nor, inBlk_ret, inBlk_pan, evOps_cons, evOps_nil, thOps_ok, thOps_pan, evD_cons, evD_nil, thD_tot, thD_same, List.tail_cons, stp_none, stp_some, gd_tt, gd_ff, gd_tf, gd_ft, gd_undef, gd_td, gd_fd, ex_v, vo_some, ex, vop, ev_t, ev_c, put_some, put_none, upd_same, upd_ne, updK_same, updK_ne, ne_eq, argE_at, List.getElem?_cons_zero, List.getElem?_cons_succ, Option.getD_some, PV.cells, List.all_cons, List.all_nil, PV.one, Bool.and_true, Bool.true_and, if_true, and_self, true_and, and_true, killS, kill_box, kill_arr, e_box, e_arr, AK.tmp, PV.killL, PV.kill, killE_at, newBox, initC, initA, ld, getBox, setBox, getArr, setArr, pickC, Option.map_some, Option.map_none, PV.upN, binP, binInt, binStr, binB, unP, cnd_true, cnd_false, cnd_dec, cnd_not, Nat.reduceEqDiff, not_false_eq_true, not_true_eq_false, reduceIte, reduceCtorEq, Nat.reduceAdd, Nat.zero_add, Nat.add_zero, Nat.reduceLeDiff, Nat.reduceSub, Nat.reduceMul, fin_ret, fin_nor, List.length_cons, List.length_nil, List.drop_succ_cons, List.drop_zero, List.take_succ_cons, List.take_zero, fillP, setAt, List.set_cons_zero, List.set_cons_succ, storeP, stCells, stCell, PV.dnN, PV.dn, PV.dnL, retOf, rdRes, retL, ret1, retV, hand, hand1, handL, handA, List.tail_cons, callP, List.append_nil, List.nil_append, List.any_cons, List.any_nil, PV.hasSl, PV.isSl, Bool.or_false, Bool.false_or, Bool.false_eq_true, if_false, slcP, slcGo, fullOf, idx, iaddrP, lenP, lenS, appendP, newArr, view, srcRows, bigRow, okA, eqCells, convP, slsP, gd_tb, gd_fb, List.cons_append, Option.getD_none, List.getElem?_nil, AK.slot.injEq, AK.cell.injEq, decide_true, decide_false, Bool.not_true, Bool.not_false, Option.isNone_none, Option.isSome_none, Option.isSome_some, Option.isNone_some, prep, Ac.kill, PV.int.injEq, beq_self_eq_true, decide_eq_true_eq, Bool.not_eq_true, decide_eq_false_iff_not, true_or, or_true, false_or, or_false, false_and, and_false, Bool.not_not, Classical.not_not, Bool.false_and, Bool.and_false, Bool.and_self, ite_self, PV.pure, PV.plain, PV.plainL, Ret.plain, allPure, List.isEmpty_nil, List.isEmpty_cons, Bool.or_true, Bool.true_or, Int.reduceEq, Int.reduceNe, Int.reduceLT, Int.reduceLE, Int.reduceAdd, Int.reduceSub, Int.reduceMul, Int.reduceNeg, Nat.reduceLT, Nat.reduceDiv]
  repeat' (split <;> (try simp only [*, encL_length, hc, int_len0, int_len400, int_len64, List.map_cons, List.map_nil, PV.up, PV.upL, E_seq, E_reg, E_block, E_cnd, E_skip, E_exit, E_ret, E_dreg, thC_nor, thC_ret, thC_ext, thC_pan, inBlk_ext, inBlk_nor, inBlk_ret, inBlk_pan, evOps_cons, evOps_nil, thOps_ok, thOps_pan, evD_cons, evD_nil, thD_tot, thD_same, List.tail_cons, stp_none, stp_some, gd_tt, gd_ff, gd_tf, gd_ft, gd_undef, gd_td, gd_fd, ex_v, vo_some, ex, vop, ev_t, ev_c, put_some, put_none, upd_same, upd_ne, updK_same, updK_ne, ne_eq, argE_at, List.getElem?_cons_zero, List.getElem?_cons_succ, Option.getD_some, PV.cells, List.all_cons, List.all_nil, PV.one, Bool.and_true, Bool.true_and, if_true, and_self, true_and, and_true, killS, kill_box, kill_arr, e_box, e_arr, AK.tmp, PV.killL, PV.kill, killE_at, newBox, initC, initA, ld, getBox, setBox, getArr, setArr, pickC, Option.map_some, Option.map_none, PV.upN, binP, binInt, binStr, binB, unP, cnd_true, cnd_false, cnd_dec, cnd_not, Nat.reduceEqDiff, not_false_eq_true, not_true_eq_false, reduceIte, reduceCtorEq, Nat.reduceAdd, Nat.zero_add, Nat.add_zero, Nat.reduceLeDiff, Nat.reduceSub, Nat.reduceMul, fin_ret, fin_nor, List.length_cons, List.length_nil, List.drop_succ_cons, List.drop_zero, List.take_succ_cons, List.take_zero, fillP, setAt, List.set_cons_zero, List.set_cons_succ, storeP, stCells, stCell, PV.dnN, PV.dn, PV.dnL, retOf, rdRes, retL, ret1, retV, hand, hand1, handL, handA, List.tail_cons, callP, List.append_nil, List.nil_append, List.any_cons, List.any_nil, PV.hasSl, PV.isSl, Bool.or_false, Bool.false_or, Bool.false_eq_true, if_false, slcP, slcGo, fullOf, idx, iaddrP, lenP, lenS, appendP, newArr, view, srcRows, bigRow, okA, eqCells, convP, slsP, gd_tb, gd_fb, List.cons_append, Option.getD_none, List.getElem?_nil, AK.slot.injEq, AK.cell.injEq, decide_true, decide_false, Bool.not_true, Bool.not_false, Option.isNone_none, Option.isSome_none, Option.isSome_some, Option.isNone_some, prep, Ac.kill, PV.int.injEq, beq_self_eq_true, decide_eq_true_eq, Bool.not_eq_true, decide_eq_false_iff_not, true_or, or_true, false_or, or_false, false_and, and_false, Bool.not_not, Classical.not_not, Bool.false_and, Bool.and_false, Bool.and_self, ite_self, PV.pure, PV.plain, PV.plainL, Ret.plain, allPure, List.isEmpty_nil, List.isEmpty_cons, Bool.or_true, Bool.true_or, Int.reduceEq, Int.reduceNe, Int.reduceLT, Int.reduceLE, Int.reduceAdd, Int.reduceSub, Int.reduceMul, Int.reduceNeg, Nat.reduceLT, Nat.reduceDiv]))
termination_by SizeOf.sizeOf v
decreasing_by
  have h1 := List.sizeOf_lt_of_mem hu
  have h2 : SizeOf.sizeOf v.l < SizeOf.sizeOf v := by
    cases v
    simp [V.l]
    omega
  omega
theorem May_ok (v : V) (hs : small v) (hd : deep v < 4611686018427387904) (S : Sto) : call SP 14 [.agg (enc v)] S = .ok (.v (.bool (plainV v && decide (deep v ≤ 64)))) S := by
  have hp := plain_ok v hs
  have h1 : deepL [v] = deep v := by simp [deepL]
  have h2 := deep_ok [v] (by rw [h1]; exact hd) ⟨by simp, hs, trivial⟩
  rw [h1] at h2
  simp only [encL] at h2
  rw [call_code sp14 _ _ rfl]
  rw [enc_eq] at hp h2 ⊢
  have e : ((deep v : Int) ≤ 64) = (deep v ≤ 64) := by apply propext; omega
  cases hpv : plainV v with
  | true => simp only [sc14, ac0, hp, hpv, h2, e, rowsP, List.replicate, List.map_cons, List.map_nil, PV.up, PV.upL, E_seq, E_reg, E_block, E_cnd, E_skip, E_exit, E_ret, E_dreg, thC_nor, thC_ret, thC_ext, thC_pan, inBlk_ext, inBlk_nor, inBlk_ret, inBlk_pan, evOps_cons, evOps_nil, thOps_ok, thOps_pan, evD_cons, evD_nil, thD_tot, thD_same, List.tail_cons, stp_none, stp_some, gd_tt, gd_ff, gd_tf, gd_ft, gd_undef, gd_td, gd_fd, ex_v, vo_some, ex, vop, ev_t, ev_c, put_some, put_none, upd_same, upd_ne, updK_same, updK_ne, ne_eq, argE_at, List.getElem?_cons_zero, List.getElem?_cons_succ, Option.getD_some, PV.cells, List.all_cons, List.all_nil, PV.one, Bool.and_true, Bool.true_and, if_true, and_self, true_and, and_true, killS, kill_box, kill_arr, e_box, e_arr, AK.tmp, PV.killL, PV.kill, killE_at, newBox, initC, initA, ld, getBox, setBox, getArr, setArr, pickC, Option.map_some, Option.map_none, PV.upN, binP, binInt, binStr, binB, unP, cnd_true, cnd_false, cnd_dec, cnd_not, Nat.reduceEqDiff, not_false_eq_true, not_true_eq_false, reduceIte, reduceCtorEq, Nat.reduceAdd, Nat.zero_add, Nat.add_zero, Nat.reduceLeDiff, Nat.reduceSub, Nat.reduceMul, fin_ret, fin_nor, List.length_cons, List.length_nil, List.drop_succ_cons, List.drop_zero, List.take_succ_cons, List.take_zero, fillP, setAt, List.set_cons_zero, List.set_cons_succ, storeP, stCells, stCell, PV.dnN, PV.dn, PV.dnL, retOf, rdRes, retL, ret1, retV, hand, hand1, handL, handA, List.tail_cons, callP, List.append_nil, List.nil_append, List.any_cons, List.any_nil, PV.hasSl, PV.isSl, Bool.or_false, Bool.false_or, Bool.false_eq_true, if_false, slcP, slcGo, fullOf, idx, iaddrP, lenP, lenS, appendP, newArr, view, srcRows, bigRow, okA, eqCells, convP, slsP, gd_tb, gd_fb, List.cons_append, Option.getD_none, List.getElem?_nil, AK.slot.injEq, AK.cell.injEq, decide_true, decide_false, Bool.not_true, Bool.not_false, Option.isNone_none, Option.isSome_none, Option.isSome_some, Option.isNone_some, prep, Ac.kill, PV.int.injEq, beq_self_eq_true, decide_eq_true_eq, Bool.not_eq_true, decide_eq_false_iff_not, true_or, or_true, false_or, or_false, false_and, and_false, Bool.not_not, Classical.not_not, Bool.false_and, Bool.and_false, Bool.and_self, ite_self, PV.pure, PV.plain, PV.plainL, Ret.plain, allPure, List.isEmpty_nil, List.isEmpty_cons, Bool.or_true, Bool.true_or, Int.reduceEq, Int.reduceNe, Int.reduceLT, Int.reduceLE, Int.reduceAdd, Int.reduceSub, Int.reduceMul, Int.reduceNeg, Nat.reduceLT, Nat.reduceDiv]
  | false => simp only [sc14, ac0, hp, hpv, h2, e, rowsP, List.replicate, List.map_cons, List.map_nil, PV.up, PV.upL, E_seq, E_reg, E_block, E_cnd, E_skip, E_exit, E_ret, E_dreg, thC_nor, thC_ret, thC_ext, thC_pan, inBlk_ext, inBlk_nor, inBlk_ret, inBlk_pan, evOps_cons, evOps_nil, thOps_ok, thOps_pan, evD_cons, evD_nil, thD_tot, thD_same, List.tail_cons, stp_none, stp_some, gd_tt, gd_ff, gd_tf, gd_ft, gd_undef, gd_td, gd_fd, ex_v, vo_some, ex, vop, ev_t, ev_c, put_some, put_none, upd_same, upd_ne, updK_same, updK_ne, ne_eq, argE_at, List.getElem?_cons_zero, List.getElem?_cons_succ, Option.getD_some, PV.cells, List.all_cons, List.all_nil, PV.one, Bool.and_true, Bool.true_and, if_true, and_self, true_and, and_true, killS, kill_box, kill_arr, e_box, e_arr, AK.tmp, PV.killL, PV.kill, killE_at, newBox, initC, initA, ld, getBox, setBox, getArr, setArr, pickC, Option.map_some, Option.map_none, PV.upN, binP, binInt, binStr, binB, unP, cnd_true, cnd_false, cnd_dec, cnd_not, Nat.reduceEqDiff, not_false_eq_true, not_true_eq_false, reduceIte, reduceCtorEq, Nat.reduceAdd, Nat.zero_add, Nat.add_zero, Nat.reduceLeDiff, Nat.reduceSub, Nat.reduceMul, fin_ret, fin_nor, List.length_cons, List.length_nil, List.drop_succ_cons, List.drop_zero, List.take_succ_cons, List.take_zero, fillP, setAt, List.set_cons_zero, List.set_cons_succ, storeP, stCells, stCell, PV.dnN, PV.dn, PV.dnL, retOf, rdRes, retL, ret1, retV, hand, hand1, handL, handA, List.tail_cons, callP, List.append_nil, List.nil_append, List.any_cons, List.any_nil, PV.hasSl, PV.isSl, Bool.or_false, Bool.false_or, Bool.false_eq_true, if_false, slcP, slcGo, fullOf, idx, iaddrP, lenP, lenS, appendP, newArr, view, srcRows, bigRow, okA, eqCells, convP, slsP, gd_tb, gd_fb, List.cons_append, Option.getD_none, List.getElem?_nil, AK.slot.injEq, AK.cell.injEq, decide_true, decide_false, Bool.not_true, Bool.not_false, Option.isNone_none, Option.isSome_none, Option.isSome_some, Option.isNone_some, prep, Ac.kill, PV.int.injEq, beq_self_eq_true, decide_eq_true_eq, Bool.not_eq_true, decide_eq_false_iff_not, true_or, or_true, false_or, or_false, false_and, and_false, Bool.not_not, Classical.not_not, Bool.false_and, Bool.and_false, Bool.and_self, ite_self, PV.pure, PV.plain, PV.plainL, Ret.plain, allPure, List.isEmpty_nil, List.isEmpty_cons, Bool.or_true, Bool.true_or, Int.reduceEq, Int.reduceNe, Int.reduceLT, Int.reduceLE, Int.reduceAdd, Int.reduceSub, Int.reduceMul, Int.reduceNeg, Nat.reduceLT, Nat.reduceDiv]
end Go.Proofs.Ytebflncfgjnkkaa.M

/- Values alike. -/
namespace Go.Proofs.Ytebflncfgjnkkaa.M
set_option linter.unusedSimpArgs false
set_option linter.unusedVariables false
open Go Classical
/-- Are two values alike? -/
def sameV : V → V → Bool
  | .mk k n s l, .mk k' n' s' l' => decide (k = k' ∧ n = n' ∧ s = s') && sameA l l'
where
  sameA : List V → List V → Bool
    | [], [] => true
    | v :: vs, u :: us => sameV v u && sameA vs us
    | _, _ => false
theorem sameV_eq (a b : V) : sameV a b = (decide (a.k = b.k ∧ a.n = b.n ∧ a.s = b.s) && sameV.sameA a.l b.l) := by
  cases a
  cases b
  simp only [sameV, V.k, V.n, V.s, V.l]
  congr
theorem sameA_length : ∀ {a b : List V}, sameV.sameA a b = true → a.length = b.length
  | [], [], _ => rfl
  | [], _ :: _, h => by simp [sameV.sameA] at h
  | _ :: _, [], h => by simp [sameV.sameA] at h
  | v :: a, u :: b, h => by
    simp only [sameV.sameA, Bool.and_eq_true] at h
    simp [sameA_length h.2]
theorem sameA_drop {a b : List V} {i : Nat} {v u : V} (hv : a[i]? = some v) (hu : b[i]? = some u) : sameV.sameA (a.drop i) (b.drop i) = (sameV v u && sameV.sameA (a.drop (i + 1)) (b.drop (i + 1))) := by
  have h1 := (List.getElem?_eq_some_iff.1 hv).1
  have h2 := (List.getElem?_eq_some_iff.1 hu).1
  rw [List.drop_eq_getElem_cons h1, List.drop_eq_getElem_cons h2, (List.getElem?_eq_some_iff.1 hv).2, (List.getElem?_eq_some_iff.1 hu).2]
  rfl
theorem sp22 : SP 22 = some (.code sc22) := SPof_code rfl Try.func22 comp22
theorem sp36 : SP 36 = some (.code sc36) := SPof_code rfl Try.func36 comp36
/-- It leaves block 0 if all is alike; else it returns false in slot r. -/
def Alike (r : Nat) (b : Bool) (S : Sto) : EO → Prop
  | .ext i ac => i = 0 ∧ b = true ∧ ∃ f', ac.S = f' :: S
  | .ret ac => ac.e r = .bool false ∧ b = false ∧ ∃ f', ac.S = f' :: S
  | _ => False
def b36 : SC := match sc36.code with | .seq _ (.seq _ (.seq (.seq _ (.block _ (.loop b))) _)) => b | _ => .skip
theorem EqualFunc_ok (vs us : List V) (hl : vs.length < 4611686018427387904) (hf : ∀ v ∈ vs, ∀ u S, call SP 22 [.agg (enc v), .agg (enc u)] S = .ok (.v (.bool (sameV v u))) S) (S : Sto) : call SP 36 [.list 4 (encL vs) false, .list 4 (encL us) false, .func 22 []] S = .ok (.v (.bool (sameV.sameA vs us))) S := by
  rw [call_code sp36 _ _ rfl]
  by_cases hlen : vs.length = us.length
  · have loop : ∀ (k i : Nat), i + k = vs.length → ∀ (e : Nat → PV) (f : Fr), e 1 = .list 4 (encL us) false → e 2 = .func 22 [] → e 15 = .list 4 (encL vs) false → e 16 = .int .i64 us.length → e 17 = .int .i64 i → Alike 6 (sameV.sameA (vs.drop i) (us.drop i)) S (E SP (.loop b36) ⟨e, f :: S⟩) := by
      intro k
      induction k with
      | zero =>
        intro i hi e f h1 h2 h15 h16 h17
        have hlt : ¬ (i : Int) < (us.length : Int) := by omega
        rw [E_loop]
        simp only [b36, sc36, h1, h2, h15, h16, h17, hlt, List.map_cons, List.map_nil, PV.up, PV.upL, E_seq, E_reg, E_block, E_cnd, E_skip, E_exit, E_ret, E_dreg, thC_nor, thC_ret, thC_ext, thC_pan, inBlk_ext, inBlk_nor, inBlk_ret, inBlk_pan, evOps_cons, evOps_nil, thOps_ok, thOps_pan, evD_cons, evD_nil, thD_tot, thD_same, List.tail_cons, stp_none, stp_some, gd_tt, gd_ff, gd_tf, gd_ft, gd_undef, gd_td, gd_fd, ex_v, vo_some, ex, vop, ev_t, ev_c, put_some, put_none, upd_same, upd_ne, updK_same, updK_ne, ne_eq, argE_at, List.getElem?_cons_zero, List.getElem?_cons_succ, Option.getD_some, PV.cells, List.all_cons, List.all_nil, PV.one, Bool.and_true, Bool.true_and, if_true, and_self, true_and, and_true, killS, kill_box, kill_arr, e_box, e_arr, AK.tmp, PV.killL, PV.kill, killE_at, newBox, initC, initA, ld, getBox, setBox, getArr, setArr, pickC, Option.map_some, Option.map_none, PV.upN, binP, binInt, binStr, binB, unP, cnd_true, cnd_false, cnd_dec, cnd_not, Nat.reduceEqDiff, not_false_eq_true, not_true_eq_false, reduceIte, reduceCtorEq, Nat.reduceAdd, Nat.zero_add, Nat.add_zero, Nat.reduceLeDiff, Nat.reduceSub, Nat.reduceMul, fin_ret, fin_nor, List.length_cons, List.length_nil, List.drop_succ_cons, List.drop_zero, List.take_succ_cons, List.take_zero, fillP, setAt, List.set_cons_zero, List.set_cons_succ, storeP, stCells, stCell, PV.dnN, PV.dn, PV.dnL, retOf, rdRes, retL, ret1, retV, hand, hand1, handL, handA, List.tail_cons, callP, List.append_nil, List.nil_append, List.any_cons, List.any_nil, PV.hasSl, PV.isSl, Bool.or_false, Bool.false_or, Bool.false_eq_true, if_false, slcP, slcGo, fullOf, idx, iaddrP, lenP, lenS, appendP, newArr, view, srcRows, bigRow, okA, eqCells, convP, slsP, gd_tb, gd_fb, List.cons_append, Option.getD_none, List.getElem?_nil, AK.slot.injEq, AK.cell.injEq, decide_true, decide_false, Bool.not_true, Bool.not_false, Option.isNone_none, Option.isSome_none, Option.isSome_some, Option.isNone_some, prep, Ac.kill, PV.int.injEq, beq_self_eq_true, decide_eq_true_eq, Bool.not_eq_true, decide_eq_false_iff_not, true_or, or_true, false_or, or_false, false_and, and_false, Bool.not_not, Classical.not_not, Bool.false_and, Bool.and_false, Bool.and_self, ite_self, PV.pure, PV.plain, PV.plainL, Ret.plain, allPure, List.isEmpty_nil, List.isEmpty_cons, Bool.or_true, Bool.true_or, Int.reduceEq, Int.reduceNe, Int.reduceLT, Int.reduceLE, Int.reduceAdd, Int.reduceSub, Int.reduceMul, Int.reduceNeg, Nat.reduceLT, Nat.reduceDiv]
        refine ⟨rfl, ?_, _, rfl⟩
        rw [List.drop_eq_nil_of_le (by omega), List.drop_eq_nil_of_le (by omega)]
        rfl
      | succ k ih =>
        intro i hi e f h1 h2 h15 h16 h17
        have hlt : (i : Int) < (us.length : Int) := by omega
        have hv : vs[i]? = some vs[i] := List.getElem?_eq_getElem (by omega)
        have hu : us[i]? = some us[i] := List.getElem?_eq_getElem (by omega)
        have rv : (encL vs)[i]? = some (enc vs[i]) := by rw [encL_get, hv]; rfl
        have ru : (encL us)[i]? = some (enc us[i]) := by rw [encL_get, hu]; rfl
        have hfu := hf vs[i] (List.mem_of_getElem? hv) us[i]
        rw [enc_eq] at rv ru
        rw [enc_eq, enc_eq] at hfu
        have w1 : IntKind.i64.wrap ((i : Int) + 1) = ((i + 1 : Nat) : Int) := by rw [wrap_i64 (by omega) (by omega)]; omega
        rw [E_loop, sameA_drop hv hu]
        simp only [b36, sc36] at ih ⊢
        cases hs : sameV vs[i] us[i] with
        | true =>
          rw [hs] at hfu
          simp only [h1, h2, h15, h16, h17, hlt, rv, ru, hfu, nat_nonneg, Int.toNat_natCast, w1, List.map_cons, List.map_nil, PV.up, PV.upL, E_seq, E_reg, E_block, E_cnd, E_skip, E_exit, E_ret, E_dreg, thC_nor, thC_ret, thC_ext, thC_pan, inBlk_ext, inBlk_nor, inBlk_ret, inBlk_pan, evOps_cons, evOps_nil, thOps_ok, thOps_pan, evD_cons, evD_nil, thD_tot, thD_same, List.tail_cons, stp_none, stp_some, gd_tt, gd_ff, gd_tf, gd_ft, gd_undef, gd_td, gd_fd, ex_v, vo_some, ex, vop, ev_t, ev_c, put_some, put_none, upd_same, upd_ne, updK_same, updK_ne, ne_eq, argE_at, List.getElem?_cons_zero, List.getElem?_cons_succ, Option.getD_some, PV.cells, List.all_cons, List.all_nil, PV.one, Bool.and_true, Bool.true_and, if_true, and_self, true_and, and_true, killS, kill_box, kill_arr, e_box, e_arr, AK.tmp, PV.killL, PV.kill, killE_at, newBox, initC, initA, ld, getBox, setBox, getArr, setArr, pickC, Option.map_some, Option.map_none, PV.upN, binP, binInt, binStr, binB, unP, cnd_true, cnd_false, cnd_dec, cnd_not, Nat.reduceEqDiff, not_false_eq_true, not_true_eq_false, reduceIte, reduceCtorEq, Nat.reduceAdd, Nat.zero_add, Nat.add_zero, Nat.reduceLeDiff, Nat.reduceSub, Nat.reduceMul, fin_ret, fin_nor, List.length_cons, List.length_nil, List.drop_succ_cons, List.drop_zero, List.take_succ_cons, List.take_zero, fillP, setAt, List.set_cons_zero, List.set_cons_succ, storeP, stCells, stCell, PV.dnN, PV.dn, PV.dnL, retOf, rdRes, retL, ret1, retV, hand, hand1, handL, handA, List.tail_cons, callP, List.append_nil, List.nil_append, List.any_cons, List.any_nil, PV.hasSl, PV.isSl, Bool.or_false, Bool.false_or, Bool.false_eq_true, if_false, slcP, slcGo, fullOf, idx, iaddrP, lenP, lenS, appendP, newArr, view, srcRows, bigRow, okA, eqCells, convP, slsP, gd_tb, gd_fb, List.cons_append, Option.getD_none, List.getElem?_nil, AK.slot.injEq, AK.cell.injEq, decide_true, decide_false, Bool.not_true, Bool.not_false, Option.isNone_none, Option.isSome_none, Option.isSome_some, Option.isNone_some, prep, Ac.kill, PV.int.injEq, beq_self_eq_true, decide_eq_true_eq, Bool.not_eq_true, decide_eq_false_iff_not, true_or, or_true, false_or, or_false, false_and, and_false, Bool.not_not, Classical.not_not, Bool.false_and, Bool.and_false, Bool.and_self, ite_self, PV.pure, PV.plain, PV.plainL, Ret.plain, allPure, List.isEmpty_nil, List.isEmpty_cons, Bool.or_true, Bool.true_or, Int.reduceEq, Int.reduceNe, Int.reduceLT, Int.reduceLE, Int.reduceAdd, Int.reduceSub, Int.reduceMul, Int.reduceNeg, Nat.reduceLT, Nat.reduceDiv]
          refine ih (i + 1) (by omega) _ _ ?_ ?_ ?_ ?_ ?_
          · simp only [h1, List.map_cons, List.map_nil, PV.up, PV.upL, E_seq, E_reg, E_block, E_cnd, E_skip, E_exit, E_ret, E_dreg, thC_nor, thC_ret, thC_ext, thC_pan, inBlk_ext, inBlk_nor, inBlk_ret, inBlk_pan, evOps_cons, evOps_nil, thOps_ok, thOps_pan, evD_cons, evD_nil, thD_tot, thD_same, List.tail_cons, stp_none, stp_some, gd_tt, gd_ff, gd_tf, gd_ft, gd_undef, gd_td, gd_fd, ex_v, vo_some, ex, vop, ev_t, ev_c, put_some, put_none, upd_same, upd_ne, updK_same, updK_ne, ne_eq, argE_at, List.getElem?_cons_zero, List.getElem?_cons_succ, Option.getD_some, PV.cells, List.all_cons, List.all_nil, PV.one, Bool.and_true, Bool.true_and, if_true, and_self, true_and, and_true, killS, kill_box, kill_arr, e_box, e_arr, AK.tmp, PV.killL, PV.kill, killE_at, newBox, initC, initA, ld, getBox, setBox, getArr, setArr, pickC, Option.map_some, Option.map_none, PV.upN, binP, binInt, binStr, binB, unP, cnd_true, cnd_false, cnd_dec, cnd_not, Nat.reduceEqDiff, not_false_eq_true, not_true_eq_false, reduceIte, reduceCtorEq, Nat.reduceAdd, Nat.zero_add, Nat.add_zero, Nat.reduceLeDiff, Nat.reduceSub, Nat.reduceMul, fin_ret, fin_nor, List.length_cons, List.length_nil, List.drop_succ_cons, List.drop_zero, List.take_succ_cons, List.take_zero, fillP, setAt, List.set_cons_zero, List.set_cons_succ, storeP, stCells, stCell, PV.dnN, PV.dn, PV.dnL, retOf, rdRes, retL, ret1, retV, hand, hand1, handL, handA, List.tail_cons, callP, List.append_nil, List.nil_append, List.any_cons, List.any_nil, PV.hasSl, PV.isSl, Bool.or_false, Bool.false_or, Bool.false_eq_true, if_false, slcP, slcGo, fullOf, idx, iaddrP, lenP, lenS, appendP, newArr, view, srcRows, bigRow, okA, eqCells, convP, slsP, gd_tb, gd_fb, List.cons_append, Option.getD_none, List.getElem?_nil, AK.slot.injEq, AK.cell.injEq, decide_true, decide_false, Bool.not_true, Bool.not_false, Option.isNone_none, Option.isSome_none, Option.isSome_some, Option.isNone_some, prep, Ac.kill, PV.int.injEq, beq_self_eq_true, decide_eq_true_eq, Bool.not_eq_true, decide_eq_false_iff_not, true_or, or_true, false_or, or_false, false_and, and_false, Bool.not_not, Classical.not_not, Bool.false_and, Bool.and_false, Bool.and_self, ite_self, PV.pure, PV.plain, PV.plainL, Ret.plain, allPure, List.isEmpty_nil, List.isEmpty_cons, Bool.or_true, Bool.true_or, Int.reduceEq, Int.reduceNe, Int.reduceLT, Int.reduceLE, Int.reduceAdd, Int.reduceSub, Int.reduceMul, Int.reduceNeg, Nat.reduceLT, Nat.reduceDiv]
          · simp only [h2, List.map_cons, List.map_nil, PV.up, PV.upL, E_seq, E_reg, E_block, E_cnd, E_skip, E_exit, E_ret, E_dreg, thC_nor, thC_ret, thC_ext, thC_pan, inBlk_ext, inBlk_nor, inBlk_ret, inBlk_pan, evOps_cons, evOps_nil, thOps_ok, thOps_pan, evD_cons, evD_nil, thD_tot, thD_same, List.tail_cons, stp_none, stp_some, gd_tt, gd_ff, gd_tf, gd_ft, gd_undef, gd_td, gd_fd, ex_v, vo_some, ex, vop, ev_t, ev_c, put_some, put_none, upd_same, upd_ne, updK_same, updK_ne, ne_eq, argE_at, List.getElem?_cons_zero, List.getElem?_cons_succ, Option.getD_some, PV.cells, List.all_cons, List.all_nil, PV.one, Bool.and_true, Bool.true_and, if_true, and_self, true_and, and_true, killS, kill_box, kill_arr, e_box, e_arr, AK.tmp, PV.killL, PV.kill, killE_at, newBox, initC, initA, ld, getBox, setBox, getArr, setArr, pickC, Option.map_some, Option.map_none, PV.upN, binP, binInt, binStr, binB, unP, cnd_true, cnd_false, cnd_dec, cnd_not, Nat.reduceEqDiff, not_false_eq_true, not_true_eq_false, reduceIte, reduceCtorEq, Nat.reduceAdd, Nat.zero_add, Nat.add_zero, Nat.reduceLeDiff, Nat.reduceSub, Nat.reduceMul, fin_ret, fin_nor, List.length_cons, List.length_nil, List.drop_succ_cons, List.drop_zero, List.take_succ_cons, List.take_zero, fillP, setAt, List.set_cons_zero, List.set_cons_succ, storeP, stCells, stCell, PV.dnN, PV.dn, PV.dnL, retOf, rdRes, retL, ret1, retV, hand, hand1, handL, handA, List.tail_cons, callP, List.append_nil, List.nil_append, List.any_cons, List.any_nil, PV.hasSl, PV.isSl, Bool.or_false, Bool.false_or, Bool.false_eq_true, if_false, slcP, slcGo, fullOf, idx, iaddrP, lenP, lenS, appendP, newArr, view, srcRows, bigRow, okA, eqCells, convP, slsP, gd_tb, gd_fb, List.cons_append, Option.getD_none, List.getElem?_nil, AK.slot.injEq, AK.cell.injEq, decide_true, decide_false, Bool.not_true, Bool.not_false, Option.isNone_none, Option.isSome_none, Option.isSome_some, Option.isNone_some, prep, Ac.kill, PV.int.injEq, beq_self_eq_true, decide_eq_true_eq, Bool.not_eq_true, decide_eq_false_iff_not, true_or, or_true, false_or, or_false, false_and, and_false, Bool.not_not, Classical.not_not, Bool.false_and, Bool.and_false, Bool.and_self, ite_self, PV.pure, PV.plain, PV.plainL, Ret.plain, allPure, List.isEmpty_nil, List.isEmpty_cons, Bool.or_true, Bool.true_or, Int.reduceEq, Int.reduceNe, Int.reduceLT, Int.reduceLE, Int.reduceAdd, Int.reduceSub, Int.reduceMul, Int.reduceNeg, Nat.reduceLT, Nat.reduceDiv]
          · simp only [h15, List.map_cons, List.map_nil, PV.up, PV.upL, E_seq, E_reg, E_block, E_cnd, E_skip, E_exit, E_ret, E_dreg, thC_nor, thC_ret, thC_ext, thC_pan, inBlk_ext, inBlk_nor, inBlk_ret, inBlk_pan, evOps_cons, evOps_nil, thOps_ok, thOps_pan, evD_cons, evD_nil, thD_tot, thD_same, List.tail_cons, stp_none, stp_some, gd_tt, gd_ff, gd_tf, gd_ft, gd_undef, gd_td, gd_fd, ex_v, vo_some, ex, vop, ev_t, ev_c, put_some, put_none, upd_same, upd_ne, updK_same, updK_ne, ne_eq, argE_at, List.getElem?_cons_zero, List.getElem?_cons_succ, Option.getD_some, PV.cells, List.all_cons, List.all_nil, PV.one, Bool.and_true, Bool.true_and, if_true, and_self, true_and, and_true, killS, kill_box, kill_arr, e_box, e_arr, AK.tmp, PV.killL, PV.kill, killE_at, newBox, initC, initA, ld, getBox, setBox, getArr, setArr, pickC, Option.map_some, Option.map_none, PV.upN, binP, binInt, binStr, binB, unP, cnd_true, cnd_false, cnd_dec, cnd_not, Nat.reduceEqDiff, not_false_eq_true, not_true_eq_false, reduceIte, reduceCtorEq, Nat.reduceAdd, Nat.zero_add, Nat.add_zero, Nat.reduceLeDiff, Nat.reduceSub, Nat.reduceMul, fin_ret, fin_nor, List.length_cons, List.length_nil, List.drop_succ_cons, List.drop_zero, List.take_succ_cons, List.take_zero, fillP, setAt, List.set_cons_zero, List.set_cons_succ, storeP, stCells, stCell, PV.dnN, PV.dn, PV.dnL, retOf, rdRes, retL, ret1, retV, hand, hand1, handL, handA, List.tail_cons, callP, List.append_nil, List.nil_append, List.any_cons, List.any_nil, PV.hasSl, PV.isSl, Bool.or_false, Bool.false_or, Bool.false_eq_true, if_false, slcP, slcGo, fullOf, idx, iaddrP, lenP, lenS, appendP, newArr, view, srcRows, bigRow, okA, eqCells, convP, slsP, gd_tb, gd_fb, List.cons_append, Option.getD_none, List.getElem?_nil, AK.slot.injEq, AK.cell.injEq, decide_true, decide_false, Bool.not_true, Bool.not_false, Option.isNone_none, Option.isSome_none, Option.isSome_some, Option.isNone_some, prep, Ac.kill, PV.int.injEq, beq_self_eq_true, decide_eq_true_eq, Bool.not_eq_true, decide_eq_false_iff_not, true_or, or_true, false_or, or_false, false_and, and_false, Bool.not_not, Classical.not_not, Bool.false_and, Bool.and_false, Bool.and_self, ite_self, PV.pure, PV.plain, PV.plainL, Ret.plain, allPure, List.isEmpty_nil, List.isEmpty_cons, Bool.or_true, Bool.true_or, Int.reduceEq, Int.reduceNe, Int.reduceLT, Int.reduceLE, Int.reduceAdd, Int.reduceSub, Int.reduceMul, Int.reduceNeg, Nat.reduceLT, Nat.reduceDiv]
          · simp only [h16, List.map_cons, List.map_nil, PV.up, PV.upL, E_seq, E_reg, E_block, E_cnd, E_skip, E_exit, E_ret, E_dreg, thC_nor, thC_ret, thC_ext, thC_pan, inBlk_ext, inBlk_nor, inBlk_ret, inBlk_pan, evOps_cons, evOps_nil, thOps_ok, thOps_pan, evD_cons, evD_nil, thD_tot, thD_same, List.tail_cons, stp_none, stp_some, gd_tt, gd_ff, gd_tf, gd_ft, gd_undef, gd_td, gd_fd, ex_v, vo_some, ex, vop, ev_t, ev_c, put_some, put_none, upd_same, upd_ne, updK_same, updK_ne, ne_eq, argE_at, List.getElem?_cons_zero, List.getElem?_cons_succ, Option.getD_some, PV.cells, List.all_cons, List.all_nil, PV.one, Bool.and_true, Bool.true_and, if_true, and_self, true_and, and_true, killS, kill_box, kill_arr, e_box, e_arr, AK.tmp, PV.killL, PV.kill, killE_at, newBox, initC, initA, ld, getBox, setBox, getArr, setArr, pickC, Option.map_some, Option.map_none, PV.upN, binP, binInt, binStr, binB, unP, cnd_true, cnd_false, cnd_dec, cnd_not, Nat.reduceEqDiff, not_false_eq_true, not_true_eq_false, reduceIte, reduceCtorEq, Nat.reduceAdd, Nat.zero_add, Nat.add_zero, Nat.reduceLeDiff, Nat.reduceSub, Nat.reduceMul, fin_ret, fin_nor, List.length_cons, List.length_nil, List.drop_succ_cons, List.drop_zero, List.take_succ_cons, List.take_zero, fillP, setAt, List.set_cons_zero, List.set_cons_succ, storeP, stCells, stCell, PV.dnN, PV.dn, PV.dnL, retOf, rdRes, retL, ret1, retV, hand, hand1, handL, handA, List.tail_cons, callP, List.append_nil, List.nil_append, List.any_cons, List.any_nil, PV.hasSl, PV.isSl, Bool.or_false, Bool.false_or, Bool.false_eq_true, if_false, slcP, slcGo, fullOf, idx, iaddrP, lenP, lenS, appendP, newArr, view, srcRows, bigRow, okA, eqCells, convP, slsP, gd_tb, gd_fb, List.cons_append, Option.getD_none, List.getElem?_nil, AK.slot.injEq, AK.cell.injEq, decide_true, decide_false, Bool.not_true, Bool.not_false, Option.isNone_none, Option.isSome_none, Option.isSome_some, Option.isNone_some, prep, Ac.kill, PV.int.injEq, beq_self_eq_true, decide_eq_true_eq, Bool.not_eq_true, decide_eq_false_iff_not, true_or, or_true, false_or, or_false, false_and, and_false, Bool.not_not, Classical.not_not, Bool.false_and, Bool.and_false, Bool.and_self, ite_self, PV.pure, PV.plain, PV.plainL, Ret.plain, allPure, List.isEmpty_nil, List.isEmpty_cons, Bool.or_true, Bool.true_or, Int.reduceEq, Int.reduceNe, Int.reduceLT, Int.reduceLE, Int.reduceAdd, Int.reduceSub, Int.reduceMul, Int.reduceNeg, Nat.reduceLT, Nat.reduceDiv]
          · simp only [List.map_cons, List.map_nil, PV.up, PV.upL, E_seq, E_reg, E_block, E_cnd, E_skip, E_exit, E_ret, E_dreg, thC_nor, thC_ret, thC_ext, thC_pan, inBlk_ext, inBlk_nor, inBlk_ret, inBlk_pan, evOps_cons, evOps_nil, thOps_ok, thOps_pan, evD_cons, evD_nil, thD_tot, thD_same, List.tail_cons, stp_none, stp_some, gd_tt, gd_ff, gd_tf, gd_ft, gd_undef, gd_td, gd_fd, ex_v, vo_some, ex, vop, ev_t, ev_c, put_some, put_none, upd_same, upd_ne, updK_same, updK_ne, ne_eq, argE_at, List.getElem?_cons_zero, List.getElem?_cons_succ, Option.getD_some, PV.cells, List.all_cons, List.all_nil, PV.one, Bool.and_true, Bool.true_and, if_true, and_self, true_and, and_true, killS, kill_box, kill_arr, e_box, e_arr, AK.tmp, PV.killL, PV.kill, killE_at, newBox, initC, initA, ld, getBox, setBox, getArr, setArr, pickC, Option.map_some, Option.map_none, PV.upN, binP, binInt, binStr, binB, unP, cnd_true, cnd_false, cnd_dec, cnd_not, Nat.reduceEqDiff, not_false_eq_true, not_true_eq_false, reduceIte, reduceCtorEq, Nat.reduceAdd, Nat.zero_add, Nat.add_zero, Nat.reduceLeDiff, Nat.reduceSub, Nat.reduceMul, fin_ret, fin_nor, List.length_cons, List.length_nil, List.drop_succ_cons, List.drop_zero, List.take_succ_cons, List.take_zero, fillP, setAt, List.set_cons_zero, List.set_cons_succ, storeP, stCells, stCell, PV.dnN, PV.dn, PV.dnL, retOf, rdRes, retL, ret1, retV, hand, hand1, handL, handA, List.tail_cons, callP, List.append_nil, List.nil_append, List.any_cons, List.any_nil, PV.hasSl, PV.isSl, Bool.or_false, Bool.false_or, Bool.false_eq_true, if_false, slcP, slcGo, fullOf, idx, iaddrP, lenP, lenS, appendP, newArr, view, srcRows, bigRow, okA, eqCells, convP, slsP, gd_tb, gd_fb, List.cons_append, Option.getD_none, List.getElem?_nil, AK.slot.injEq, AK.cell.injEq, decide_true, decide_false, Bool.not_true, Bool.not_false, Option.isNone_none, Option.isSome_none, Option.isSome_some, Option.isNone_some, prep, Ac.kill, PV.int.injEq, beq_self_eq_true, decide_eq_true_eq, Bool.not_eq_true, decide_eq_false_iff_not, true_or, or_true, false_or, or_false, false_and, and_false, Bool.not_not, Classical.not_not, Bool.false_and, Bool.and_false, Bool.and_self, ite_self, PV.pure, PV.plain, PV.plainL, Ret.plain, allPure, List.isEmpty_nil, List.isEmpty_cons, Bool.or_true, Bool.true_or, Int.reduceEq, Int.reduceNe, Int.reduceLT, Int.reduceLE, Int.reduceAdd, Int.reduceSub, Int.reduceMul, Int.reduceNeg, Nat.reduceLT, Nat.reduceDiv]
        | false =>
          rw [hs] at hfu
          simp only [h1, h2, h15, h16, h17, hlt, rv, ru, hfu, nat_nonneg, Int.toNat_natCast, w1, List.map_cons, List.map_nil, PV.up, PV.upL, E_seq, E_reg, E_block, E_cnd, E_skip, E_exit, E_ret, E_dreg, thC_nor, thC_ret, thC_ext, thC_pan, inBlk_ext, inBlk_nor, inBlk_ret, inBlk_pan, evOps_cons, evOps_nil, thOps_ok, thOps_pan, evD_cons, evD_nil, thD_tot, thD_same, List.tail_cons, stp_none, stp_some, gd_tt, gd_ff, gd_tf, gd_ft, gd_undef, gd_td, gd_fd, ex_v, vo_some, ex, vop, ev_t, ev_c, put_some, put_none, upd_same, upd_ne, updK_same, updK_ne, ne_eq, argE_at, List.getElem?_cons_zero, List.getElem?_cons_succ, Option.getD_some, PV.cells, List.all_cons, List.all_nil, PV.one, Bool.and_true, Bool.true_and, if_true, and_self, true_and, and_true, killS, kill_box, kill_arr, e_box, e_arr, AK.tmp, PV.killL, PV.kill, killE_at, newBox, initC, initA, ld, getBox, setBox, getArr, setArr, pickC, Option.map_some, Option.map_none, PV.upN, binP, binInt, binStr, binB, unP, cnd_true, cnd_false, cnd_dec, cnd_not, Nat.reduceEqDiff, not_false_eq_true, not_true_eq_false, reduceIte, reduceCtorEq, Nat.reduceAdd, Nat.zero_add, Nat.add_zero, Nat.reduceLeDiff, Nat.reduceSub, Nat.reduceMul, fin_ret, fin_nor, List.length_cons, List.length_nil, List.drop_succ_cons, List.drop_zero, List.take_succ_cons, List.take_zero, fillP, setAt, List.set_cons_zero, List.set_cons_succ, storeP, stCells, stCell, PV.dnN, PV.dn, PV.dnL, retOf, rdRes, retL, ret1, retV, hand, hand1, handL, handA, List.tail_cons, callP, List.append_nil, List.nil_append, List.any_cons, List.any_nil, PV.hasSl, PV.isSl, Bool.or_false, Bool.false_or, Bool.false_eq_true, if_false, slcP, slcGo, fullOf, idx, iaddrP, lenP, lenS, appendP, newArr, view, srcRows, bigRow, okA, eqCells, convP, slsP, gd_tb, gd_fb, List.cons_append, Option.getD_none, List.getElem?_nil, AK.slot.injEq, AK.cell.injEq, decide_true, decide_false, Bool.not_true, Bool.not_false, Option.isNone_none, Option.isSome_none, Option.isSome_some, Option.isNone_some, prep, Ac.kill, PV.int.injEq, beq_self_eq_true, decide_eq_true_eq, Bool.not_eq_true, decide_eq_false_iff_not, true_or, or_true, false_or, or_false, false_and, and_false, Bool.not_not, Classical.not_not, Bool.false_and, Bool.and_false, Bool.and_self, ite_self, PV.pure, PV.plain, PV.plainL, Ret.plain, allPure, List.isEmpty_nil, List.isEmpty_cons, Bool.or_true, Bool.true_or, Int.reduceEq, Int.reduceNe, Int.reduceLT, Int.reduceLE, Int.reduceAdd, Int.reduceSub, Int.reduceMul, Int.reduceNeg, Nat.reduceLT, Nat.reduceDiv]
          exact ⟨rfl, rfl, _, rfl⟩
    have e1 : (vs.length : Int) = (us.length : Int) := by omega
    simp only [sc36, ac0, encL_length, e1, List.map_cons, List.map_nil, PV.up, PV.upL, E_seq, E_reg, E_block, E_cnd, E_skip, E_exit, E_ret, E_dreg, thC_nor, thC_ret, thC_ext, thC_pan, inBlk_ext, inBlk_nor, inBlk_ret, inBlk_pan, evOps_cons, evOps_nil, thOps_ok, thOps_pan, evD_cons, evD_nil, thD_tot, thD_same, List.tail_cons, stp_none, stp_some, gd_tt, gd_ff, gd_tf, gd_ft, gd_undef, gd_td, gd_fd, ex_v, vo_some, ex, vop, ev_t, ev_c, put_some, put_none, upd_same, upd_ne, updK_same, updK_ne, ne_eq, argE_at, List.getElem?_cons_zero, List.getElem?_cons_succ, Option.getD_some, PV.cells, List.all_cons, List.all_nil, PV.one, Bool.and_true, Bool.true_and, if_true, and_self, true_and, and_true, killS, kill_box, kill_arr, e_box, e_arr, AK.tmp, PV.killL, PV.kill, killE_at, newBox, initC, initA, ld, getBox, setBox, getArr, setArr, pickC, Option.map_some, Option.map_none, PV.upN, binP, binInt, binStr, binB, unP, cnd_true, cnd_false, cnd_dec, cnd_not, Nat.reduceEqDiff, not_false_eq_true, not_true_eq_false, reduceIte, reduceCtorEq, Nat.reduceAdd, Nat.zero_add, Nat.add_zero, Nat.reduceLeDiff, Nat.reduceSub, Nat.reduceMul, fin_ret, fin_nor, List.length_cons, List.length_nil, List.drop_succ_cons, List.drop_zero, List.take_succ_cons, List.take_zero, fillP, setAt, List.set_cons_zero, List.set_cons_succ, storeP, stCells, stCell, PV.dnN, PV.dn, PV.dnL, retOf, rdRes, retL, ret1, retV, hand, hand1, handL, handA, List.tail_cons, callP, List.append_nil, List.nil_append, List.any_cons, List.any_nil, PV.hasSl, PV.isSl, Bool.or_false, Bool.false_or, Bool.false_eq_true, if_false, slcP, slcGo, fullOf, idx, iaddrP, lenP, lenS, appendP, newArr, view, srcRows, bigRow, okA, eqCells, convP, slsP, gd_tb, gd_fb, List.cons_append, Option.getD_none, List.getElem?_nil, AK.slot.injEq, AK.cell.injEq, decide_true, decide_false, Bool.not_true, Bool.not_false, Option.isNone_none, Option.isSome_none, Option.isSome_some, Option.isNone_some, prep, Ac.kill, PV.int.injEq, beq_self_eq_true, decide_eq_true_eq, Bool.not_eq_true, decide_eq_false_iff_not, true_or, or_true, false_or, or_false, false_and, and_false, Bool.not_not, Classical.not_not, Bool.false_and, Bool.and_false, Bool.and_self, ite_self, PV.pure, PV.plain, PV.plainL, Ret.plain, allPure, List.isEmpty_nil, List.isEmpty_cons, Bool.or_true, Bool.true_or, Int.reduceEq, Int.reduceNe, Int.reduceLT, Int.reduceLE, Int.reduceAdd, Int.reduceSub, Int.reduceMul, Int.reduceNeg, Nat.reduceLT, Nat.reduceDiv]
    have h := loop vs.length 0 (by omega)
    simp only [b36, sc36] at h
    generalize hr : E SP _ _ = r
    have hx : Alike 6 (sameV.sameA (vs.drop 0) (us.drop 0)) S r := by
      rw [← hr]
      refine h _ _ ?_ ?_ ?_ ?_ ?_
      all_goals first | rfl | (simp only [List.map_cons, List.map_nil, PV.up, PV.upL, E_seq, E_reg, E_block, E_cnd, E_skip, E_exit, E_ret, E_dreg, thC_nor, thC_ret, thC_ext, thC_pan, inBlk_ext, inBlk_nor, inBlk_ret, inBlk_pan, evOps_cons, evOps_nil, thOps_ok, thOps_pan, evD_cons, evD_nil, thD_tot, thD_same, List.tail_cons, stp_none, stp_some, gd_tt, gd_ff, gd_tf, gd_ft, gd_undef, gd_td, gd_fd, ex_v, vo_some, ex, vop, ev_t, ev_c, put_some, put_none, upd_same, upd_ne, updK_same, updK_ne, ne_eq, argE_at, List.getElem?_cons_zero, List.getElem?_cons_succ, Option.getD_some, PV.cells, List.all_cons, List.all_nil, PV.one, Bool.and_true, Bool.true_and, if_true, and_self, true_and, and_true, killS, kill_box, kill_arr, e_box, e_arr, AK.tmp, PV.killL, PV.kill, killE_at, newBox, initC, initA, ld, getBox, setBox, getArr, setArr, pickC, Option.map_some, Option.map_none, PV.upN, binP, binInt, binStr, binB, unP, cnd_true, cnd_false, cnd_dec, cnd_not, Nat.reduceEqDiff, not_false_eq_true, not_true_eq_false, reduceIte, reduceCtorEq, Nat.reduceAdd, Nat.zero_add, Nat.add_zero, Nat.reduceLeDiff, Nat.reduceSub, Nat.reduceMul, fin_ret, fin_nor, List.length_cons, List.length_nil, List.drop_succ_cons, List.drop_zero, List.take_succ_cons, List.take_zero, fillP, setAt, List.set_cons_zero, List.set_cons_succ, storeP, stCells, stCell, PV.dnN, PV.dn, PV.dnL, retOf, rdRes, retL, ret1, retV, hand, hand1, handL, handA, List.tail_cons, callP, List.append_nil, List.nil_append, List.any_cons, List.any_nil, PV.hasSl, PV.isSl, Bool.or_false, Bool.false_or, Bool.false_eq_true, if_false, slcP, slcGo, fullOf, idx, iaddrP, lenP, lenS, appendP, newArr, view, srcRows, bigRow, okA, eqCells, convP, slsP, gd_tb, gd_fb, List.cons_append, Option.getD_none, List.getElem?_nil, AK.slot.injEq, AK.cell.injEq, decide_true, decide_false, Bool.not_true, Bool.not_false, Option.isNone_none, Option.isSome_none, Option.isSome_some, Option.isNone_some, prep, Ac.kill, PV.int.injEq, beq_self_eq_true, decide_eq_true_eq, Bool.not_eq_true, decide_eq_false_iff_not, true_or, or_true, false_or, or_false, false_and, and_false, Bool.not_not, Classical.not_not, Bool.false_and, Bool.and_false, Bool.and_self, ite_self, PV.pure, PV.plain, PV.plainL, Ret.plain, allPure, List.isEmpty_nil, List.isEmpty_cons, Bool.or_true, Bool.true_or, Int.reduceEq, Int.reduceNe, Int.reduceLT, Int.reduceLE, Int.reduceAdd, Int.reduceSub, Int.reduceMul, Int.reduceNeg, Nat.reduceLT, Nat.reduceDiv]; done) | (simp only [List.map_cons, List.map_nil, PV.up, PV.upL, E_seq, E_reg, E_block, E_cnd, E_skip, E_exit, E_ret, E_dreg, thC_nor, thC_ret, thC_ext, thC_pan, inBlk_ext, inBlk_nor, inBlk_ret, inBlk_pan, evOps_cons, evOps_nil, thOps_ok, thOps_pan, evD_cons, evD_nil, thD_tot, thD_same, List.tail_cons, stp_none, stp_some, gd_tt, gd_ff, gd_tf, gd_ft, gd_undef, gd_td, gd_fd, ex_v, vo_some, ex, vop, ev_t, ev_c, put_some, put_none, upd_same, upd_ne, updK_same, updK_ne, ne_eq, argE_at, List.getElem?_cons_zero, List.getElem?_cons_succ, Option.getD_some, PV.cells, List.all_cons, List.all_nil, PV.one, Bool.and_true, Bool.true_and, if_true, and_self, true_and, and_true, killS, kill_box, kill_arr, e_box, e_arr, AK.tmp, PV.killL, PV.kill, killE_at, newBox, initC, initA, ld, getBox, setBox, getArr, setArr, pickC, Option.map_some, Option.map_none, PV.upN, binP, binInt, binStr, binB, unP, cnd_true, cnd_false, cnd_dec, cnd_not, Nat.reduceEqDiff, not_false_eq_true, not_true_eq_false, reduceIte, reduceCtorEq, Nat.reduceAdd, Nat.zero_add, Nat.add_zero, Nat.reduceLeDiff, Nat.reduceSub, Nat.reduceMul, fin_ret, fin_nor, List.length_cons, List.length_nil, List.drop_succ_cons, List.drop_zero, List.take_succ_cons, List.take_zero, fillP, setAt, List.set_cons_zero, List.set_cons_succ, storeP, stCells, stCell, PV.dnN, PV.dn, PV.dnL, retOf, rdRes, retL, ret1, retV, hand, hand1, handL, handA, List.tail_cons, callP, List.append_nil, List.nil_append, List.any_cons, List.any_nil, PV.hasSl, PV.isSl, Bool.or_false, Bool.false_or, Bool.false_eq_true, if_false, slcP, slcGo, fullOf, idx, iaddrP, lenP, lenS, appendP, newArr, view, srcRows, bigRow, okA, eqCells, convP, slsP, gd_tb, gd_fb, List.cons_append, Option.getD_none, List.getElem?_nil, AK.slot.injEq, AK.cell.injEq, decide_true, decide_false, Bool.not_true, Bool.not_false, Option.isNone_none, Option.isSome_none, Option.isSome_some, Option.isNone_some, prep, Ac.kill, PV.int.injEq, beq_self_eq_true, decide_eq_true_eq, Bool.not_eq_true, decide_eq_false_iff_not, true_or, or_true, false_or, or_false, false_and, and_false, Bool.not_not, Classical.not_not, Bool.false_and, Bool.and_false, Bool.and_self, ite_self, PV.pure, PV.plain, PV.plainL, Ret.plain, allPure, List.isEmpty_nil, List.isEmpty_cons, Bool.or_true, Bool.true_or, Int.reduceEq, Int.reduceNe, Int.reduceLT, Int.reduceLE, Int.reduceAdd, Int.reduceSub, Int.reduceMul, Int.reduceNeg, Nat.reduceLT, Nat.reduceDiv]; rfl)
    rw [List.drop_zero, List.drop_zero] at hx
    cases r with
    | ext i ac =>
      obtain ⟨rfl, hn, f', hS⟩ := hx
      obtain ⟨e, S'⟩ := ac
      simp only at hS
      subst hS
      simp only [hn, List.map_cons, List.map_nil, PV.up, PV.upL, E_seq, E_reg, E_block, E_cnd, E_skip, E_exit, E_ret, E_dreg, thC_nor, thC_ret, thC_ext, thC_pan, inBlk_ext, inBlk_nor, inBlk_ret, inBlk_pan, evOps_cons, evOps_nil, thOps_ok, thOps_pan, evD_cons, evD_nil, thD_tot, thD_same, List.tail_cons, stp_none, stp_some, gd_tt, gd_ff, gd_tf, gd_ft, gd_undef, gd_td, gd_fd, ex_v, vo_some, ex, vop, ev_t, ev_c, put_some, put_none, upd_same, upd_ne, updK_same, updK_ne, ne_eq, argE_at, List.getElem?_cons_zero, List.getElem?_cons_succ, Option.getD_some, PV.cells, List.all_cons, List.all_nil, PV.one, Bool.and_true, Bool.true_and, if_true, and_self, true_and, and_true, killS, kill_box, kill_arr, e_box, e_arr, AK.tmp, PV.killL, PV.kill, killE_at, newBox, initC, initA, ld, getBox, setBox, getArr, setArr, pickC, Option.map_some, Option.map_none, PV.upN, binP, binInt, binStr, binB, unP, cnd_true, cnd_false, cnd_dec, cnd_not, Nat.reduceEqDiff, not_false_eq_true, not_true_eq_false, reduceIte, reduceCtorEq, Nat.reduceAdd, Nat.zero_add, Nat.add_zero, Nat.reduceLeDiff, Nat.reduceSub, Nat.reduceMul, fin_ret, fin_nor, List.length_cons, List.length_nil, List.drop_succ_cons, List.drop_zero, List.take_succ_cons, List.take_zero, fillP, setAt, List.set_cons_zero, List.set_cons_succ, storeP, stCells, stCell, PV.dnN, PV.dn, PV.dnL, retOf, rdRes, retL, ret1, retV, hand, hand1, handL, handA, List.tail_cons, callP, List.append_nil, List.nil_append, List.any_cons, List.any_nil, PV.hasSl, PV.isSl, Bool.or_false, Bool.false_or, Bool.false_eq_true, if_false, slcP, slcGo, fullOf, idx, iaddrP, lenP, lenS, appendP, newArr, view, srcRows, bigRow, okA, eqCells, convP, slsP, gd_tb, gd_fb, List.cons_append, Option.getD_none, List.getElem?_nil, AK.slot.injEq, AK.cell.injEq, decide_true, decide_false, Bool.not_true, Bool.not_false, Option.isNone_none, Option.isSome_none, Option.isSome_some, Option.isNone_some, prep, Ac.kill, PV.int.injEq, beq_self_eq_true, decide_eq_true_eq, Bool.not_eq_true, decide_eq_false_iff_not, true_or, or_true, false_or, or_false, false_and, and_false, Bool.not_not, Classical.not_not, Bool.false_and, Bool.and_false, Bool.and_self, ite_self, PV.pure, PV.plain, PV.plainL, Ret.plain, allPure, List.isEmpty_nil, List.isEmpty_cons, Bool.or_true, Bool.true_or, Int.reduceEq, Int.reduceNe, Int.reduceLT, Int.reduceLE, Int.reduceAdd, Int.reduceSub, Int.reduceMul, Int.reduceNeg, Nat.reduceLT, Nat.reduceDiv]
    | ret ac =>
      obtain ⟨he, hn, f', hS⟩ := hx
      obtain ⟨e, S'⟩ := ac
      simp only at hS he
      subst hS
      simp only [he, hn, List.map_cons, List.map_nil, PV.up, PV.upL, E_seq, E_reg, E_block, E_cnd, E_skip, E_exit, E_ret, E_dreg, thC_nor, thC_ret, thC_ext, thC_pan, inBlk_ext, inBlk_nor, inBlk_ret, inBlk_pan, evOps_cons, evOps_nil, thOps_ok, thOps_pan, evD_cons, evD_nil, thD_tot, thD_same, List.tail_cons, stp_none, stp_some, gd_tt, gd_ff, gd_tf, gd_ft, gd_undef, gd_td, gd_fd, ex_v, vo_some, ex, vop, ev_t, ev_c, put_some, put_none, upd_same, upd_ne, updK_same, updK_ne, ne_eq, argE_at, List.getElem?_cons_zero, List.getElem?_cons_succ, Option.getD_some, PV.cells, List.all_cons, List.all_nil, PV.one, Bool.and_true, Bool.true_and, if_true, and_self, true_and, and_true, killS, kill_box, kill_arr, e_box, e_arr, AK.tmp, PV.killL, PV.kill, killE_at, newBox, initC, initA, ld, getBox, setBox, getArr, setArr, pickC, Option.map_some, Option.map_none, PV.upN, binP, binInt, binStr, binB, unP, cnd_true, cnd_false, cnd_dec, cnd_not, Nat.reduceEqDiff, not_false_eq_true, not_true_eq_false, reduceIte, reduceCtorEq, Nat.reduceAdd, Nat.zero_add, Nat.add_zero, Nat.reduceLeDiff, Nat.reduceSub, Nat.reduceMul, fin_ret, fin_nor, List.length_cons, List.length_nil, List.drop_succ_cons, List.drop_zero, List.take_succ_cons, List.take_zero, fillP, setAt, List.set_cons_zero, List.set_cons_succ, storeP, stCells, stCell, PV.dnN, PV.dn, PV.dnL, retOf, rdRes, retL, ret1, retV, hand, hand1, handL, handA, List.tail_cons, callP, List.append_nil, List.nil_append, List.any_cons, List.any_nil, PV.hasSl, PV.isSl, Bool.or_false, Bool.false_or, Bool.false_eq_true, if_false, slcP, slcGo, fullOf, idx, iaddrP, lenP, lenS, appendP, newArr, view, srcRows, bigRow, okA, eqCells, convP, slsP, gd_tb, gd_fb, List.cons_append, Option.getD_none, List.getElem?_nil, AK.slot.injEq, AK.cell.injEq, decide_true, decide_false, Bool.not_true, Bool.not_false, Option.isNone_none, Option.isSome_none, Option.isSome_some, Option.isNone_some, prep, Ac.kill, PV.int.injEq, beq_self_eq_true, decide_eq_true_eq, Bool.not_eq_true, decide_eq_false_iff_not, true_or, or_true, false_or, or_false, false_and, and_false, Bool.not_not, Classical.not_not, Bool.false_and, Bool.and_false, Bool.and_self, ite_self, PV.pure, PV.plain, PV.plainL, Ret.plain, allPure, List.isEmpty_nil, List.isEmpty_cons, Bool.or_true, Bool.true_or, Int.reduceEq, Int.reduceNe, Int.reduceLT, Int.reduceLE, Int.reduceAdd, Int.reduceSub, Int.reduceMul, Int.reduceNeg, Nat.reduceLT, Nat.reduceDiv]
    | nor ac => exact False.elim hx
    | pan v S => exact False.elim hx
    | bad => exact False.elim hx
  · have e1 : ¬ (vs.length : Int) = (us.length : Int) := by omega
    have e2 : sameV.sameA vs us = false := by
      cases h : sameV.sameA vs us with
      | false => rfl
      | true => exact absurd (sameA_length h) hlen
    simp only [sc36, ac0, encL_length, e1, e2, List.map_cons, List.map_nil, PV.up, PV.upL, E_seq, E_reg, E_block, E_cnd, E_skip, E_exit, E_ret, E_dreg, thC_nor, thC_ret, thC_ext, thC_pan, inBlk_ext, inBlk_nor, inBlk_ret, inBlk_pan, evOps_cons, evOps_nil, thOps_ok, thOps_pan, evD_cons, evD_nil, thD_tot, thD_same, List.tail_cons, stp_none, stp_some, gd_tt, gd_ff, gd_tf, gd_ft, gd_undef, gd_td, gd_fd, ex_v, vo_some, ex, vop, ev_t, ev_c, put_some, put_none, upd_same, upd_ne, updK_same, updK_ne, ne_eq, argE_at, List.getElem?_cons_zero, List.getElem?_cons_succ, Option.getD_some, PV.cells, List.all_cons, List.all_nil, PV.one, Bool.and_true, Bool.true_and, if_true, and_self, true_and, and_true, killS, kill_box, kill_arr, e_box, e_arr, AK.tmp, PV.killL, PV.kill, killE_at, newBox, initC, initA, ld, getBox, setBox, getArr, setArr, pickC, Option.map_some, Option.map_none, PV.upN, binP, binInt, binStr, binB, unP, cnd_true, cnd_false, cnd_dec, cnd_not, Nat.reduceEqDiff, not_false_eq_true, not_true_eq_false, reduceIte, reduceCtorEq, Nat.reduceAdd, Nat.zero_add, Nat.add_zero, Nat.reduceLeDiff, Nat.reduceSub, Nat.reduceMul, fin_ret, fin_nor, List.length_cons, List.length_nil, List.drop_succ_cons, List.drop_zero, List.take_succ_cons, List.take_zero, fillP, setAt, List.set_cons_zero, List.set_cons_succ, storeP, stCells, stCell, PV.dnN, PV.dn, PV.dnL, retOf, rdRes, retL, ret1, retV, hand, hand1, handL, handA, List.tail_cons, callP, List.append_nil, List.nil_append, List.any_cons, List.any_nil, PV.hasSl, PV.isSl, Bool.or_false, Bool.false_or, Bool.false_eq_true, if_false, slcP, slcGo, fullOf, idx, iaddrP, lenP, lenS, appendP, newArr, view, srcRows, bigRow, okA, eqCells, convP, slsP, gd_tb, gd_fb, List.cons_append, Option.getD_none, List.getElem?_nil, AK.slot.injEq, AK.cell.injEq, decide_true, decide_false, Bool.not_true, Bool.not_false, Option.isNone_none, Option.isSome_none, Option.isSome_some, Option.isNone_some, prep, Ac.kill, PV.int.injEq, beq_self_eq_true, decide_eq_true_eq, Bool.not_eq_true, decide_eq_false_iff_not, true_or, or_true, false_or, or_false, false_and, and_false, Bool.not_not, Classical.not_not, Bool.false_and, Bool.and_false, Bool.and_self, ite_self, PV.pure, PV.plain, PV.plainL, Ret.plain, allPure, List.isEmpty_nil, List.isEmpty_cons, Bool.or_true, Bool.true_or, Int.reduceEq, Int.reduceNe, Int.reduceLT, Int.reduceLE, Int.reduceAdd, Int.reduceSub, Int.reduceMul, Int.reduceNeg, Nat.reduceLT, Nat.reduceDiv]
theorem Same_ok (v u : V) (hs : small v) (S : Sto) : call SP 22 [.agg (enc v), .agg (enc u)] S = .ok (.v (.bool (sameV v u))) S := by
  have hl := small_l hs
  have hc := EqualFunc_ok v.l u.l hl.1 (fun w hw u' => Same_ok w u' (smallA_mem hl.2 w hw))
  rw [call_code sp22 _ _ rfl]
  rw [enc_eq, enc_eq, sameV_eq]
  by_cases h1 : v.k = u.k
  · by_cases h2 : v.n = u.n
    · by_cases h3 : v.s = u.s
      · simp only [sc22, ac0, hc, h1, h2, h3, List.map_cons, List.map_nil, PV.up, PV.upL, E_seq, E_reg, E_block, E_cnd, E_skip, E_exit, E_ret, E_dreg, thC_nor, thC_ret, thC_ext, thC_pan, inBlk_ext, inBlk_nor, inBlk_ret, inBlk_pan, evOps_cons, evOps_nil, thOps_ok, thOps_pan, evD_cons, evD_nil, thD_tot, thD_same, List.tail_cons, stp_none, stp_some, gd_tt, gd_ff, gd_tf, gd_ft, gd_undef, gd_td, gd_fd, ex_v, vo_some, ex, vop, ev_t, ev_c, put_some, put_none, upd_same, upd_ne, updK_same, updK_ne, ne_eq, argE_at, List.getElem?_cons_zero, List.getElem?_cons_succ, Option.getD_some, PV.cells, List.all_cons, List.all_nil, PV.one, Bool.and_true, Bool.true_and, if_true, and_self, true_and, and_true, killS, kill_box, kill_arr, e_box, e_arr, AK.tmp, PV.killL, PV.kill, killE_at, newBox, initC, initA, ld, getBox, setBox, getArr, setArr, pickC, Option.map_some, Option.map_none, PV.upN, binP, binInt, binStr, binB, unP, cnd_true, cnd_false, cnd_dec, cnd_not, Nat.reduceEqDiff, not_false_eq_true, not_true_eq_false, reduceIte, reduceCtorEq, Nat.reduceAdd, Nat.zero_add, Nat.add_zero, Nat.reduceLeDiff, Nat.reduceSub, Nat.reduceMul, fin_ret, fin_nor, List.length_cons, List.length_nil, List.drop_succ_cons, List.drop_zero, List.take_succ_cons, List.take_zero, fillP, setAt, List.set_cons_zero, List.set_cons_succ, storeP, stCells, stCell, PV.dnN, PV.dn, PV.dnL, retOf, rdRes, retL, ret1, retV, hand, hand1, handL, handA, List.tail_cons, callP, List.append_nil, List.nil_append, List.any_cons, List.any_nil, PV.hasSl, PV.isSl, Bool.or_false, Bool.false_or, Bool.false_eq_true, if_false, slcP, slcGo, fullOf, idx, iaddrP, lenP, lenS, appendP, newArr, view, srcRows, bigRow, okA, eqCells, convP, slsP, gd_tb, gd_fb, List.cons_append, Option.getD_none, List.getElem?_nil, AK.slot.injEq, AK.cell.injEq, decide_true, decide_false, Bool.not_true, Bool.not_false, Option.isNone_none, Option.isSome_none, Option.isSome_some, Option.isNone_some, prep, Ac.kill, PV.int.injEq, beq_self_eq_true, decide_eq_true_eq, Bool.not_eq_true, decide_eq_false_iff_not, true_or, or_true, false_or, or_false, false_and, and_false, Bool.not_not, Classical.not_not, Bool.false_and, Bool.and_false, Bool.and_self, ite_self, PV.pure, PV.plain, PV.plainL, Ret.plain, allPure, List.isEmpty_nil, List.isEmpty_cons, Bool.or_true, Bool.true_or, Int.reduceEq, Int.reduceNe, Int.reduceLT, Int.reduceLE, Int.reduceAdd, Int.reduceSub, Int.reduceMul, Int.reduceNeg, Nat.reduceLT, Nat.reduceDiv]
      · simp only [sc22, ac0, hc, h1, h2, h3, List.map_cons, List.map_nil, PV.up, PV.upL, E_seq, E_reg, E_block, E_cnd, E_skip, E_exit, E_ret, E_dreg, thC_nor, thC_ret, thC_ext, thC_pan, inBlk_ext, inBlk_nor, inBlk_ret, inBlk_pan, evOps_cons, evOps_nil, thOps_ok, thOps_pan, evD_cons, evD_nil, thD_tot, thD_same, List.tail_cons, stp_none, stp_some, gd_tt, gd_ff, gd_tf, gd_ft, gd_undef, gd_td, gd_fd, ex_v, vo_some, ex, vop, ev_t, ev_c, put_some, put_none, upd_same, upd_ne, updK_same, updK_ne, ne_eq, argE_at, List.getElem?_cons_zero, List.getElem?_cons_succ, Option.getD_some, PV.cells, List.all_cons, List.all_nil, PV.one, Bool.and_true, Bool.true_and, if_true, and_self, true_and, and_true, killS, kill_box, kill_arr, e_box, e_arr, AK.tmp, PV.killL, PV.kill, killE_at, newBox, initC, initA, ld, getBox, setBox, getArr, setArr, pickC, Option.map_some, Option.map_none, PV.upN, binP, binInt, binStr, binB, unP, cnd_true, cnd_false, cnd_dec, cnd_not, Nat.reduceEqDiff, not_false_eq_true, not_true_eq_false, reduceIte, reduceCtorEq, Nat.reduceAdd, Nat.zero_add, Nat.add_zero, Nat.reduceLeDiff, Nat.reduceSub, Nat.reduceMul, fin_ret, fin_nor, List.length_cons, List.length_nil, List.drop_succ_cons, List.drop_zero, List.take_succ_cons, List.take_zero, fillP, setAt, List.set_cons_zero, List.set_cons_succ, storeP, stCells, stCell, PV.dnN, PV.dn, PV.dnL, retOf, rdRes, retL, ret1, retV, hand, hand1, handL, handA, List.tail_cons, callP, List.append_nil, List.nil_append, List.any_cons, List.any_nil, PV.hasSl, PV.isSl, Bool.or_false, Bool.false_or, Bool.false_eq_true, if_false, slcP, slcGo, fullOf, idx, iaddrP, lenP, lenS, appendP, newArr, view, srcRows, bigRow, okA, eqCells, convP, slsP, gd_tb, gd_fb, List.cons_append, Option.getD_none, List.getElem?_nil, AK.slot.injEq, AK.cell.injEq, decide_true, decide_false, Bool.not_true, Bool.not_false, Option.isNone_none, Option.isSome_none, Option.isSome_some, Option.isNone_some, prep, Ac.kill, PV.int.injEq, beq_self_eq_true, decide_eq_true_eq, Bool.not_eq_true, decide_eq_false_iff_not, true_or, or_true, false_or, or_false, false_and, and_false, Bool.not_not, Classical.not_not, Bool.false_and, Bool.and_false, Bool.and_self, ite_self, PV.pure, PV.plain, PV.plainL, Ret.plain, allPure, List.isEmpty_nil, List.isEmpty_cons, Bool.or_true, Bool.true_or, Int.reduceEq, Int.reduceNe, Int.reduceLT, Int.reduceLE, Int.reduceAdd, Int.reduceSub, Int.reduceMul, Int.reduceNeg, Nat.reduceLT, Nat.reduceDiv]
    · simp only [sc22, ac0, hc, h1, h2, List.map_cons, List.map_nil, PV.up, PV.upL, E_seq, E_reg, E_block, E_cnd, E_skip, E_exit, E_ret, E_dreg, thC_nor, thC_ret, thC_ext, thC_pan, inBlk_ext, inBlk_nor, inBlk_ret, inBlk_pan, evOps_cons, evOps_nil, thOps_ok, thOps_pan, evD_cons, evD_nil, thD_tot, thD_same, List.tail_cons, stp_none, stp_some, gd_tt, gd_ff, gd_tf, gd_ft, gd_undef, gd_td, gd_fd, ex_v, vo_some, ex, vop, ev_t, ev_c, put_some, put_none, upd_same, upd_ne, updK_same, updK_ne, ne_eq, argE_at, List.getElem?_cons_zero, List.getElem?_cons_succ, Option.getD_some, PV.cells, List.all_cons, List.all_nil, PV.one, Bool.and_true, Bool.true_and, if_true, and_self, true_and, and_true, killS, kill_box, kill_arr, e_box, e_arr, AK.tmp, PV.killL, PV.kill, killE_at, newBox, initC, initA, ld, getBox, setBox, getArr, setArr, pickC, Option.map_some, Option.map_none, PV.upN, binP, binInt, binStr, binB, unP, cnd_true, cnd_false, cnd_dec, cnd_not, Nat.reduceEqDiff, not_false_eq_true, not_true_eq_false, reduceIte, reduceCtorEq, Nat.reduceAdd, Nat.zero_add, Nat.add_zero, Nat.reduceLeDiff, Nat.reduceSub, Nat.reduceMul, fin_ret, fin_nor, List.length_cons, List.length_nil, List.drop_succ_cons, List.drop_zero, List.take_succ_cons, List.take_zero, fillP, setAt, List.set_cons_zero, List.set_cons_succ, storeP, stCells, stCell, PV.dnN, PV.dn, PV.dnL, retOf, rdRes, retL, ret1, retV, hand, hand1, handL, handA, List.tail_cons, callP, List.append_nil, List.nil_append, List.any_cons, List.any_nil, PV.hasSl, PV.isSl, Bool.or_false, Bool.false_or, Bool.false_eq_true, if_false, slcP, slcGo, fullOf, idx, iaddrP, lenP, lenS, appendP, newArr, view, srcRows, bigRow, okA, eqCells, convP, slsP, gd_tb, gd_fb, List.cons_append, Option.getD_none, List.getElem?_nil, AK.slot.injEq, AK.cell.injEq, decide_true, decide_false, Bool.not_true, Bool.not_false, Option.isNone_none, Option.isSome_none, Option.isSome_some, Option.isNone_some, prep, Ac.kill, PV.int.injEq, beq_self_eq_true, decide_eq_true_eq, Bool.not_eq_true, decide_eq_false_iff_not, true_or, or_true, false_or, or_false, false_and, and_false, Bool.not_not, Classical.not_not, Bool.false_and, Bool.and_false, Bool.and_self, ite_self, PV.pure, PV.plain, PV.plainL, Ret.plain, allPure, List.isEmpty_nil, List.isEmpty_cons, Bool.or_true, Bool.true_or, Int.reduceEq, Int.reduceNe, Int.reduceLT, Int.reduceLE, Int.reduceAdd, Int.reduceSub, Int.reduceMul, Int.reduceNeg, Nat.reduceLT, Nat.reduceDiv]
  · simp only [sc22, ac0, hc, h1, List.map_cons, List.map_nil, PV.up, PV.upL, E_seq, E_reg, E_block, E_cnd, E_skip, E_exit, E_ret, E_dreg, thC_nor, thC_ret, thC_ext, thC_pan, inBlk_ext, inBlk_nor, inBlk_ret, inBlk_pan, evOps_cons, evOps_nil, thOps_ok, thOps_pan, evD_cons, evD_nil, thD_tot, thD_same, List.tail_cons, stp_none, stp_some, gd_tt, gd_ff, gd_tf, gd_ft, gd_undef, gd_td, gd_fd, ex_v, vo_some, ex, vop, ev_t, ev_c, put_some, put_none, upd_same, upd_ne, updK_same, updK_ne, ne_eq, argE_at, List.getElem?_cons_zero, List.getElem?_cons_succ, Option.getD_some, PV.cells, List.all_cons, List.all_nil, PV.one, Bool.and_true, Bool.true_and, if_true, and_self, true_and, and_true, killS, kill_box, kill_arr, e_box, e_arr, AK.tmp, PV.killL, PV.kill, killE_at, newBox, initC, initA, ld, getBox, setBox, getArr, setArr, pickC, Option.map_some, Option.map_none, PV.upN, binP, binInt, binStr, binB, unP, cnd_true, cnd_false, cnd_dec, cnd_not, Nat.reduceEqDiff, not_false_eq_true, not_true_eq_false, reduceIte, reduceCtorEq, Nat.reduceAdd, Nat.zero_add, Nat.add_zero, Nat.reduceLeDiff, Nat.reduceSub, Nat.reduceMul, fin_ret, fin_nor, List.length_cons, List.length_nil, List.drop_succ_cons, List.drop_zero, List.take_succ_cons, List.take_zero, fillP, setAt, List.set_cons_zero, List.set_cons_succ, storeP, stCells, stCell, PV.dnN, PV.dn, PV.dnL, retOf, rdRes, retL, ret1, retV, hand, hand1, handL, handA, List.tail_cons, callP, List.append_nil, List.nil_append, List.any_cons, List.any_nil, PV.hasSl, PV.isSl, Bool.or_false, Bool.false_or, Bool.false_eq_true, if_false, slcP, slcGo, fullOf, idx, iaddrP, lenP, lenS, appendP, newArr, view, srcRows, bigRow, okA, eqCells, convP, slsP, gd_tb, gd_fb, List.cons_append, Option.getD_none, List.getElem?_nil, AK.slot.injEq, AK.cell.injEq, decide_true, decide_false, Bool.not_true, Bool.not_false, Option.isNone_none, Option.isSome_none, Option.isSome_some, Option.isNone_some, prep, Ac.kill, PV.int.injEq, beq_self_eq_true, decide_eq_true_eq, Bool.not_eq_true, decide_eq_false_iff_not, true_or, or_true, false_or, or_false, false_and, and_false, Bool.not_not, Classical.not_not, Bool.false_and, Bool.and_false, Bool.and_self, ite_self, PV.pure, PV.plain, PV.plainL, Ret.plain, allPure, List.isEmpty_nil, List.isEmpty_cons, Bool.or_true, Bool.true_or, Int.reduceEq, Int.reduceNe, Int.reduceLT, Int.reduceLE, Int.reduceAdd, Int.reduceSub, Int.reduceMul, Int.reduceNeg, Nat.reduceLT, Nat.reduceDiv]
termination_by SizeOf.sizeOf v
decreasing_by
  have h1 := List.sizeOf_lt_of_mem hw
  have h2 : SizeOf.sizeOf v.l < SizeOf.sizeOf v := by
    cases v
    simp [V.l]
    omega
  omega
end Go.Proofs.Ytebflncfgjnkkaa.M

/- Words for the trees that lift.py prints: data and their cells. -/
namespace Go.Proofs.Ytebflncfgjnkkaa.M
set_option linter.unusedSimpArgs false
set_option linter.unusedVariables false
open Go Classical
/-- It fits 64 bits. -/
def I64 (x : Int) : Prop := -9223372036854775808 ≤ x ∧ x ≤ 9223372036854775807
theorem I64.wrap {x : Int} (h : I64 x) : IntKind.i64.wrap x = x := wrap_i64 h.1 h.2
/-- It fits 8 bits. -/
def U8 (x : Int) : Prop := 0 ≤ x ∧ x ≤ 255
theorem U8.wrap {x : Int} (h : U8 x) : IntKind.u8.wrap x = x := by
  obtain ⟨h1, h2⟩ := h
  simp only [IntKind.wrap, IntKind.min, IntKind.max, IntKind.signed, IntKind.bits]
  simp
  omega
def U64 (x : Int) : Prop := 0 ≤ x ∧ x ≤ 18446744073709551615
theorem U64.wrap {x : Int} (h : U64 x) : IntKind.u64.wrap x = x := by
  obtain ⟨h1, h2⟩ := h
  simp only [IntKind.wrap, IntKind.min, IntKind.max, IntKind.signed, IntKind.bits]
  simp
  omega
def eI (x : Int) : List PV := [.int .i64 x]
def eK (k : IntKind) (x : Int) : List PV := [.int k x]
def eB (x : UInt8) : List PV := [.int .u8 (x.toNat : Nat)]
def eS (x : List UInt8) : List PV := [.str x]
def eO (x : Bool) : List PV := [.bool x]
def eLB (x : List UInt8) : List PV := [.list 1 (x.map eB) false]
def eLS (x : List (List UInt8)) : List PV := [.list 1 (x.map eS) false]
theorem encL_map : ∀ xs : List V, encL xs = xs.map enc
  | [] => by simp [encL]
  | x :: xs => by simp [encL, encL_map xs]
theorem encL_nil : encL [] = [] := by simp [encL]
theorem encL_cons (x : V) (xs : List V) : encL (x :: xs) = enc x :: encL xs := by simp [encL]
theorem encL_app (xs ys : List V) : encL (xs ++ ys) = encL xs ++ encL ys := by simp [encL_map]
theorem encL_drop (xs : List V) (n : Nat) : (encL xs).drop n = encL (xs.drop n) := by simp [encL_map]
theorem encL_take (xs : List V) (n : Nat) : (encL xs).take n = encL (xs.take n) := by simp [encL_map]
theorem map_drop' {α β : Type} (f : α → β) (xs : List α) (n : Nat) : (xs.map f).drop n = (xs.drop n).map f := by simp
theorem map_take' {α β : Type} (f : α → β) (xs : List α) (n : Nat) : (xs.map f).take n = (xs.take n).map f := by simp
theorem take_len {α : Type} (xs : List α) : xs.take xs.length = xs := List.take_length
theorem take_app {α : Type} (xs ys : List α) (n : Nat) : (xs ++ ys).take (xs.length + n) = xs ++ ys.take n := by rw [List.take_append, List.take_of_length_le (by omega)]; congr 2; omega
theorem take_encL_app (xs : List V) (ys : List (List PV)) (n : Nat) : (encL xs ++ ys).take (xs.length + n) = encL xs ++ ys.take n := by
  have := take_app (encL xs) ys n
  rwa [encL_length] at this
theorem take_map_app {α : Type} (f : α → List PV) (xs : List α) (ys : List (List PV)) (n : Nat) : (xs.map f ++ ys).take (xs.length + n) = xs.map f ++ ys.take n := by
  have := take_app (xs.map f) ys n
  rwa [List.length_map] at this
theorem bytesOf_eB : ∀ xs : List UInt8, bytesOf (xs.map eB) = some xs
  | [] => rfl
  | x :: xs => by
    have h : UInt8.ofNat ((x.toNat : Nat) : Int).toNat = x := by simp
    simp only [List.map_cons, eB, bytesOf, bytesOf_eB xs, Option.map_some, h]
theorem bytes_eB (s : List UInt8) : (s.map fun b => ([PV.int .u8 b.toNat] : List PV)) = s.map eB := rfl
theorem cnd_and {SP : Prg} {a b : SC} {ac : Ac} {p q : Bool} : cnd SP (.bool (p && q)) a b ac = if p = true ∧ q = true then E SP a ac else E SP b ac := by cases p <;> cases q <;> rfl
noncomputable def stO (ac : Ac) (r : Option Sto) : OO :=
  match r with
  | some S => .ok ⟨ac.e, S⟩
  | none => .bad
theorem stO_some (ac : Ac) (S : Sto) : stO ac (some S) = .ok ⟨ac.e, S⟩ := rfl
theorem ex_store {cl : Oracle} {kd : Bool} {k : Nat} {x v : X} {ac : Ac} : ex cl kd none (.store k x v) ac = stO ac (storeP ac.S k (ac.ev x) (ac.ev v)) := by
  unfold stO
  cases h : storeP ac.S k (ac.ev x) (ac.ev v) <;> simp only [ex, h]
end Go.Proofs.Ytebflncfgjnkkaa.M
