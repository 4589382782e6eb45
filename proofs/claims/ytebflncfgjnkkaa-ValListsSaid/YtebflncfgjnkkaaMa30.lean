/- THE ABSTRACT MACHINE, thirtieth part: a function: what is reckoned is what a call of it does. -/
import Derived.Test.YtebflncfgjnkkaaMa29
namespace Go.Proofs.Ytebflncfgjnkkaa.M
set_option linter.unusedSimpArgs false
set_option linter.unusedVariables false
open Go Classical
section
variable {g g' : Gh} {S S' : Sto} {w w' : World} {P : Program}
/-! ### In and out -/
def Ow.up : Ow → Ow
  | .box n t => .box (n + 1) t
  | .arr n k => .arr (n + 1) k
theorem up_inj {x y : Ow} (h : x.up = y.up) : x = y := by cases x <;> cases y <;> simp [Ow.up] at h <;> simp [h]
theorem push_own {x : Ow} {b : Nat} (h : g.push.own x = some b) : ∃ y, x = y.up ∧ g.own y = some b := by
  cases x with
  | box n t =>
    cases n with
    | zero => simp [Gh.own, Gh.push] at h
    | succ n => exact ⟨.box n t, rfl, h⟩
  | arr n k =>
    cases n with
    | zero => simp [Gh.own, Gh.push] at h
    | succ n => exact ⟨.arr n k, rfl, h⟩
theorem pop_own (g : Gh) (x : Ow) : g.pop.own x = g.own x.up := by cases x <;> rfl
theorem own_push (g : Gh) (x : Ow) : g.push.own x.up = g.own x := by cases x <;> rfl
theorem push_wr (hw : WR g S w) : WR g.push (Fr.e :: S) w := by
  refine ⟨hw.fz, ?_, ?_, ?_⟩
  · intro n t b h
    cases n with
    | zero => simp [Gh.push] at h
    | succ n =>
      obtain ⟨vs, cs, elem, h1, h2, h3, h4, h5⟩ := hw.box n t b h
      exact ⟨vs, cs, elem, h1, h2, h3, fun i v hi => (h4 i v hi).up (Gh.pop_push g), h5⟩
  · intro n k ai h
    cases n with
    | zero => simp [Gh.push] at h
    | succ n =>
      obtain ⟨A, h1, h2⟩ := hw.arr n k ai h
      exact ⟨A, h1, h2.ghost rfl⟩
  · intro x y b hx hy
    obtain ⟨x', rfl, hx'⟩ := push_own hx
    obtain ⟨y', rfl, hy'⟩ := push_own hy
    rw [hw.inj x' y' b hx' hy']
mutual
theorem up_dn : ∀ v : PV, v.up.dn = some v
  | .bool _ | .int _ _ | .str _ | .nils _ | .list _ _ _ | .rowp _ _ | .nili | .undef | .junk | .ptr _ _ _ | .elem _ _ _ _ _ _ | .sl _ _ _ _ _ _ _ => by simp [PV.up, PV.dn]
  | .agg vs => by simp [PV.up, PV.dn, upL_dn vs]
  | .tup vs => by simp [PV.up, PV.dn, upL_dn vs]
  | .func f vs => by simp [PV.up, PV.dn, upL_dn vs]
  | .iface t v => by simp [PV.up, PV.dn, up_dn v]
theorem upL_dn : ∀ vs : List PV, PV.dnL (PV.upL vs) = some vs
  | [] => by simp [PV.upL, PV.dnL]
  | v :: vs => by simp [PV.upL, PV.dnL, up_dn v, upL_dn vs]
end
theorem getBox_tail (S : Sto) (n t : Nat) : getBox S (n + 1) t = getBox S.tail n t := by cases S <;> simp [getBox]
theorem getArr_tail (S : Sto) (n : Nat) (k : AK) : getArr S (n + 1) k = getArr S.tail n k := by cases S <;> simp [getArr]
theorem pop_wr (hw : WR g S w) : WR g.pop S.tail w := by
  refine ⟨hw.fz, ?_, ?_, ?_⟩
  · intro n t b h
    obtain ⟨vs, cs, elem, h1, h2, h3, h4, h5⟩ := hw.box (n + 1) t b h
    exact ⟨vs, cs, elem, by rw [← getBox_tail]; exact h1, h2, h3, fun i v hi => (h4 i v hi).dn _ (up_dn _), h5⟩
  · intro n k ai h
    obtain ⟨A, h1, h2⟩ := hw.arr (n + 1) k ai h
    exact ⟨A, by rw [← getArr_tail]; exact h1, h2.ghost rfl⟩
  · intro x y b hx hy
    rw [pop_own] at hx hy
    exact up_inj (hw.inj _ _ b hx hy)
theorem pop_tr (h : Tr g.push w g' w') : Tr g w g'.pop w' := by
  refine ⟨h.os, h.tape, h.output, h.size, h.fz, fun k hk hn => h.keep k hk fun x hx => ?_, fun x k hx => ?_, h.out.pop_⟩
  · obtain ⟨y, _, hy⟩ := push_own hx
    exact hn y hy
  · rw [pop_own] at hx
    rcases h.new _ k hx with h1 | h1
    · rw [own_push] at h1; exact .inl h1
    · exact .inr h1
/-! ### What is handed back -/
theorem loadVar_of {t : TypeId} {c u : Value} (h : (Instr.loadAt t c).run P w = .ok u w) : (do loadVar t (← asAddr c) : Sem Value).run P w = .ok u w := by
  unfold Instr.loadAt at h
  cases c with
  | pointer p =>
    cases p with
    | none => simp [Instr.sureAddr] at h
    | some a => simpa [Instr.sureAddr, asAddr] using h
  | _ => simp [Instr.sureAddr] at h
def resOne (tmps : Array Value) : ResultVar → Sem Value
  | .tmp t => pure (tmps.getD t undef)
  | .cell a t => do loadVar t (← asAddr (tmps.getD a undef))
theorem rdRes_ok {n : Nat} {ac : Ac} {a : Act} (hr : Rel g ac a w) : ∀ (rs : List ResultVar) (xs : List RX) (vs : List PV), cRes P n rs = some xs → rdRes ac xs = some vs →
    ∃ us : List Value, (rs.mapM (resOne a.tmps)).run P w = .ok us w ∧ vs.length = us.length ∧ ∀ (i : Nat) (v : PV), vs[i]? = some v → ∃ u : Value, us[i]? = some u ∧ VR g v u
  | [], xs, vs, hc, hv => by
    simp only [cRes, Option.some.injEq] at hc
    subst hc
    simp only [rdRes, Option.some.injEq] at hv
    subst hv
    exact ⟨[], rfl, rfl, fun i v h => by simp at h⟩
  | .tmp t :: rs, xs, vs, hc, hv => by
    simp only [cRes] at hc
    split at hc
    · rw [Option.map_eq_some_iff] at hc
      obtain ⟨xs', hx, rfl⟩ := hc
      simp only [rdRes, Option.map_eq_some_iff] at hv
      obtain ⟨vs', hv', rfl⟩ := hv
      obtain ⟨us, h1, h2, h3⟩ := rdRes_ok hr rs xs' vs' hx hv'
      refine ⟨a.tmps.getD t undef :: us, by simp [List.mapM_cons, resOne, h1], by simp [h2], fun i v hi => ?_⟩
      cases i with
      | zero => simp at hi; subst hi; exact ⟨_, rfl, hr.env t⟩
      | succ i => simpa using h3 i v (by simpa using hi)
    · cases hc
  | .cell t ty :: rs, xs, vs, hc, hv => by
    simp only [cRes] at hc
    split at hc
    · rename_i k xs' hk hx
      split at hc
      · cases hc
        simp only [rdRes] at hv
        split at hv
        · rename_i v vs' hld hv'
          obtain rfl := Option.some.inj hv
          obtain ⟨us, h1, h2, h3⟩ := rdRes_ok hr rs xs' vs' hx hv'
          obtain ⟨u, hu, hvr⟩ := ld_ok hr.wr (hr.env t) hld hk
          have hu' := loadVar_of hu
          refine ⟨u :: us, ?_, by simp [h2], fun i v' hi => ?_⟩
          · have : (resOne a.tmps (.cell t ty)).run P w = .ok u w := hu'
            simp [List.mapM_cons, this, h1]
          · cases i with
            | zero => simp at hi; subst hi; exact ⟨u, rfl, hvr⟩
            | succ i => simpa using h3 i v' (by simpa using hi)
        · cases hv
      · cases hc
    · cases hc
def oneOr : List Value → Value
  | [v] => v
  | us => .tuple us.toArray
theorem results_eq (fn : Func) (tmps : Array Value) : results fn tmps = (do let vs ← fn.results.mapM (resOne tmps); pure (if h : vs.size = 1 then vs[0] else .tuple vs)) := by
  unfold results
  congr 1
theorem results_run {fn : Func} {tmps : Array Value} {us : List Value} (h : (fn.results.toList.mapM (resOne tmps)).run P w = .ok us w) : (results fn tmps).run P w = .ok (oneOr us) w := by
  rw [results_eq, Array.mapM_eq_mapM_toList]
  simp only [Sem.run_bind, Sem.run_map, h, Result.andThen_ok, Sem.run_pure]
  congr 1
  match us with
  | [] => rfl
  | [v] => rfl
  | u :: v :: us => simp [oneOr]
/-- What a function's end says of the call. -/
theorem post_of {gi g2 : Gh} {S2 : Sto} {r : Ret} {c : Value} (hw : WR g2 S2 w') (ht : Tr g.push w g2 w') (hl : S2.length = S.length + 1) (hr : RetOk g2.pop w' w.heap.size r c) : CallPost g S w (.ok r S2.tail) (.returned c) w' :=
  ⟨g2.pop, pop_wr hw, ht.out, pop_tr ht, hr, by rw [List.length_tail, hl]; rfl⟩
theorem retV_ok {gi : Gh} {Si : Sto} {v : PV} {c : Value} (hw : WR gi Si w') (ht : Tr g.push w gi w') (hl : Si.length = S.length + 1) (hv : VR gi v c) (hb : retV v Si ≠ .bad) : CallPost g S w (retV v Si) (.returned c) w' := by
  unfold retV at hb ⊢
  split
  · rename_i v' S2 hh
    obtain ⟨g2, w2, x2, t2, r2⟩ := hand_ok hw hv hh
    split
    · rename_i u hu
      exact post_of (gi := gi) w2 (ht.trans t2) ((hand_length hh).trans hl) (r2.dn u hu)
    · rename_i hu
      rw [hh] at hb
      simp only [hu] at hb
      exact absurd rfl hb
  · rename_i hh
    rw [hh] at hb
    exact absurd rfl hb
theorem ret1_ok {gi : Gh} {Si : Sto} {v : PV} {c : Value} (hw : WR gi Si w') (ht : Tr g.push w gi w') (hl : Si.length = S.length + 1) (hv : VR gi v c) (hb : ret1 v Si ≠ .bad) : CallPost g S w (ret1 v Si) (.returned c) w' := by
  cases v with
  | nils z =>
    cases hv with | data _ _ h => cases h with | nils _ A =>
    refine post_of (gi := gi) hw ht hl ⟨⟨A, 0, z, 0, 0, none⟩, ⟨rfl, rfl, rfl, (fun r hr => by cases hr), Nat.le_refl _, fun h => absurd rfl h, ⟨fun _ _ => undef, (fun i j row v hi => by simp at hi), (fun ad i j row v _ hi => by simp at hi)⟩, (fun b hb => by cases hb), fun _ => ⟨rfl, .inr rfl⟩⟩, rfl, (fun b hb => by cases hb)⟩
  | sl n a off len ver gen full =>
    cases n with
    | succ n => exact retV_ok hw ht hl hv hb
    | zero =>
      unfold ret1 at hb ⊢
      dsimp only at hb ⊢
      cases hA : getArr Si 0 a with
      | none => rw [hA] at hb; exact absurd rfl hb
      | some A =>
        rw [hA] at hb
        dsimp only at hb ⊢
        by_cases hc : A.gen = gen ∧ A.rows.length = ver ∧ off = 0 ∧ len = ver ∧ full = false
        · rw [if_pos hc]
          obtain ⟨hg, hv', rfl, rfl, rfl⟩ := hc
          cases hv with
          | data _ _ h => cases h
          | sl _ _ _ _ _ _ _ ai _ hai hle h1 hs =>
            obtain ⟨A', hA', hr⟩ := hw.arr 0 a ai hai
            obtain rfl : A = A' := Option.some.inj (hA.symm.trans hA')
            obtain ⟨A0, cap, rfl, sa⟩ := hs (hr.gen.trans hg) (hr.len.trans hv')
            have e1 := sa.zero rfl
            have e2 := sa.open_ rfl (by rw [hr.len]; exact hv'.symm) rfl
            subst e1 e2
            refine post_of (gi := gi) hw ht hl ⟨{ ai with gen := 0 }, ⟨hr.sz, hr.len, rfl, hr.each, hr.cap, hr.addr, hr.cells, hr.own, hr.free⟩, by rw [hr.len, hv'], fun b hbk => ?_⟩
            have hown : gi.own (.arr 0 a) = some b := by
              simp only [Gh.own, hai, Option.bind_some]
              exact hbk
            refine ⟨?_, fun x hx => ?_⟩
            · rcases ht.new _ b hown with h | h
              · simp [Gh.own, Gh.push] at h
              · exact h
            · rw [pop_own] at hx
              have := hw.inj _ _ b hx hown
              cases x <;> simp [Ow.up] at this
        · rw [if_neg hc] at hb ⊢
          exact retV_ok hw ht hl hv hb
  | _ => exact retV_ok hw ht hl hv hb
theorem retL_ok {gi : Gh} {Si : Sto} {vs : List PV} {us : List Value} (hw : WR gi Si w') (ht : Tr g.push w gi w') (hl : Si.length = S.length + 1) (hlen : vs.length = us.length) (hv : ∀ (i : Nat) (v : PV), vs[i]? = some v → ∃ u : Value, us[i]? = some u ∧ VR gi v u) (hb : retL vs Si ≠ .bad) : CallPost g S w (retL vs Si) (.returned (oneOr us)) w' := by
  have many : (∀ v, vs ≠ [v]) → CallPost g S w (retL vs Si) (.returned (oneOr us)) w' := by
    intro hne
    have e : retL vs Si = match handA Si vs with | some (vs, S) => (match PV.dnL vs with | some vs => .ok (.v (.tup vs)) S.tail | none => .bad) | none => .bad := by
      match vs, hne with
      | [], _ => rfl
      | [v], h => exact absurd rfl (h v)
      | u :: v :: vs, _ => rfl
    have e2 : oneOr us = .tuple us.toArray := by
      match us, vs, hlen, hne with
      | [], _, _, _ => rfl
      | [u], [v], _, h => exact absurd rfl (h v)
      | u :: v :: us, _, _, _ => rfl
    rw [e] at hb ⊢
    rw [e2]
    cases hh : handA Si vs with
    | none => rw [hh] at hb; exact absurd rfl hb
    | some p =>
      obtain ⟨vs', S2⟩ := p
      rw [hh] at hb
      dsimp only at hb ⊢
      obtain ⟨g2, w2, x2, t2, l2, r2⟩ := handA_ok vs vs' Si S2 gi (fun i => us.toArray.getD i undef) hw (fun i v hi => by
        obtain ⟨u, hu, hvr⟩ := hv i v hi
        have : us.toArray.getD i undef = u := by
          rw [Array.getD_eq_getD_getElem?]
          simp [hu]
        rw [this]
        exact hvr) hh
      cases hd : PV.dnL vs' with
      | none => rw [hd] at hb; exact absurd rfl hb
      | some ws =>
        dsimp only
        refine post_of (gi := gi) w2 (ht.trans t2) ((handA_length _ _ _ _ hh).trans hl) ?_
        obtain ⟨d1, d2⟩ := dnL_get vs' ws hd
        refine .tup ws us.toArray (by simp; omega) fun i v hi => ?_
        obtain ⟨v0, q1, q2⟩ := d2 i v hi
        exact (r2 i v0 q1).dn v q2
  match vs, us, hlen with
  | [v], [u], _ =>
    obtain ⟨u', h1, h2⟩ := hv 0 v rfl
    simp at h1
    subst h1
    exact ret1_ok hw ht hl h2 hb
  | [], us, _ => exact many (fun v h => by cases h)
  | a :: b :: vs, us, _ => exact many (fun v h => by cases h)
theorem retOf_ok {n : Nat} {fn : Func} {res : List RX} (hc : cRes P n fn.results.toList = some res) {gi : Gh} {ac : Ac} {a : Act} (hr : RelA n gi ac a w') (ht : Tr g.push w gi w') (hl : ac.S.length = S.length + 1) (hb : retOf res ac ≠ .bad) :
    ∃ v, (results fn a.tmps).run P w' = .ok v w' ∧ CallPost g S w (retOf res ac) (.returned v) w' := by
  unfold retOf at hb ⊢
  cases hrd : rdRes ac res with
  | none => rw [hrd] at hb; exact absurd rfl hb
  | some vs =>
    rw [hrd] at hb
    obtain ⟨us, h1, h2, h3⟩ := rdRes_ok hr.rel _ _ vs hc hrd
    exact ⟨_, results_run h1, retL_ok hr.rel.wr ht hl h2 h3 hb⟩
theorem retOf_pan {res : List RX} {ac : Ac} : ∀ v S, retOf res ac ≠ .pan v S := by
  intro v S
  unfold retOf retL ret1 retV
  repeat' split
  all_goals (intro h; cases h)
/-- A function's body. -/
theorem body_ok {cl : Oracle} (hcl : OracleOk P cl) (hm : P.follows .mixedOrders = true) {f : Nat} {fn : Func} {sf : SFunc} (hf : P.funcs[f]? = some fn) (hc : comp P fn = some sf) (N : Nat) {args : List PV} {cs : Array Value} (hla : args.length = sf.nargs)
    (hb : fin sf.res (evC cl N sf.code (ac0 args S)) ≠ .bad) (hw : WR g S w) (ha : ArgsR g args cs) : Answers P f cs w (CallPost g S w (fin sf.res (evC cl N sf.code (ac0 args S)))) := by
  unfold comp at hc
  split at hc
  · rename_i c hbody
    split at hc
    · rename_i c' r' hcc hrr
      split at hc
      · rename_i hcnd
        cases hc
        simp only at hla hb ⊢
        have hsz : cs.size ≤ fn.ntmps := by rw [← ha.1, hla]; exact hcnd.1
        left
        constructor
        · unfold callFunc
          simp [hf, hcnd.2, hbody]
        · refine calls_of_wp hf hbody ?_
          have hr : RelA fn.ntmps g.push (ac0 args S) { tmps := cs ++ Array.replicate (fn.ntmps - cs.size) undef, defers := [] } w := by
            refine ⟨⟨push_wr hw, fun t => ?_⟩, by simp; omega, rfl, Nat.succ_pos _⟩
            show VR g.push (argE (args.map PV.up) t) ((cs ++ Array.replicate (fn.ntmps - cs.size) undef).getD t undef)
            unfold argE
            rw [List.getElem?_map, Array.getD_eq_getD_getElem?]
            cases hat : args[t]? with
            | some v =>
              have hlt := (List.getElem?_eq_some_iff.1 hat).1
              rw [Array.getElem?_append_left (by rw [← ha.1]; exact hlt)]
              simp only [Option.map_some, Option.getD_some]
              rw [← Array.getD_eq_getD_getElem?]
              exact (ha.2 t v hat).up (Gh.pop_push g)
            | none =>
              have hge := List.getElem?_eq_none_iff.1 hat
              rw [Array.getElem?_append_right (by rw [← ha.1]; exact hge)]
              simp only [Option.map_none, Option.getD_none]
              rw [Array.getElem?_replicate]
              split <;> exact .undef
          refine evC_ok hcl hm c c' hcc N hr ?_
          cases he : evC cl N c' (ac0 args S) with
          | nor ac =>
            rw [he] at hb
            intro a' w' g' h1 h2 h3
            obtain ⟨v, q1, q2⟩ := retOf_ok hrr h1 h2 h3 hb
            exact ⟨h1.defers, v, q1, q2⟩
          | ret ac =>
            rw [he] at hb
            intro a' w' g' h1 h2 h3
            obtain ⟨v, q1, q2⟩ := retOf_ok hrr h1 h2 h3 hb
            exact ⟨h1.defers, v, q1, q2⟩
          | ext i ac => rw [he] at hb; exact absurd rfl hb
          | bad => rw [he] at hb; exact absurd rfl hb
          | pan v Sp =>
            rw [he] at hb
            simp only [fin] at hb ⊢
            intro a' w' g' c2 h1 h2 h3 h4 h5
            cases hd : v.dn with
            | none => rw [hd] at hb; exact absurd rfl hb
            | some u =>
              refine ⟨h5, g'.pop, c2, rfl, pop_wr h1, h2.dn u hd, h3.out, pop_tr h3, ?_⟩
              rw [List.length_tail, h4]
              rfl
      · cases hc
    · cases hc
  · cases hc
/-- What is said of a function of Go's library holds. -/
def ExtOk (P : Program) (f : Nat) (x : List PV → Option PV) : Prop := ∀ args v, x args = some v → ∀ g S w cs, WR g S w → ArgsR g args cs → Answers P f cs w (CallPost g S w (.ok (.v v) S))
theorem run_ok (hm : P.follows .mixedOrders = true) {x : Nat → Option (List PV → Option PV)} (hx : ∀ f y, x f = some y → ExtOk P f y) : ∀ k, OracleOk P (run (SPof P x) k)
  | 0 => fun f args S h => absurd rfl h
  | k + 1 => by
    intro f args S hb g w cs hw ha
    simp only [run] at hb ⊢
    cases hsp : SPof P x f with
    | none => rw [hsp] at hb; exact absurd rfl hb
    | some sf =>
      rw [hsp] at hb
      dsimp only at hb ⊢
      unfold SPof at hsp
      cases hxf : x f with
      | some y =>
        rw [hxf] at hsp
        obtain rfl := Option.some.inj hsp
        simp only [body] at hb ⊢
        cases hy : y args with
        | none => rw [hy] at hb; exact absurd rfl hb
        | some v => exact hx f y hxf args v hy g S w cs hw ha
      | none =>
        rw [hxf] at hsp
        simp only [Option.map_eq_some_iff, Option.bind_eq_some_iff] at hsp
        obtain ⟨cf, ⟨fn, hf, hc⟩, rfl⟩ := hsp
        simp only [body] at hb ⊢
        by_cases hl : args.length = cf.nargs
        · rw [if_pos hl] at hb ⊢
          exact body_ok (run_ok hm hx k) hm hf hc k hl hb hw ha
        · rw [if_neg hl] at hb
          exact absurd rfl hb
/-- THE LAW: what is reckoned is what a call does. -/
theorem call_sound (hm : P.follows .mixedOrders = true) {x : Nat → Option (List PV → Option PV)} (hx : ∀ f y, x f = some y → ExtOk P f y) : OracleOk P (call (SPof P x)) := by
  intro f args S hb g w cs hw ha
  obtain ⟨k, hk⟩ := call_run (SPof P x) f args S
  rw [← hk] at hb ⊢
  exact run_ok hm hx k f args S hb g w cs hw ha
end
end Go.Proofs.Ytebflncfgjnkkaa.M
