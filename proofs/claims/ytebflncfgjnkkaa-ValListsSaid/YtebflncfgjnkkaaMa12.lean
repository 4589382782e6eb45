/- THE ABSTRACT MACHINE, twelfth part: whatever operation only yields a value: it yields the one that is reckoned. -/
import Derived.Test.YtebflncfgjnkkaaMa11
import Derived.Laws.Cover3
namespace Go.Proofs.Ytebflncfgjnkkaa.M
set_option linter.unusedSimpArgs false
set_option linter.unusedVariables false
open Go
section
variable {g : Gh} {S : Sto} {w : World} {P : Program}
theorem exec_v {s : Sem Value} {c : Value} (h : s.run P w = .ok c w) : (do pure (Next.value (← s)) : Sem Next).run P w = .ok (.value c) w := by simp [h]
theorem Rel.evs {ac : Ac} {a : Act} (hr : Rel g ac a w) : ∀ (xs : List Operand) (ts : List TypeId) (xs' : List X), cXs P xs ts = some xs' → xs'.length = xs.length ∧ ∀ (i : Nat) (x' : X), xs'[i]? = some x' → ∃ x, xs[i]? = some x ∧ VR g (ac.ev x') (a.eval x)
  | [], ts, xs', h => by
    simp only [cXs, Option.some.injEq] at h
    subst h
    exact ⟨rfl, fun i x' h => by simp at h⟩
  | x :: xs, ts, xs', h => by
    simp only [cXs] at h
    split at h
    · rename_i y ys hy hys
      obtain rfl := Option.some.inj h
      obtain ⟨h1, h2⟩ := hr.evs xs ts.tail ys hys
      refine ⟨by simp [h1], fun i x' hi => ?_⟩
      cases i with
      | zero => simp at hi; subst hi; exact ⟨x, rfl, hr.ev hy⟩
      | succ i => simp at hi; simpa using h2 i x' hi
    · cases h
theorem Rel.opt {ac : Ac} {a : Act} (hr : Rel g ac a w) {x : Option Operand} {x' : Option X} (h : cOpt P x = some x') : OptR g (x'.map ac.ev) (x.map a.eval) := by
  cases x with
  | none => simp only [cOpt, Option.some.injEq] at h; subst h; trivial
  | some x =>
    simp only [cOpt, Option.map_eq_some_iff] at h
    obtain ⟨y, hy, rfl⟩ := h
    exact hr.ev hy
theorem isNil_const {y : Operand} (h : isNilSlice y = true) : y = .const (.slice none 0 0) := by
  cases y with
  | const v =>
    cases v <;> try cases h
    rename_i A n c
    cases A with
    | some _ => cases h
    | none =>
      cases n with
      | succ _ => cases h
      | zero => cases c with
        | succ _ => cases h
        | zero => rfl
  | _ => cases h
theorem nil_run {t e : TypeId} (ht : P.underlying t = some (.slice e)) (op : BinOp) (neg : Bool) (ho : op = .eql ∧ neg = false ∨ op = .neq ∧ neg = true) (x y : Operand) (A : Option Addr) (n c : Nat) (w : World) :
    (do eqGuard op t x y (.slice A n c) (.slice none 0 0); binOp op t (.slice A n c) (.slice none 0 0) : Sem Value).run P w = .ok (.bool (if neg then !A.isNone else A.isNone)) w := by
  have hg : eqGuard op t x y (.slice A n c) (.slice none 0 0) = pure () := by cases op <;> rfl
  rw [hg]
  rcases ho with ⟨rfl, rfl⟩ | ⟨rfl, rfl⟩
  · simp [binOp, run_equal_slice_nil w t e A n c ht]
  · simp [run_neq_slice_nil w t e A n c ht]
theorem isnil_ok {t e u : TypeId} {op : BinOp} {neg : Bool} (ht : P.underlying t = some (.slice e)) {x y : Operand} (hn : isNilSlice y = true) {ac : Ac} {a : Act} {x' : X} (hx : VR g (ac.ev x') (a.eval x)) {v : PV} (hv : vop ac.ev ac.S (.isnil neg x') = some v) (ho : op = .eql ∧ neg = false ∨ op = .neq ∧ neg = true)
    {dst : Option Tmp} {ty : TypeId} {pos : String} {after : Array Edge} {guard : Option (Nat × Bool)} : ∃ c, (execOp a.eval ⟨dst, .binOp op t x y u, ty, pos, after, guard⟩).run P w = .ok (.value c) w ∧ VR g v c := by
  have hy := isNil_const hn
  subst hy
  simp only [vop] at hv
  split at hv
  · rename_i z r rs f hxe
    obtain rfl := Option.some.inj hv
    rw [hxe] at hx
    cases hx with | data _ _ h =>
    generalize hcc : a.eval x = cc at h
    cases h with | list _ _ _ A cap cs hl hf hs hA hc hv =>
    obtain ⟨ad, rfl, _⟩ := hA (by simp)
    refine ⟨.bool neg, ?_, .data _ _ (.bool _)⟩
    have := nil_run ht op neg ho x (.const (.slice none 0 0)) (some ad) (r :: rs).length cap w
    have e1 : (if neg then !(some ad : Option Addr).isNone else (some ad : Option Addr).isNone) = neg := by cases neg <;> rfl
    rw [e1] at this
    unfold execOp
    show (do pure (Next.value (← (do eqGuard op t x (.const (.slice none 0 0)) (a.eval x) (a.eval (.const (.slice none 0 0))); binOp op t (a.eval x) (a.eval (.const (.slice none 0 0))) : Sem Value))) : Sem Next).run P w = _
    rw [hcc]
    exact exec_v this
  · cases hv
theorem vop_ok {o : Oper} {vo : VO} (hc : cOp P o = some (.v vo)) {ac : Ac} {a : Act} (hr : Rel g ac a w) {v : PV} (hv : vop ac.ev ac.S vo = some v) : ∃ c, (execOp a.eval o).run P w = .ok (.value c) w ∧ VR g v c := by
  obtain ⟨dst, op, ty, pos, after, guard⟩ := o
  cases op <;> simp only [cOp, reduceCtorEq] at hc
  case move x =>
    rw [Option.map_eq_some_iff] at hc
    obtain ⟨x', hx, he⟩ := hc
    cases he
    simp only [vop, Option.some.injEq] at hv
    subst hv
    exact ⟨_, by simp [execOp], hr.ev hx⟩
  case assign x =>
    split at hc
    · rw [Option.map_eq_some_iff] at hc
      obtain ⟨_, _, he⟩ := hc
      cases he
    · rw [Option.map_eq_some_iff] at hc
      obtain ⟨x', hx, he⟩ := hc
      cases he
      simp only [vop, Option.some.injEq] at hv
      subst hv
      exact ⟨_, by simp [execOp], hr.ev hx⟩
  case pick c x y =>
    split at hc
    · rename_i c' x' y' h1 h2 h3
      cases hc
      simp only [vop] at hv
      split at hv
      · rename_i t ht
        obtain rfl := Option.some.inj hv
        have hb : a.eval c = .bool t := by have := hr.ev h1; rw [ht] at this; exact this.bool_inv
        cases t
        · exact ⟨_, by simp [execOp, hb, asBool], hr.ev h3⟩
        · exact ⟨_, by simp [execOp, hb, asBool], hr.ev h2⟩
      · cases hv
    · cases hc
  case alloc t =>
    rw [Option.map_eq_some_iff] at hc
    obtain ⟨_, _, he⟩ := hc
    cases he
  case box t x =>
    rw [Option.map_eq_some_iff] at hc
    obtain ⟨_, _, he⟩ := hc
    cases he
  case build t parts =>
    split at hc
    · rename_i fs z ht hz
      split at hc
      · rename_i hall
        rw [Option.map_eq_some_iff] at hc
        obtain ⟨ps, hps, he⟩ := hc
        cases he
        simp only [vop, Option.map_eq_some_iff] at hv
        obtain ⟨us, hus, rfl⟩ := hv
        obtain ⟨c, h1, h2⟩ := build_ok ht hall hz hps hr hus
        exact ⟨c, exec_v h1, h2⟩
      · cases hc
    · cases hc
  case buildSlice t n parts =>
    repeat' split at hc
    all_goals cases hc
  case load t x =>
    split at hc
    · rename_i k x' hk hx
      cases hc
      obtain ⟨c, h1, h2⟩ := ld_ok hr.wr (hr.ev hx) hv hk
      exact ⟨c, exec_v h1, h2⟩
    · cases hc
  case store t x y =>
    split at hc <;> cases hc
  case nilCheck x =>
    rw [Option.map_eq_some_iff] at hc
    obtain ⟨x', hx, he⟩ := hc
    cases he
    simp only [vop] at hv
    have h := hr.ev hx
    split at hv
    · rename_i n t o he
      obtain rfl := Option.some.inj hv
      rw [he] at h
      obtain ⟨b, hb, h1⟩ := h.ptr_inv
      exact ⟨.pointer (some ⟨b, o, none⟩), by simp [execOp, h1], .ptr n t o b hb⟩
    · rename_i r o he
      obtain rfl := Option.some.inj hv
      rw [he] at h
      generalize hc : a.eval x = c at h
      cases h with
      | data _ _ h => cases h
      | rowp _ _ b p cs h1 h2 => exact ⟨.pointer (some ⟨b, p + o, none⟩), by simp [execOp, hc], .rowp r o b p cs h1 h2⟩
    · cases hv
  case binOp op t x y u =>
    split at hc
    · rename_i x' y' hx hy
      have hx' := hr.ev hx
      have hy' := hr.ev hy
      split at hc
      · rename_i fs ht
        rw [Option.map_eq_some_iff] at hc
        obtain ⟨ks, hks, he⟩ := hc
        cases he
        simp only [vop] at hv
        split at hv
        · rename_i ps qs h1 h2
          rw [h1] at hx'
          rw [h2] at hy'
          rw [Option.map_eq_some_iff] at hv
          obtain ⟨r, hr', rfl⟩ := hv
          exact ⟨_, exec_v (eqs_ok (neg := false) ht hks hx' hy' hr'), .data _ _ (.bool _)⟩
        · cases hv
      · rename_i fs ht
        rw [Option.map_eq_some_iff] at hc
        obtain ⟨ks, hks, he⟩ := hc
        cases he
        simp only [vop] at hv
        split at hv
        · rename_i ps qs h1 h2
          rw [h1] at hx'
          rw [h2] at hy'
          rw [Option.map_eq_some_iff] at hv
          obtain ⟨r, hr', rfl⟩ := hv
          exact ⟨_, exec_v (eqs_ok (neg := true) ht hks hx' hy' hr'), .data _ _ (.bool _)⟩
        · cases hv
      · rename_i ht
        cases hc
        obtain ⟨c, h1, h2⟩ := binb_ok (neg := false) (x := x) (y := y) ht hx' hy' hv
        exact ⟨c, exec_v h1, h2⟩
      · rename_i ht
        cases hc
        obtain ⟨c, h1, h2⟩ := binb_ok (neg := true) (x := x) (y := y) ht hx' hy' hv
        exact ⟨c, exec_v h1, h2⟩
      · rename_i e ht
        split at hc
        · rename_i hn
          cases hc
          exact isnil_ok (neg := false) (op := .eql) (u := u) ht hn hx' hv (.inl ⟨rfl, rfl⟩)
        · cases hc
      · rename_i e ht
        split at hc
        · rename_i hn
          cases hc
          exact isnil_ok (neg := true) (op := .neq) (u := u) ht hn hx' hv (.inr ⟨rfl, rfl⟩)
        · cases hc
      · cases hc
        obtain ⟨c, h1, h2⟩ := bin_ok (t := t) (P := P) (w := w) (x := x) (y := y) hx' hy' hv
        exact ⟨c, exec_v h1, h2⟩
      · cases hc
    · cases hc
  case unOp op t x =>
    rw [Option.map_eq_some_iff] at hc
    obtain ⟨x', hx, he⟩ := hc
    cases he
    obtain ⟨c, h1, h2⟩ := un_ok (P := P) (w := w) (hr.ev hx) hv
    exact ⟨c, exec_v h1, h2⟩
  case convert s t x =>
    split at hc
    · rename_i k' k x' hs ht hx
      cases hc
      obtain ⟨c, h1, h2⟩ := conv_int (w := w) hs ht (hr.ev hx) hv
      exact ⟨c, exec_v h1, h2⟩
    · rename_i k' x' hs ht hx
      cases hc
      obtain ⟨c, h1, h2⟩ := conv_chr (w := w) hs ht (hr.ev hx) hv
      exact ⟨c, exec_v h1, h2⟩
    · rename_i x' hs ht hx
      cases hc
      obtain ⟨c, h1, h2⟩ := conv_id (w := w) hs ht (hr.ev hx) hv
      exact ⟨c, exec_v h1, h2⟩
    · rename_i e x' hs ht hx
      split at hc
      · rename_i he
        cases hc
        obtain ⟨c, h1, h2⟩ := conv_bytes hr.wr hs he ht (hr.ev hx) hv
        exact ⟨c, exec_v h1, h2⟩
      · cases hc
    · cases hc
  case makeInterface t x =>
    split at hc
    · cases hc
    · cases hc
    · rename_i d hd ht
      rw [Option.map_eq_some_iff] at hc
      obtain ⟨x', hx, he⟩ := hc
      cases he
      simp only [vop] at hv
      split at hv
      · obtain rfl := Option.some.inj hv
        refine ⟨.iface t (a.eval x), exec_v ?_, .iface _ _ _ (hr.ev hx)⟩
        cases d <;> first | (simp [Instr.makeInterface, run_underlying ht]; done) | (exact absurd rfl (hd _))
      · cases hv
  case makeFunc fn first caps =>
    split at hc
    · rename_i f hf1
      rw [Option.map_eq_some_iff] at hc
      obtain ⟨cs, hcs, he⟩ := hc
      cases he
      simp only [vop] at hv
      split at hv
      · obtain rfl := Option.some.inj hv
        obtain ⟨h1, h2⟩ := hr.evs caps.toList [] cs hcs
        obtain rfl : first = #[] := by simpa using hf1
        refine ⟨.func (.func f) #[] (caps.map a.eval), exec_v (by simp [Instr.makeFunc]), .func f _ _ (by simp [h1]) fun i v hi => ?_⟩
        rw [List.getElem?_map, Option.map_eq_some_iff] at hi
        obtain ⟨x', hx', rfl⟩ := hi
        obtain ⟨x, hx, hv⟩ := h2 i x' hx'
        have : (caps.map a.eval).getD i Go.undef = a.eval x := by
          have hx' : caps[i]? = some x := by simpa using hx
          rw [Array.getD_eq_getD_getElem?, Array.getElem?_map, hx']
          rfl
        rw [this]
        exact hv
      · cases hv
    · cases hc
  case slice t x lo hi mx =>
    split at hc
    · rename_i x' lo' hi' ht hx hlo hhi hmx
      cases hc
      simp only [vop] at hv
      have hm : mx = none := by
        cases mx with
        | none => rfl
        | some m =>
          simp only [cOpt, Option.map_eq_some_iff] at hmx
          obtain ⟨_, _, h⟩ := hmx
          cases h
      subst hm
      obtain ⟨c, h1, h2⟩ := sls_ok (P := P) (w := w) ht (hr.ev hx) (hr.opt hlo) (hr.opt hhi) hv
      exact ⟨c, exec_v h1, h2⟩
    · rename_i e x' lo' hi' mx' ht hx hlo hhi hmx
      split at hc
      · rename_i he
        cases hc
        obtain ⟨i, hi⟩ := Option.isSome_iff_exists.1 he
        obtain ⟨c, h1, h2⟩ := slc_ok hr.wr ht (hr.ev hx) (hr.opt hlo) (hr.opt hhi) (hr.opt hmx) ⟨i, hi⟩ hv
        exact ⟨c, exec_v h1, h2⟩
      · cases hc
    · cases hc
  case fieldAddr t x f =>
    split at hc
    · rename_i fs ht
      split at hc
      · rename_i f' x' hf hx
        split at hc
        · cases hc
        · rename_i h0
          split at hc
          · rename_i hi
            cases hc
            obtain ⟨it, hit⟩ := Option.isSome_iff_exists.1 hi
            have hsz : it.size ≠ 0 := by rw [← cellsOf_info hit]; exact h0
            have run : ∀ b o, (Instr.fieldAt t (.pointer (some ⟨b, o, none⟩)) f).run P w = .ok (.pointer (some ⟨b, o + f'.offset, none⟩)) w := by
              intro b o
              simp [Instr.fieldAt, run_underlying ht, hf, Instr.sureAddr, fieldPlace, sizeOf, typeInfo, hit, hsz, Addr.add_mid]
            have h := hr.ev hx
            generalize he : a.eval x = c at h
            simp only [vop] at hv
            split at hv
            · rename_i n t' o hp
              obtain rfl := Option.some.inj hv
              rw [hp] at h
              obtain ⟨b, hb, rfl⟩ := h.ptr_inv
              exact ⟨_, exec_v (by rw [he]; exact run b o), .ptr n t' _ b hb⟩
            · rename_i r o hp
              obtain rfl := Option.some.inj hv
              rw [hp] at h
              cases h with
              | data _ _ h => cases h
              | rowp _ _ b p cs h1 h2 => exact ⟨_, exec_v (by rw [he]; exact run b (p + o)), by rw [Nat.add_assoc]; exact .rowp r _ b p cs h1 h2⟩
            · rename_i n k i o ver gen hp
              rw [hp] at h
              split at hv
              · rename_i R hR
                split at hv
                · rename_i hcur
                  obtain rfl := Option.some.inj hv
                  cases h with
                  | data _ _ h => cases h
                  | elem _ _ _ _ _ _ ai _ hai hle h1c hs =>
                    obtain ⟨R', hR', hrr⟩ := hr.wr.arr n k ai hai
                    obtain rfl : R = R' := Option.some.inj (hR.symm.trans hR')
                    obtain ⟨ad, q1, q2, rfl⟩ := hs (hrr.gen.trans hcur.1) (hrr.len.trans hcur.2)
                    refine ⟨_, exec_v (by rw [he]; exact run _ _), .elem _ _ _ _ _ _ ai _ hai hle rfl fun _ _ => ⟨ad, q1, q2, ?_⟩⟩
                    simp only [Nat.add_assoc]
                · cases hv
              · cases hv
            · cases hv
          · cases hc
      · cases hc
    · cases hc
  case field t x f =>
    split at hc
    · rename_i fs ht
      split at hc
      · rename_i f' hf
        split at hc
        · rename_i k x' hk hx
          cases hc
          simp only [vop] at hv
          have h := hr.ev hx
          generalize he : a.eval x = c at h
          split at hv
          · rename_i vs hp
            rw [hp] at h
            obtain ⟨cs, rfl, h1, h2⟩ := h.agg_inv
            obtain ⟨c, h3, h4⟩ := part_ok (P := P) (w := w) ⟨h1, h2⟩ hk hv
            refine ⟨c, exec_v ?_, h4⟩
            rw [he]
            simp only [Instr.field, Sem.run_bind, run_underlying ht, Result.andThen_ok, hf]
            simpa [asAgg] using h3
          · cases hv
        · cases hc
      · cases hc
    · cases hc
  case indexAddr t x i =>
    split at hc
    · rename_i e ht
      split at hc
      · rename_i x' i' hx hi
        split at hc
        · rename_i he
          cases hc
          obtain ⟨it, hit⟩ := Option.isSome_iff_exists.1 he
          obtain ⟨c, h1, h2⟩ := iaddr_ok hr.wr ht ⟨it, hit⟩ (hr.ev hx) (hr.ev hi) hv
          exact ⟨c, exec_v h1, h2⟩
        · cases hc
      · cases hc
    · cases hc
  case index t x i =>
    split at hc
    · rename_i ht
      split at hc
      · rename_i x' i' hx hi
        cases hc
        simp only [vop] at hv
        split at hv
        · rename_i s k n hp hq
          split at hv
          · rename_i h0
            rw [Option.map_eq_some_iff] at hv
            obtain ⟨c, hc, rfl⟩ := hv
            obtain ⟨u, h1, h2⟩ := istr_ok (P := P) (w := w) ht (hr.ev hx) (hr.ev hi) hp hq h0 hc rfl
            exact ⟨u, exec_v h1, h2⟩
          · cases hv
        · cases hv
      · cases hc
    · cases hc
  case extract x i =>
    rw [Option.map_eq_some_iff] at hc
    obtain ⟨x', hx, he⟩ := hc
    cases he
    simp only [vop] at hv
    have h := hr.ev hx
    generalize he : a.eval x = c at h
    split at hv
    · rename_i vs hp
      rw [hp] at h
      obtain ⟨cs, rfl, h1, h2⟩ := h.tup_inv
      have hlt : i < cs.size := by rw [← h1]; exact (List.getElem?_eq_some_iff.1 hv).1
      refine ⟨cs.getD i Go.undef, exec_v ?_, h2 i v hv⟩
      rw [he]
      simp [Instr.extract, hlt]
    · cases hv
  case call c =>
    unfold cCall at hc
    split at hc
    · split at hc <;> cases hc
    · rename_i hcal
      split at hc
      · rename_i x t hxs hts
        have e1 : c.args = #[x] := by apply Array.ext'; simpa using hxs
        have e2 : c.argTypes = #[t] := by apply Array.ext'; simpa using hts
        have run : ∀ u, (Builtin.len_ #[t] ty #[a.eval x]).run P w = .ok u w → (execOp a.eval ⟨dst, .call c, ty, pos, after, guard⟩).run P w = .ok (.value u) w := by
          intro u hu
          simp [execOp, resolve, hcal, e1, e2, invoke, builtin, hu]
        split at hc
        · rename_i x' ht hx
          cases hc
          simp only [vop, if_true] at hv
          obtain ⟨u, h1, h2⟩ := lenS_ok (w := w) (ty := ty) ht (hr.ev hx) hv
          exact ⟨u, run u h1, h2⟩
        · rename_i e x' ht hx
          cases hc
          simp only [vop, Bool.false_eq_true, if_false] at hv
          obtain ⟨u, h1, h2⟩ := len_ok (ty := ty) hr.wr ht (hr.ev hx) hv
          exact ⟨u, run u h1, h2⟩
        · cases hc
      · cases hc
    · repeat' split at hc
      all_goals cases hc
    · rename_i hcal
      split at hc
      · rename_i x y hxs
        split at hc
        · rename_i x' y' hx hy
          cases hc
          simp only [vop] at hv
          split at hv
          · rename_i k m k' n hp hq
            obtain rfl := Option.some.inj hv
            have h1 := hr.ev hx
            have h2 := hr.ev hy
            rw [hp] at h1
            rw [hq] at h2
            have e1 : c.args = #[x, y] := by apply Array.ext'; simpa using hxs
            refine ⟨_, ?_, .data _ _ (.int _ _)⟩
            simp [execOp, resolve, hcal, e1, invoke, builtin, h1.int_inv, h2.int_inv, run_min_int2]
          · cases hv
        · cases hc
      · cases hc
    · rename_i hcal
      split at hc
      · rename_i x y hxs
        split at hc
        · rename_i x' y' hx hy
          cases hc
          simp only [vop] at hv
          split at hv
          · rename_i k m k' n hp hq
            obtain rfl := Option.some.inj hv
            have h1 := hr.ev hx
            have h2 := hr.ev hy
            rw [hp] at h1
            rw [hq] at h2
            have e1 : c.args = #[x, y] := by apply Array.ext'; simpa using hxs
            refine ⟨_, ?_, .data _ _ (.int _ _)⟩
            simp [execOp, resolve, hcal, e1, invoke, builtin, h1.int_inv, h2.int_inv, run_max_int2]
          · cases hv
        · cases hc
      · cases hc
    · cases hc
  case panic x =>
    rw [Option.map_eq_some_iff] at hc
    obtain ⟨_, _, he⟩ := hc
    cases he
end
end Go.Proofs.Ytebflncfgjnkkaa.M
