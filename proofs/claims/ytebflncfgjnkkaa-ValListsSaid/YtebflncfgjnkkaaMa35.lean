/- THE ABSTRACT MACHINE, thirty-fifth part: slices.Clone: what it yields is its row. -/
import Derived.Test.YtebflncfgjnkkaaMa34
namespace Go.Proofs.Ytebflncfgjnkkaa.M
set_option linter.unusedSimpArgs false
set_option linter.unusedVariables false
open Go Classical
section
variable {g g' : Gh} {S S' : Sto} {w w' : World} {P : Program}
def cloneC (z bytes : Nat) (zero : List PV) : SC :=
  .seq (.reg [⟨some 2, none, .nilv z⟩]) (.seq (.seq (.reg [⟨some 3, none, .v (.mov (.t 0))⟩, ⟨some 4, none, .v (.isnil false (.t 3))⟩]) (.cond (.t 4) (.seq (.reg [⟨some 2, none, .nilv z⟩]) .ret) .skip))
    (.seq (.reg [⟨some 5, none, .bslice z 0 zero []⟩, ⟨some 6, none, .v (.mov (.t 0))⟩, ⟨some 7, none, .append z bytes (.t 5) (.t 6)⟩, ⟨some 2, none, .v (.mov (.t 7))⟩]) .ret))
noncomputable def cloneX (z bytes : Nat) : List PV → Option PV
  | [.list z' rows _] => if z' = z ∧ rows.length * bytes ≤ 1099511627776 ∧ rows.length ≤ 1099511627776 then some (.list z rows false) else none
  | _ => none
def cloneA1 (z : Nat) (rows : List (List PV)) (full : Bool) (S : Sto) : Ac := ⟨upd (killE 2 (argE [.list z rows full])) 2 (.sl 0 (.slot 2) 0 0 0 0 false), setArr (killS 2 (Fr.e :: S)) 0 (.slot 2) ⟨z, [], false, 0⟩⟩
def cloneA2 (z : Nat) (rows : List (List PV)) (full : Bool) (S : Sto) : Ac := (cloneA1 z rows full S).put (some 3) (.list z rows full)
def cloneEnd (z bytes : Nat) (zero : List PV) : SC := .seq (.cond (.t 4) (.seq (.reg [⟨some 2, none, .nilv z⟩]) .ret) .skip) (.seq (.reg [⟨some 5, none, .bslice z 0 zero []⟩, ⟨some 6, none, .v (.mov (.t 0))⟩, ⟨some 7, none, .append z bytes (.t 5) (.t 6)⟩, ⟨some 2, none, .v (.mov (.t 7))⟩]) .ret)
theorem clone_fin {cl : Oracle} {z bytes : Nat} {zero : List PV} {rows : List (List PV)} {full : Bool} (hb1 : rows.length * bytes ≤ 1099511627776) (hb2 : rows.length ≤ 1099511627776) (hby : bytes ≤ 65536) : ∀ b : Bool, (b = true → rows = []) → ∃ acf, evC cl 0 (cloneEnd z bytes zero) ((cloneA2 z rows full S).put (some 4) (.bool b)) = .ret acf ∧ retOf [.t 2] acf = .ok (.arr z rows false) S := by
  intro b hb
  cases b with
  | true =>
    obtain rfl := hb rfl
    refine ⟨_, by simp only [cloneEnd, evC, evOps, stp, ex, newArr]; rfl, ?_⟩
    simp only [retOf, rdRes, retL, ret1]
    rfl
  | false =>
    have hbig : bigRow rows.length bytes := ⟨hb1, hb2, hby⟩
    have happ : appendP true 7 z bytes (.nils z) (.list z rows full) (((((cloneA2 z rows full S).put (some 4) (.bool false)).put (some 5) (.nils z)).put (some 6) (.list z rows full))) = newArr true 7 ⟨z, rows, false, 0⟩ ((((cloneA2 z rows full S).put (some 4) (.bool false)).put (some 5) (.nils z)).put (some 6) (.list z rows full)) := by
      simp [appendP, srcRows, view, hbig]
    have hops : evOps cl [⟨some 5, none, .bslice z 0 zero []⟩, ⟨some 6, none, .v (.mov (.t 0))⟩, ⟨some 7, none, .append z bytes (.t 5) (.t 6)⟩, ⟨some 2, none, .v (.mov (.t 7))⟩] ((cloneA2 z rows full S).put (some 4) (.bool false)) = thOps cl (appendP true 7 z bytes (.nils z) (.list z rows full) (((((cloneA2 z rows full S).put (some 4) (.bool false)).put (some 5) (.nils z)).put (some 6) (.list z rows full)))) [⟨some 2, none, .v (.mov (.t 7))⟩] := rfl
    rw [happ] at hops
    refine ⟨_, by simp only [cloneEnd, evC]; rw [show Ac.ev ((cloneA2 z rows full S).put (some 4) (.bool false)) (.t 4) = .bool false from rfl]; simp only [hops, Bool.false_eq_true, if_false, newArr, if_true]; rfl, ?_⟩
    have harr : ∀ e : Nat → PV, e 2 = .sl 0 (.slot 7) 0 rows.length rows.length 0 false → ∀ St : Sto, getArr St 0 (.slot 7) = some ⟨z, rows, false, 0⟩ → St.tail = S → retOf [.t 2] ⟨e, St⟩ = .ok (.arr z rows false) S := by
      intro e h1 St h2 h3
      simp [retOf, rdRes, retL, ret1, h1, h2, h3]
    exact harr _ rfl _ rfl rfl
theorem two_of {α : Type} {l : List α} (h : l.length = 2) : ∃ a b, l = [a, b] := by
  match l, h with
  | [a, b], _ => exact ⟨a, b, rfl⟩
theorem clone_ext (hm : P.follows .mixedOrders = true) {f : Nat} {fn : Func} {nt z bytes : Nat} {zero : List PV} (hf : P.funcs[f]? = some fn) (hc : comp P fn = some ⟨1, nt, cloneC z bytes zero, [.t 2]⟩) (hby : bytes ≤ 65536) : ExtOk P f (cloneX z bytes) := by
  intro args v hx g S w cs hw ha
  have henter := enter_of hf hc cs w
  obtain ⟨c, hbody, hcode, hres, hna, hnt⟩ := comp_inv hc
  unfold cloneX at hx
  split at hx
  · rename_i z' rows full
    split at hx
    · rename_i hcnd
      obtain ⟨rfl, hb1, hb2⟩ := hcnd
      obtain rfl := Option.some.inj hx
      left
      refine ⟨henter, ?_⟩
      obtain ⟨r1, c2, rfl, hr1, hc2⟩ := inv_seq hcode
      obtain ⟨c3, rest, rfl, hc3, hrest⟩ := inv_seq hc2
      obtain ⟨r2, cnd_, rfl, hr2, hcd⟩ := inv_seq hc3
      obtain ⟨i2, ops, rfl, hops⟩ := inv_reg hr2
      obtain ⟨hol, hog⟩ := cOpers_get ops.toList _ hops
      have hlen : ops.toList.length = 2 := by rw [← hol]; rfl
      obtain ⟨o1, o2, hopl⟩ := two_of hlen
      · skip
        have ho1 : cOper P fn.ntmps ops o1 = some ⟨some 3, none, .v (.mov (.t 0))⟩ := by
          obtain ⟨so, h1, h2⟩ := hog 0 o1 (by rw [hopl]; rfl)
          simp at h1
          rw [h1]; exact h2
        have ho2 : cOper P fn.ntmps ops o2 = some ⟨some 4, none, .v (.isnil false (.t 3))⟩ := by
          obtain ⟨so, h1, h2⟩ := hog 1 o2 (by rw [hopl]; rfl)
          simp at h1
          rw [h1]; exact h2
        let cl : Oracle := fun _ _ _ => .bad
        have hcl : OracleOk P cl := fun f args S h => absurd rfl h
        have e1 : evC cl 0 (.reg [⟨some 2, none, .nilv z'⟩]) (ac0 [.list z' rows full] S) = .nor (cloneA1 z' rows full S) := by
          simp only [evC]
          rfl
        have e2 : stp cl true ⟨some 3, none, .v (.mov (.t 0))⟩ (cloneA1 z' rows full S) = .ok (cloneA2 z' rows full S) := rfl
        have hfin := clone_fin (cl := cl) (z := z') (zero := zero) (full := full) (S := S) hb1 hb2 hby
        have hsz : cs.size ≤ fn.ntmps := by
          rw [← ha.1]
          have : (1 : Nat) = fn.params.size + fn.nfree := hna
          show 1 ≤ fn.ntmps
          omega
        have hr0 := start_relA hw ha hsz
        refine calls_of_wp hf hbody (wp_seq (evC_ok hcl hm r1 _ hr1 0 hr0 ?_))
        rw [e1]
        intro a1 w1 g1 h1 t1 l1
        show (Code.seq (Code.seq (Code.region i2 ops false) cnd_) rest).wp P _ a1 w1
        refine wp_seq (wp_seq (wp_region_list ?_))
        rw [hopl]
        refine wpList_step fun K hK => ?_
        have s1 := stp_ok hcl ho1 (kd := true) h1 (fun h => by cases h)
        rw [e2] at s1
        obtain ⟨_, hd1, hdn1, _⟩ := cOper_inv ho1
        show doOp P ops o1 a1 w1 K _
        refine s1 K _ (fun c0 w2 g2 hst => hK _ _ ?_)
        · skip
          have h2 := hst.relA h1 hdn1
          obtain ⟨hop2, hdst2, hdn2, hgd⟩ := cOper_inv ho2
          have hg0 : o2.guard = none := by
            rcases hgd with ⟨h, _⟩ | ⟨_, _, _, _, _, h⟩
            · exact h
            · cases h
          refine wpList_plain hg0 fun K2 hK2 => ?_
          obtain ⟨t, e, x, y, u, ho, ht, hn, hx⟩ := inv_isnil hop2
          have hy := isNil_const hn
          subst hy
          have hev := h2.rel.ev hx
          have hv3 : (cloneA2 z' rows full S).ev (.t 3) = .list z' rows full := rfl
          rw [hv3] at hev
          cases hev with | data _ _ hfr =>
          generalize hcc : (a1.put o1.dst c0).eval x = cc at hfr
          cases hfr with | list _ _ _ A cap cs' hl hfl hss hA hcs hvs =>
          have hrun : (execOp (a1.put o1.dst c0).eval o2).run P w2 = .ok (.value (.bool A.isNone)) w2 := by
            have := nil_run ht .eql false (.inl ⟨rfl, rfl⟩) x (.const (.slice none 0 0)) A rows.length cap w2
            unfold execOp
            rw [ho]
            show (do pure (Next.value (← (do eqGuard .eql t x (.const (.slice none 0 0)) ((a1.put o1.dst c0).eval x) ((a1.put o1.dst c0).eval (.const (.slice none 0 0))); binOp .eql t ((a1.put o1.dst c0).eval x) ((a1.put o1.dst c0).eval (.const (.slice none 0 0))) : Sem Value))) : Sem Next).run P w2 = _
            rw [hcc]
            exact exec_w this
          unfold Oper.wp
          rw [hrun]
          apply hK2
          obtain ⟨acf, f1, f2⟩ := hfin A.isNone (fun hnn => by
            apply Classical.byContradiction
            intro hne
            obtain ⟨ad, rfl, _⟩ := hA hne
            cases hnn)
          have h3 := (put_step (d := o2.dst) (kd := true) (ac := cloneA2 z' rows full S) (S' := (cloneA2 z' rows full S).S) (w' := w2) (w := w2) (g := g2) (g' := g2) (v := .bool A.isNone) (c := .bool A.isNone) h2.rel.wr (Ext.refl g2) (Tr.refl g2 w2) (.data _ _ (.bool _)) rfl).relA h2 hdn2
          rw [← hdst2] at h3
          show cnd_.wp P _ _ w2
          rw [← hdst2]
          refine evC_ok hcl hm cnd_ _ hcd 0 h3 (seq_post hcl hm hrest rfl ?_)
          have f1' : evC cl 0 (cloneEnd z' bytes zero) (({ cloneA2 z' rows full S with S := (cloneA2 z' rows full S).S } : Ac).put (some 4) (.bool A.isNone)) = .ret acf := f1
          show EPost _ _ _ _ _ (evC cl 0 (cloneEnd z' bytes zero) _)
          rw [f1']
          intro a4 w4 g4 h4 t4 l4
          have hb4 : retOf [.t 2] acf ≠ .bad := by rw [f2]; exact fun h => by cases h
          obtain ⟨v, q1, q2⟩ := retOf_ok (g := g) (S := S) (w := w) hres h4 ((t1.trans hst.tr).trans t4) (by rw [l4]; rfl) hb4
          rw [f2] at q2
          exact ⟨h4.defers, v, q1, arr_to_list q2⟩
    · cases hx
  · cases hx
end
end Go.Proofs.Ytebflncfgjnkkaa.M
