/- THE ABSTRACT MACHINE, twenty-eighth part: a region of open order, joined. -/
import Derived.Test.YtebflncfgjnkkaaMa27
namespace Go.Proofs.Ytebflncfgjnkkaa.M
set_option linter.unusedSimpArgs false
set_option linter.unusedVariables false
open Go Classical
section
variable {P : Program}
/-- A reckoned run of a region: its operations, one behind the other; what each may be exchanged with. -/
structure SeqD (cl : Oracle) (l : List SOper) (b : Array Nat) (s : Nat → Ac) : Prop where
  step : ∀ i o, l[i]? = some o → stp cl false o (s i) = .ok (s (i + 1)) ∧ (totB b l i = true ∨ (s (i + 1)).S = (s i).S)
  one : ∀ (i j : Nat) (oi oj : SOper) (d : Nat), l[i]? = some oi → l[j]? = some oj → i ≠ j → oi.dst = some d → oj.dst ≠ some d
  look : ∀ (i j : Nat) (oi oj : SOper) (t : Nat), l[i]? = some oi → l[j]? = some oj → i ≠ j → t ∈ oi.looks → oj.dst = some t → cmpB b i j = true
theorem cmp_symm (b : Array Nat) (i j : Nat) : cmpB b i j = cmpB b j i := by
  unfold cmpB
  rw [Nat.max_comm, Nat.min_comm]
section
variable {cl : Oracle} {l : List SOper} {b : Array Nat} {s : Nat → Ac}
def dstAt (l : List SOper) (i : Nat) : Option Nat := (l[i]?).bind (·.dst)
/-- It may write the store, and knows where it stands to all that look at it. -/
def Ty (b : Array Nat) (l : List SOper) (i : Nat) : Prop := ∃ o, l[i]? = some o ∧ o.op.inert = false ∧ totB b l i = true
theorem tot_cmp {i j : Nat} {oj : SOper} (h : totB b l i = true) (hj : l[j]? = some oj) (hne : j ≠ i) (hi : oj.op.inert = false) : cmpB b i j = true := by
  have := all_idx h hj
  simpa [hne, hi] using this
theorem SeqD.put (h : SeqD cl l b s) {i : Nat} {o : SOper} (hi : l[i]? = some o) : ∃ v, s (i + 1) = (({ e := (s i).e, S := (s (i + 1)).S } : Ac).put o.dst v) := by
  obtain ⟨v, hv, _⟩ := stp_agree (e := (s i).e) (S := (s i).S) (e' := (s i).e) (fun _ _ => rfl) (h.step i o hi).1
  exact ⟨v, hv⟩
theorem SeqD.keepE (h : SeqD cl l b s) {i : Nat} {o : SOper} (hi : l[i]? = some o) {t : Nat} (ht : o.dst ≠ some t) : (s (i + 1)).e t = (s i).e t := by
  obtain ⟨v, hv⟩ := h.put hi
  rw [hv]
  cases hd : o.dst with
  | none => rfl
  | some d =>
    have : t ≠ d := fun e => ht (by rw [hd, e])
    simp [Ac.put, upd, this]
theorem SeqD.before (h : SeqD cl l b s) {t : Nat} : ∀ i, i ≤ l.length → (∀ j, j < i → dstAt l j ≠ some t) → (s i).e t = (s 0).e t
  | 0, _, _ => rfl
  | i + 1, hi, hn => by
    have hlt : i < l.length := hi
    rw [h.keepE (List.getElem?_eq_getElem hlt) (fun e => hn i (Nat.lt_succ_self i) (by simp [dstAt, List.getElem?_eq_getElem hlt, e]))]
    exact h.before i (by omega) (fun j hj => hn j (by omega))
theorem SeqD.behind (h : SeqD cl l b s) {t j : Nat} {oj : SOper} (hj : l[j]? = some oj) (hd : oj.dst = some t) : ∀ i, j < i → i ≤ l.length → (s i).e t = (s (j + 1)).e t
  | 0, h0, _ => absurd h0 (Nat.not_lt_zero _)
  | i + 1, h0, hi => by
    rcases Nat.lt_or_ge j i with hlt | hge
    · have hil : i < l.length := hi
      rw [h.keepE (List.getElem?_eq_getElem hil) (h.one j i oj _ t hj (List.getElem?_eq_getElem hil) (by omega) hd)]
      exact h.behind hj hd i hlt (by omega)
    · have : i = j := by omega
      rw [this]
theorem SeqD.still (h : SeqD cl l b s) {i : Nat} (hi : i < l.length) (hT : ¬ Ty b l i) : (s (i + 1)).S = (s i).S := by
  have hio := List.getElem?_eq_getElem hi
  obtain ⟨h1, h2⟩ := h.step i _ hio
  cases hin : (l[i]).op.inert with
  | true => exact (stp_inert (e := (s i).e) (S := (s i).S) hin h1).1
  | false =>
    rcases h2 with h2 | h2
    · exact absurd ⟨_, hio, hin, h2⟩ hT
    · exact h2
theorem SeqD.stills (h : SeqD cl l b s) {i : Nat} : ∀ j, i ≤ j → j ≤ l.length → (∀ k, i ≤ k → k < j → ¬ Ty b l k) → (s j).S = (s i).S
  | 0, h0, _, _ => by rw [show i = 0 by omega]
  | j + 1, h0, hj, hT => by
    rcases Nat.lt_or_ge i (j + 1) with hlt | hge
    · rw [h.still (i := j) hj (hT j (by omega) (Nat.lt_succ_self j))]
      exact h.stills j (by omega) (by omega) (fun k h1 h2 => hT k h1 (by omega))
    · rw [show i = j + 1 by omega]
end
/-- What the frame holds when just those of L have run. -/
noncomputable def ef (l : List SOper) (s : Nat → Ac) (L : Array Bool) : Nat → PV := fun t => if ∃ i, L.getD i false = true ∧ dstAt l i = some t then (s l.length).e t else (s 0).e t
structure DI (P : Program) (n : Nat) (l : List SOper) (b : Array Nat) (s : Nat → Ac) (g0 : Gh) (w0 : World) (len0 : Nat) (L : Array Bool) (m : Nat) (g : Gh) (a : Act) (w : World) : Prop where
  size : L.size = l.length
  closed : ∀ i j, L.getD i false = true → (b.getD i 0).testBit j = true → L.getD j false = true
  mle : m ≤ l.length
  mark : ∀ i, Ty b l i → (L.getD i false = true ↔ i < m)
  rel : RelA n g ⟨ef l s L, (s m).S⟩ a w
  bare : ∀ (i : Nat) (o : SOper) (d : Nat) (z : List PV), l[i]? = some o → L.getD i false = false → o.dst = some d → o.op = .alloc z → Bare g 0 d
  tr : Tr g0 w0 g w
  len : (s m).S.length = len0
theorem getD_tf {L : Array Bool} {i : Nat} (h : L.getD i true = false) : L.getD i false = false ∧ i < L.size := by
  rw [Array.getD_eq_getD_getElem?] at h ⊢
  cases hi : L[i]? with
  | none => rw [hi] at h; simp at h
  | some x => rw [hi] at h; exact ⟨by simpa using h, (Array.getElem?_eq_some_iff.1 hi).1⟩
theorem getD_ft {L : Array Bool} {i : Nat} (h : L.getD i false = false) (hi : i < L.size) : L.getD i true = false := by
  rw [Array.getD_eq_getD_getElem?] at h ⊢
  rw [Array.getElem?_eq_getElem hi] at h ⊢
  simpa using h
theorem getD_set_same {L : Array Bool} {i : Nat} (h : i < L.size) : (L.setIfInBounds i true).getD i false = true := by
  rw [Array.getD_eq_getD_getElem?]
  simp [h]
theorem ac_ext {a b : Ac} (h1 : a.e = b.e) (h2 : a.S = b.S) : a = b := by
  cases a
  cases b
  simp only at h1 h2
  rw [h1, h2]
theorem any_ok {cl : Oracle} (hcl : OracleOk P cl) {n : Nat} {ops : Array Oper} {l : List SOper} (hc : cOpers P n ops ops.toList = some l) {b : Array Nat} (hb : b = CheckFast.beforeF ops) (hfw : fwdOk ops = true) {s : Nat → Ac} (hs : SeqD cl l b s) {g0 : Gh} {w0 : World} {len0 : Nat} {Q : Exit → Act → World → Prop}
    (hQ : ∀ a w g, RelA n g (s l.length) a w → Tr g0 w0 g w → (s l.length).S.length = len0 → Q .normal a w) :
    ∀ (fuel : Nat) (R : List Nat) (L : Array Bool) (m : Nat) (g : Gh) (a : Act) (w : World), DI P n l b s g0 w0 len0 L m g a w → R.length ≤ fuel → (∀ j, j < l.length → L.getD j true = false → j ∈ R) → wpAny P .any ops Q fuel L a w := by
  obtain ⟨hll, hget⟩ := cOpers_get ops.toList l hc
  have hN : ops.size = l.length := by rw [hll]; simp
  have hgood := before_good ops
  rw [← hb] at hgood
  -- nothing is ready: all is done
  have hend : ∀ L m g a w, DI P n l b s g0 w0 len0 L m g a w → Region.ready .any ops L = [] → Q .normal a w := by
    intro L m g a w hd hr
    have hall : ∀ k i, i ≤ k → i < l.length → L.getD i false = true := by
      intro k
      induction k with
      | zero =>
        intro i hi hl
        refine Decidable.byContradiction fun hcon => ?_
        have h0 : L.getD i true = false := getD_ft (by simpa using hcon) (by rw [hd.size]; exact hl)
        have : i ∈ Region.ready .any ops L := by
          rw [mem_ready]
          refine ⟨h0, ops[i], Array.getElem?_eq_getElem (by omega), fun e he hbd => ?_⟩
          have := all_idx hfw (i := i) (o := ops[i]) (by simp [hN, hl])
          rw [List.all_eq_true] at this
          have := this e (by simpa using he)
          simp [hbd] at this
          omega
        rw [hr] at this
        cases this
      | succ k ih =>
        intro i hi hl
        refine Decidable.byContradiction fun hcon => ?_
        have h0 : L.getD i true = false := getD_ft (by simpa using hcon) (by rw [hd.size]; exact hl)
        have : i ∈ Region.ready .any ops L := by
          rw [mem_ready]
          refine ⟨h0, ops[i], Array.getElem?_eq_getElem (by omega), fun e he hbd => ?_⟩
          have := all_idx hfw (i := i) (o := ops[i]) (by simp [hN, hl])
          rw [List.all_eq_true] at this
          have := this e (by simpa using he)
          simp [hbd] at this
          exact ih e.on (by omega) (by omega)
        rw [hr] at this
        cases this
    have hS : (s m).S = (s l.length).S := by
      refine (hs.stills l.length hd.mle (Nat.le_refl _) fun k h1 h2 hT => ?_).symm
      have := (hd.mark k hT).1 (hall k k (Nat.le_refl _) h2)
      omega
    have hE : ef l s L = (s l.length).e := by
      funext t
      unfold ef
      split
      · rfl
      · rename_i hno
        refine (hs.before l.length (Nat.le_refl _) fun j hj e => hno ⟨j, hall j j (Nat.le_refl _) hj, e⟩).symm
    have hr := hd.rel
    rw [hE, hS] at hr
    exact hQ a w g hr hd.tr (by rw [← hS]; exact hd.len)
  intro fuel
  induction fuel with
  | zero =>
    intro R L m g a w hd hR hun
    have hR0 : R = [] := List.eq_nil_of_length_eq_zero (by omega)
    have hr : Region.ready .any ops L = [] := by
      apply List.eq_nil_iff_forall_not_mem.2
      intro i hi
      rw [mem_ready] at hi
      obtain ⟨h1, o, h2, _⟩ := hi
      have := hun i (by rw [← hN]; exact (Array.getElem?_eq_some_iff.1 h2).1) h1
      rw [hR0] at this
      cases this
    exact ⟨hr, hend L m g a w hd hr⟩
  | succ fuel ih =>
    intro R L m g a w hd hR hun
    refine ⟨hend L m g a w hd, fun i hi => ?_⟩
    rw [mem_ready] at hi
    obtain ⟨h1, o, h2, hdep⟩ := hi
    obtain ⟨hin, hiL⟩ := getD_tf h1
    have hil : i < l.length := by rw [← hd.size]; exact hiL
    obtain ⟨so, hso, hco⟩ := hget i o (by simpa using h2)
    -- what is before it has run
    have hbef : ∀ j, (b.getD i 0).testBit j = true → L.getD j false = true := by
      intro j hj
      obtain ⟨o', q1, e, q2, q3, q4⟩ := hgood i j hj
      have : o = o' := by
        have : ops.toList[i]? = some o := by simpa using h2
        rw [this] at q1
        exact Option.some.inj q1
      subst this
      have hon := hdep e (by simpa using q2) q3
      rcases q4 with q4 | q4
      · rw [← q4]; exact hon
      · exact hd.closed _ _ hon q4
    have hcmp : ∀ j, cmpB b i j = true → j ≠ i → (L.getD j false = true ↔ j < i) := by
      intro j hj hne
      unfold cmpB at hj
      constructor
      · intro hL
        refine Decidable.byContradiction fun hge => ?_
        have h3 : max i j = j := by omega
        have h4 : min i j = i := by omega
        rw [h3, h4] at hj
        have := hd.closed j i hL hj
        rw [hin] at this
        cases this
      · intro hlt
        have h3 : max i j = i := by omega
        have h4 : min i j = j := by omega
        rw [h3, h4] at hj
        exact hbef j hj
    -- what it looks at is what was reckoned
    have hag : Agree (s i).e (ef l s L) so.looks := by
      intro t ht
      have key : (∃ j, L.getD j false = true ∧ dstAt l j = some t) ↔ ∃ j, j < i ∧ dstAt l j = some t := by
        constructor
        · rintro ⟨j, hj1, hj2⟩
          cases hlj : l[j]? with
          | none => simp [dstAt, hlj] at hj2
          | some oj =>
            have hne : j ≠ i := fun e => by rw [e] at hj1; rw [hin] at hj1; cases hj1
            simp only [dstAt, hlj, Option.bind_some] at hj2
            exact ⟨j, (hcmp j (hs.look i j so oj t hso hlj (Ne.symm hne) ht hj2) hne).1 hj1, by simp [dstAt, hlj, hj2]⟩
        · rintro ⟨j, hj1, hj2⟩
          cases hlj : l[j]? with
          | none => simp [dstAt, hlj] at hj2
          | some oj =>
            simp only [dstAt, hlj, Option.bind_some] at hj2
            exact ⟨j, (hcmp j (hs.look i j so oj t hso hlj (by omega) ht hj2) (by omega)).2 hj1, by simp [dstAt, hlj, hj2]⟩
      unfold ef
      by_cases hex : ∃ j, j < i ∧ dstAt l j = some t
      · rw [if_pos (key.2 hex)]
        obtain ⟨j, hj1, hj2⟩ := hex
        cases hlj : l[j]? with
        | none => simp [dstAt, hlj] at hj2
        | some oj =>
          simp only [dstAt, hlj, Option.bind_some] at hj2
          rw [hs.behind hlj hj2 i hj1 (by omega), hs.behind hlj hj2 l.length (by omega) (Nat.le_refl _)]
      · rw [if_neg (fun h => hex (key.1 h))]
        exact hs.before i (by omega) fun j hj e => hex ⟨j, hj, e⟩
    -- the store too
    have hSi : so.op.inert = false → (s i).S = (s m).S := by
      intro hni
      have hno : ∀ k, Ty b l k → k ≠ i → (k < m ↔ k < i) := by
        rintro k ⟨ok, hk1, hk2, hk3⟩ hne
        have hc1 := tot_cmp hk3 hso (Ne.symm hne) hni
        rw [cmp_symm] at hc1
        rw [← hd.mark k ⟨ok, hk1, hk2, hk3⟩]
        exact hcmp k hc1 hne
      rcases Nat.lt_or_ge i m with hlt | hge
      · refine (hs.stills m (by omega) hd.mle fun k k1 k2 hT => ?_).symm
        by_cases e : k = i
        · subst e
          have := (hd.mark k hT).2 hlt
          rw [hin] at this
          cases this
        · have := (hno k hT e).1 k2
          omega
      · refine hs.stills i hge (by omega) fun k k1 k2 hT => ?_
        have := (hno k hT (by omega)).2 k2
        omega
    obtain ⟨hst, htt⟩ := hs.step i so hso
    obtain ⟨v, hv1, hv2⟩ := stp_agree (e := (s i).e) (S := (s i).S) (e' := ef l s L) hag hst
    -- the machine's step there
    obtain ⟨m', hm1, hm2, hstep, hmS⟩ : ∃ m', m' ≤ l.length ∧ (∀ k, Ty b l k → ((L.setIfInBounds i true).getD k false = true ↔ k < m')) ∧ stp cl false so ⟨ef l s L, (s m).S⟩ = .ok (({ e := ef l s L, S := (s m').S } : Ac).put so.dst v) ∧ True := by
      have hset : ∀ k, k ≠ i → ((L.setIfInBounds i true).getD k false = true ↔ L.getD k false = true) := fun k hk => by rw [getD_set_ne false (Ne.symm hk)]
      by_cases hT : Ty b l i
      · obtain ⟨oi, q1, q2, q3⟩ := hT
        rw [hso] at q1
        obtain rfl := Option.some.inj q1
        refine ⟨i + 1, hil, fun k hTk => ?_, ?_, trivial⟩
        · by_cases e : k = i
          · subst e
            exact ⟨fun _ => Nat.lt_succ_self k, fun _ => getD_set_same hiL⟩
          · rw [hset k e]
            obtain ⟨ok, hk1, hk2, hk3⟩ := hTk
            rw [hcmp k (tot_cmp q3 hk1 e hk2) e]
            omega
        · rw [← hSi q2]
          exact hv2
      · refine ⟨m, hd.mle, fun k hTk => ?_, ?_, trivial⟩
        · have e : k ≠ i := fun e => hT (by rw [← e]; exact hTk)
          rw [hset k e]
          exact hd.mark k hTk
        · cases hin' : so.op.inert with
          | true =>
            obtain ⟨_, h3⟩ := stp_inert (e := ef l s L) (S := (s i).S) hin' hv2
            have := h3 (s m).S
            rw [this]
            cases so.dst <;> rfl
          | false =>
            have hE := hSi hin'
            have hE2 : (s (i + 1)).S = (s i).S := hs.still hil hT
            rw [hE2, hE] at hv2
            exact hv2
    have hres := stp_ok hcl hco (kd := false) hd.rel (fun _ d z hdd hz => hd.bare i so d z hso hin hdd hz)
    rw [hstep] at hres
    obtain ⟨_, hdst, hdn, _⟩ := cOper_inv hco
    have hdo := hres (wpAny P .any ops Q fuel (L.setIfInBounds i true)) Q (fun c w' g' hstp => by
      have hra := hstp.relA hd.rel hdn
      have heq : (({ e := ef l s L, S := (s m').S } : Ac).put so.dst v) = ⟨ef l s (L.setIfInBounds i true), (s m').S⟩ := by
        have hE : (({ e := ef l s L, S := (s m').S } : Ac).put so.dst v).e = ef l s (L.setIfInBounds i true) := by
          funext t
          by_cases e : so.dst = some t
          · have h4 : (({ e := ef l s L, S := (s m').S } : Ac).put so.dst v).e t = v := by rw [e]; simp [Ac.put, upd]
            have h5 : (s (i + 1)).e t = v := by rw [hv1, e]; simp [Ac.put, upd]
            rw [h4]
            unfold ef
            rw [if_pos ⟨i, getD_set_same hiL, by simp [dstAt, hso, e]⟩]
            rw [hs.behind hso e l.length hil (Nat.le_refl _), h5]
          · have h4 : (({ e := ef l s L, S := (s m').S } : Ac).put so.dst v).e t = ef l s L t := by
              cases hd' : so.dst with
              | none => rfl
              | some d =>
                have : t ≠ d := fun e' => e (by rw [hd', e'])
                simp [Ac.put, upd, this]
            rw [h4]
            unfold ef
            have : (∃ k, L.getD k false = true ∧ dstAt l k = some t) ↔ ∃ k, (L.setIfInBounds i true).getD k false = true ∧ dstAt l k = some t := by
              constructor
              · rintro ⟨k, k1, k2⟩
                exact ⟨k, getD_set_true k1, k2⟩
              · rintro ⟨k, k1, k2⟩
                refine ⟨k, ?_, k2⟩
                by_cases ek : k = i
                · subst ek
                  simp only [dstAt, hso, Option.bind_some] at k2
                  exact absurd k2 e
                · rwa [getD_set_ne false (Ne.symm ek)] at k1
            by_cases hh : ∃ k, L.getD k false = true ∧ dstAt l k = some t
            · rw [if_pos hh, if_pos (this.1 hh)]
            · rw [if_neg hh, if_neg (fun h => hh (this.2 h))]
        have hSS : (({ e := ef l s L, S := (s m').S } : Ac).put so.dst v).S = (s m').S := by cases so.dst <;> rfl
        exact ac_ext hE hSS
      rw [heq] at hra hstp
      refine ih (R.erase i) _ m' g' _ w' ⟨by simp [hd.size], ?_, hm1, hm2, hra, ?_, hd.tr.trans hstp.tr, ?_⟩ ?_ ?_
      · intro p q hp hq
        by_cases e : p = i
        · subst e
          exact getD_set_true (hbef q hq)
        · rw [getD_set_ne false (Ne.symm e)] at hp
          exact getD_set_true (hd.closed p q hp hq)
      · intro p op d z hp hpL hpd hpz
        have e : p ≠ i := fun e => by subst e; rw [getD_set_same hiL] at hpL; cases hpL
        rw [getD_set_ne false (Ne.symm e)] at hpL
        refine (hstp.ext rfl).2.2 d ?_ (hd.bare p op d z hp hpL hpd hpz)
        rw [← hdst]
        exact hs.one p i op so d hp hso e hpd
      · have := hstp.len
        rw [← hd.len]
        exact this
      · have hmem := hun i hil h1
        rw [List.length_erase_of_mem hmem]
        omega
      · intro j hj hjL
        have e : j ≠ i := fun e => by
          subst e
          have := (getD_tf hjL).1
          rw [getD_set_same hiL] at this
          cases this
        rw [getD_set_ne true (Ne.symm e)] at hjL
        exact (List.mem_erase_of_ne e).2 (hun j hj hjL))
    unfold wpOp
    rw [h2]
    unfold doOp at hdo
    dsimp only
    split
    · rename_i hw
      rw [if_pos hw] at hdo
      exact .inl hdo
    · rename_i hw
      rw [if_neg hw] at hdo
      exact hdo
theorem evD_nor {cl : Oracle} : ∀ (l : List SOper) (tot : List Bool) (ac : Ac) (r : EO), (∀ ac', r ≠ .nor ac') → r ≠ .bad → evD cl l tot ac ≠ r
  | [], tot, ac, r, h1, h2 => by simp only [evD]; exact fun e => h1 ac e.symm
  | o :: l, tot, ac, r, h1, h2 => by
    simp only [evD]
    split
    · split
      · exact evD_nor l _ _ r h1 h2
      · exact fun e => h2 e.symm
    · exact fun e => h2 e.symm
theorem dreg_ok {cl : Oracle} (hcl : OracleOk P cl) (hm : P.follows .mixedOrders = true) {n id : Nat} {ops : Array Oper} {l : List SOper} (hc : cOpers P n ops ops.toList = some l) (hdr : drawOk ops l (CheckFast.beforeF ops) = true) {g : Gh} {ac : Ac} {a : Act} {w : World} {Q : Exit → Act → World → Prop} (hr : RelA n g ac a w)
    (hp : EPost n g ac.S.length w Q (evD cl l ((List.range l.length).map (totB (CheckFast.beforeF ops) l)) (prep l ac))) : (Code.region id ops true).wp P Q a w := by
  obtain ⟨g1, hr1, ht1, hl1, _, hb1⟩ := prep_ok l ac g hr
  have hN : ops.size = l.length := by rw [(cOpers_get ops.toList l hc).1]; simp
  apply wp_region_any hm
  cases hev : evD cl l ((List.range l.length).map (totB (CheckFast.beforeF ops) l)) (prep l ac) with
  | nor acN =>
    rw [hev] at hp
    obtain ⟨s, s0, sN, hs⟩ := evD_seq l _ _ acN hev
    unfold drawOk at hdr
    simp only [Bool.and_eq_true] at hdr
    obtain ⟨hd1, hd2, hd3⟩ := hdr
    have hseq : SeqD cl l (CheckFast.beforeF ops) s := by
      refine ⟨fun i o hi => ⟨(hs i o hi).1, (hs i o hi).2.imp (fun h => ?_) (fun h => h)⟩, fun i j oi oj d hi hj hne hdi hdj => ?_, fun i j oi oj t hi hj hne ht hdj => ?_⟩
      · have hlt := (List.getElem?_eq_some_iff.1 hi).1
        rw [List.getD_eq_getElem?_getD, List.getElem?_map, List.getElem?_range hlt] at h
        simpa using h
      · have h1 := all_idx hd1 hi
        have h2 := all_idx h1 hj
        have hne' : ¬ j = i := Ne.symm hne
        simp [hne', hdi, hdj] at h2
      · have h1 := all_idx hd2 hi
        rw [List.all_eq_true] at h1
        have h2 := all_idx (h1 t ht) hj
        have hne' : ¬ j = i := Ne.symm hne
        simpa [hne', hdj] using h2
    have hr2 : RelA n g1 (prep l ac) a { w with drawn := w.drawn + 1 } := ⟨⟨hr1.rel.wr.drawn _, hr1.rel.env⟩, hr1.size, hr1.defers, hr1.ne⟩
    have ht2 : Tr g w g1 { w with drawn := w.drawn + 1 } := ⟨ht1.os, ht1.tape, ht1.output, ht1.size, ht1.fz, ht1.keep, ht1.new, ht1.out⟩
    have hno : ∀ i, (Array.replicate ops.size false).getD i false = false := by
      intro i
      rw [Array.getD_eq_getD_getElem?, Array.getElem?_replicate]
      split <;> rfl
    refine any_ok hcl hc rfl hd3 hseq (g0 := g) (w0 := w) (len0 := ac.S.length) (fun a' w' g' h1 h2 h3 => ?_) ops.size (List.range l.length) _ 0 g1 a _ ⟨by simp [hN], (fun i j h => by rw [hno] at h; cases h), Nat.zero_le _, fun i _ => ⟨(fun h => by rw [hno] at h; cases h), fun h => absurd h (Nat.not_lt_zero _)⟩, ?_, ?_, ht2, ?_⟩ (by simp [hN]) (fun j hj _ => List.mem_range.2 hj)
    · rw [sN] at h1 h3
      exact hp a' w' g' h1 h2 h3
    · have : (⟨ef l s (Array.replicate ops.size false), (s 0).S⟩ : Ac) = prep l ac := by
        rw [s0]
        have : ef l s (Array.replicate ops.size false) = (prep l ac).e := by
          funext t
          unfold ef
          rw [if_neg, s0]
          rintro ⟨i, h, _⟩
          rw [hno] at h
          cases h
        rw [this]
      rw [this]
      exact hr2
    · intro i o d z hi _ hd hz
      exact hb1 o (List.mem_of_getElem? hi) d z hd hz
    · rw [s0]; exact hl1
  | ext i ac' => exact absurd hev (evD_nor _ _ _ _ (by intro ac h; cases h) (by intro h; cases h))
  | ret ac' => exact absurd hev (evD_nor _ _ _ _ (by intro ac h; cases h) (by intro h; cases h))
  | pan v S => exact absurd hev (evD_nor _ _ _ _ (by intro ac h; cases h) (by intro h; cases h))
  | bad => rw [hev] at hp; exact hp.elim
end
end Go.Proofs.Ytebflncfgjnkkaa.M
