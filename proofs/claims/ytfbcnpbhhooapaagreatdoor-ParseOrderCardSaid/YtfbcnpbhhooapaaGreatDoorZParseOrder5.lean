/- Parts of a proof, one behind another: Wp3, Lt6, Wp1, Wp4, Wp5, Wl6, Wl7, Wl8, Wl9, Wl10, WlD, Wl11, Wl12, Wl13, Wl14, WlL, Wp6, Wp8, WlS, Sc7, Lt7, Wp7, Sc8, Lt8, Wp10, Wp9, Wp11, Sc11, Lt11, Wt7. -/
import Derived.Test.YtfbcnpbhhooapaaGreatDoorZParseOrder4
import Derived.Lib.ItoaLen
import Derived.Test.YtfbcnpbhhooapaaGreatDoorProg
import Derived.KernelRfl
set_option maxHeartbeats 4000000
namespace Go.Proofs.YtfbcnpbhhooapaaGreatDoor.M
set_option linter.unusedSimpArgs false
set_option linter.unusedVariables false
open Go Classical
def idxI : Option Nat → Int
 | some i => (i : Int)
 | none => -1
theorem r_Index_loop (s : List (List UInt8)) (v : List UInt8) (hs : s.length ≤ 1000) : ∀ (l : List (List UInt8)) (i : Nat), s.drop i = l → i + l.length = s.length → At_slices_Index_string_string_1 s v (i : Nat) (idxI (idxS v l i))
 | [], i, h, hi => by
  refine At_slices_Index_string_string_1_step _ _ _ _ ⟨fun hf => ?_, fun _ => rfl⟩
  simp at hi
  omega
 | u :: l, i, h, hi => by
  have hlt : i < s.length := by simp at hi; omega
  have hg : s[i]? = some u := by
   have := congrArg List.head? h
   rw [List.head?_drop] at this
   simpa using this
  refine At_slices_Index_string_string_1_step _ _ _ _ ⟨fun _ => ⟨by omega, u, by simpa using hg, fun he => ?_, fun he => ⟨⟨by omega, by omega⟩, ?_⟩⟩, fun hf => absurd (by omega) hf⟩
  ·simp [idxS, he, idxI]
  ·have := r_Index_loop s v hs l (i + 1) (by rw [← List.drop_drop, h]; rfl) (by simp at hi ⊢; omega)
   simp only [idxS, if_neg he]
   exact this
theorem r_IndexS (s : List (List UInt8)) (v : List UInt8) (hs : s.length ≤ 1000) : R_slices_Index_string_string s v (idxI (idxS v s 0)) :=
 slices_Index_string_string_tree _ _ _ (r_Index_loop s v hs s 0 rfl (by simp))
theorem r_two (rank : Nat) (hr : rank < 5) (s : List UInt8) : ∃ k, R_Q143 (rank : Int) s k (opS rank s).isSome ∧ ∀ q, opS rank s = some q → k = q := by
 have key : ∀ (l : List (List UInt8)) (f : Int), ([[[124, 124]], [[38, 38]], [[61, 61], [33, 61], [60], [60, 61], [62], [62, 61]], [[43], [45]], [[42], [47], [37]]] : List (List (List UInt8)))[rank]? = some l → ([11, 12, 13, 19, 21] : List Int)[rank]? = some f → l.length ≤ 6 → 0 ≤ f → f ≤ 30 → signsS rank = l → firstS rank = f → ∃ k, R_Q143 (rank : Int) s k (opS rank s).isSome ∧ ∀ q, opS rank s = some q → k = q := by
  intro l f h1 h2 h3 h4 h5 h6 h7
  have hb : -1 ≤ idxI (idxS s l 0) ∧ idxI (idxS s l 0) ≤ 6 := by
   have gen : ∀ (l : List (List UInt8)) (i : Nat), -1 ≤ idxI (idxS s l i) ∧ idxI (idxS s l i) ≤ i + l.length := by
    intro l
    induction l with
    | nil => intro i; simp [idxS, idxI]
    | cons u l ih =>
     intro i
     simp only [idxS]
     split
     ·simp only [idxI, List.length_cons]; omega
     ·have := ih (i + 1)
      simp only [List.length_cons]
      omega
   have := gen l 0
   omega
  refine ⟨f + idxI (idxS s l 0), Q143_tree _ _ _ _ ⟨by omega, l, by simpa using h1, idxI (idxS s l 0), r_IndexS l s (by omega), by omega, f, by simpa using h2, ⟨by omega, by omega⟩, rfl, ?_⟩, ?_⟩
  ·simp only [opS, h6]
   cases idxS s l 0 with
   | none => simp [idxI]
   | some i => simp [idxI]
  ·intro q hq
   simp only [opS, h6, h7] at hq
   cases hi : idxS s l 0 with
   | none => rw [hi] at hq; cases hq
   | some i => rw [hi] at hq; simpa [idxI] using hq
 match rank, hr with
 | 0, _ => exact key _ _ rfl rfl (by decide) (by decide) (by decide) rfl rfl
 | 1, _ => exact key _ _ rfl rfl (by decide) (by decide) (by decide) rfl rfl
 | 2, _ => exact key _ _ rfl rfl (by decide) (by decide) (by decide) rfl rfl
 | 3, _ => exact key _ _ rfl rfl (by decide) (by decide) (by decide) rfl rfl
 | 4, _ => exact key _ _ rfl rfl (by decide) (by decide) (by decide) rfl rfl
theorem r_is1 {L ts : List Token} (h : ts <:+ L) {s : List UInt8} (hi : isS s ts = true) : R_Q102 (pt L ts) s true (pt L ts) := by
 have := r_is h (fun e => by subst e; cases hi) s
 rw [hi] at this
 exact this
theorem r_is0 {L ts : List Token} (h : ts <:+ L) (hne : ts ≠ []) {s : List UInt8} (hi : isS s ts = false) : R_Q102 (pt L ts) s false (pt L ts) := by
 have := r_is h hne s
 rw [hi] at this
 exact this
def OkE {α : Type} (L ts : List Token) (out : List Node) (d d' g c m n : Nat) (R : PExprs → Nat → Bool → Option Int → α → PExprs → Nat → Bool → Prop) : PR α → Prop
 | .ok a ts' out' => ts' <:+ L ∧ W ts' ∧ ts'.length + c ≤ ts.length ∧ out'.length + ts'.length ≤ out.length + ts.length ∧ R (pe L ts out d) g false none a (pe L ts' out' d') g false
 | .er e => ∃ a x' g' z', R (pe L ts out d) g false (some e) a x' g' z'
 | .no => n ≤ m
structure Sp (n : Nat) (L ts : List Token) (out : List Node) (d g : Nat) : Prop where
 expr : OkE L ts out d d g 1 (20 * ts.length + 9) n R_Q68 (exprS n d ts out)
 chain : ∀ rank : Nat, rank ≤ 5 → OkE L ts out d d g 1 (20 * ts.length + 8 - rank) n (fun x g z => R_Q103 x g z (rank : Int)) (chainS n rank d ts out)
 loop : ∀ (rank : Nat) (a : Int), rank < 5 → OkE L ts out d d g 0 (20 * ts.length) n (At_Q103_1 (rank : Int) a) (loopS n rank d a ts out)
 un : OkE L ts out d d g 1 (20 * ts.length + 2) n R_Q142 (unS n d ts out)
 post : OkE L ts out d d g 1 (20 * ts.length + 1) n R_Q167 (postS n d ts out)
 postl : ∀ a : Int, OkE L ts out d d g 0 (20 * ts.length) n (At_Q167_1 a) (postL n d a ts out)
 many : ∀ e : List UInt8, d + 1 ≤ 64 → OkE L ts out (d + 1) d g 1 (20 * ts.length + 10) n (fun x g z => R_Q203 x g z e) (manyS n (d + 1) e ts out)
 manyl : ∀ (e : List UInt8) (l : List Int), l.length + ts.length ≤ 1000000 → d + 1 ≤ 64 → OkE L ts out (d + 1) d g 1 (20 * ts.length) n (At_Q203_1 e l) (manyL n (d + 1) e l ts out)
 prim : OkE L ts out d d g 1 (20 * ts.length) n R_Q180 (primS n d ts out)
 manyn : ∀ e : List UInt8, d + 1 ≤ 64 → ∀ b ts2 out2, manyS n (d + 1) e ts out = .ok b ts2 out2 → b.length ≤ ts.length
 manyln : ∀ (e : List UInt8) (l : List Int), d + 1 ≤ 64 → ∀ b ts2 out2, manyL n (d + 1) e l ts out = .ok b ts2 out2 → b.length ≤ l.length + ts.length
def SpA (n : Nat) : Prop := ∀ (L : List Token), L.length ≤ 1000000 → (∀ t ∈ L, t.Text.length ≤ 1000000) → ∀ (ts : List Token), ts <:+ L → W ts → ∀ (out : List Node), out.length + ts.length ≤ 1000000 → ∀ (d : Nat), d ≤ 64 → ∀ (g : Nat), Sp n L ts out d g
theorem sp_zero : SpA 0 := fun L hL hT ts hs hw out ho d hd g => by
 constructor
 iterate 9 (intros; simp only [exprS, chainS, loopS, unS, postS, postL, manyS, manyL, primS, OkE]; exact Nat.zero_le _)
 ·intro e h b ts2 out2 hb; simp [manyS] at hb
 ·intro e l h b ts2 out2 hb; simp [manyL] at hb
section
variable {n : Nat} (ih : SpA n) {L ts : List Token} (hL : L.length ≤ 1000000) (hT : ∀ t ∈ L, t.Text.length ≤ 1000000) (hs : ts <:+ L) (hw : W ts) {out : List Node} (ho : out.length + ts.length ≤ 1000000) {d : Nat} (hd : d ≤ 64) (g : Nat)
include ih hL hT hs hw ho hd
theorem sp_expr : OkE L ts out d d g 1 (20 * ts.length + 9) (n + 1) R_Q68 (exprS (n + 1) d ts out) := by
 have h1 := (ih L hL hT ts hs hw out ho d hd g).chain 0 (by omega)
 simp only [exprS]
 cases hc : chainS n 0 d ts out with
 | no => rw [hc] at h1; simp only [PR.bind, OkE] at h1 ⊢; omega
 | er e =>
  rw [hc] at h1
  obtain ⟨a, x', g', z', q⟩ := h1
  exact ⟨0, x', g', z', Q68_tree _ _ _ _ _ _ _ _ ⟨some e, a, x', g', z', q, rfl, rfl, rfl, rfl⟩⟩
 | ok a ts1 out1 =>
  rw [hc] at h1
  obtain ⟨s1, w1, l1, o1, q1⟩ := h1
  simp only [PR.bind]
  by_cases hi : isS [63] ts1 = true
  ·rw [if_pos hi]
   simp only [openS, if_pos hi]
   have hlen := len_shift hi
   by_cases h64 : 64 ≤ d
   ·rw [if_pos h64]
    obtain ⟨x', g', z', q⟩ := r_open6 s1 w1.ne hi h64 out1 g false
    exact ⟨0, x', g', z', Q68_tree _ _ _ _ _ _ _ _ ⟨none, a, _, _, _, q1, true, _, r_is1 s1 hi, fun _ => ⟨some 6, x', g', z', q, rfl, rfl, rfl, rfl⟩, fun hf => absurd rfl hf⟩⟩
   ·rw [if_neg h64]
    have q2 := r_open1 s1 hL hi h64 out1 g false
    have h3 := (ih L hL hT ts1.tail (suf_shift s1) (w1.shift hi) out1 (by omega) (d + 1) (by omega) g).expr
    cases hb : exprS n (d + 1) ts1.tail out1 with
    | no => rw [hb] at h3; simp only [OkE] at h3 ⊢; omega
    | er e =>
     rw [hb] at h3
     obtain ⟨b, x', g', z', q3⟩ := h3
     exact ⟨0, x', g', z', Q68_tree _ _ _ _ _ _ _ _ ⟨none, a, _, _, _, q1, true, _, r_is1 s1 hi, fun _ => ⟨none, _, _, _, q2, some e, b, x', g', z', q3, rfl, rfl, rfl, rfl⟩, fun hf => absurd rfl hf⟩⟩
    | ok b ts2 out2 =>
     rw [hb] at h3
     obtain ⟨s2, w2, l2, o2, q3⟩ := h3
     simp only [needS]
     by_cases hi2 : isS [58] ts2 = true
     ·rw [if_pos hi2]
      have hlen2 := len_shift hi2
      have h4 := (ih L hL hT ts2.tail (suf_shift s2) (w2.shift hi2) out2 (by omega) (d + 1) (by omega) g).expr
      cases hc3 : exprS n (d + 1) ts2.tail out2 with
      | no => rw [hc3] at h4; simp only [OkE] at h4 ⊢; omega
      | er e =>
       rw [hc3] at h4
       obtain ⟨c, x', g', z', q4⟩ := h4
       exact ⟨0, x', g', z', Q68_tree _ _ _ _ _ _ _ _ ⟨none, a, _, _, _, q1, true, _, r_is1 s1 hi, fun _ => ⟨none, _, _, _, q2, none, b, _, _, _, q3, none, _, r_need1 s2 hL hi2, some e, c, x', g', z', q4, rfl, rfl, rfl, rfl⟩, fun hf => absurd rfl hf⟩⟩
      | ok c ts3 out3 =>
       rw [hc3] at h4
       obtain ⟨s3, w3, l3, o3, q4⟩ := h4
       refine ⟨s3, w3, by omega, by simp; omega, Q68_tree _ _ _ _ _ _ _ _ ⟨none, a, _, _, _, q1, true, _, r_is1 s1 hi, fun _ => ⟨none, _, _, _, q2, none, b, _, _, _, q3, none, _, r_need1 s2 hL hi2, none, c, _, _, _, q4, ⟨by simp only [pe]; omega, by simp only [pe]; omega⟩, _, _, _, _, r_put _ out3 _ g false 10 [] [a, b, c] (by simp) (by omega), rfl, rfl, ?_, rfl, rfl⟩, fun hf => absurd rfl hf⟩⟩
       simp only [pe]
       congr 1
       omega
     ·rw [if_neg hi2]
      exact ⟨0, _, _, _, Q68_tree _ _ _ _ _ _ _ _ ⟨none, a, _, _, _, q1, true, _, r_is1 s1 hi, fun _ => ⟨none, _, _, _, q2, none, b, _, _, _, q3, some 5, _, r_need0 s2 w2.ne (by simpa using hi2), rfl, rfl, rfl, rfl⟩, fun hf => absurd rfl hf⟩⟩
  ·rw [if_neg hi]
   exact ⟨s1, w1, l1, o1, Q68_tree _ _ _ _ _ _ _ _ ⟨none, a, _, _, _, q1, false, _, r_is0 s1 w1.ne (by simpa using hi), fun hf => (by cases hf), fun _ => ⟨rfl, rfl, rfl, rfl, rfl⟩⟩⟩
theorem sp_chain (rank : Nat) (hr : rank ≤ 5) : OkE L ts out d d g 1 (20 * ts.length + 8 - rank) (n + 1) (fun x g z => R_Q103 x g z (rank : Int)) (chainS (n + 1) rank d ts out) := by
 simp only [chainS]
 by_cases h5 : rank = 5
 ·subst h5
  have h1 := (ih L hL hT ts hs hw out ho d hd g).un
  rw [if_pos rfl]
  cases hc : unS n d ts out with
  | no => rw [hc] at h1; simp only [OkE] at h1 ⊢; omega
  | er e =>
   rw [hc] at h1
   obtain ⟨a, x', g', z', q⟩ := h1
   exact ⟨a, x', g', z', Q103_tree _ _ _ _ _ _ _ _ _ ⟨fun _ => ⟨some e, a, x', g', z', q, rfl, rfl, rfl, rfl⟩, fun hf => absurd rfl hf⟩⟩
  | ok a ts1 out1 =>
   rw [hc] at h1
   obtain ⟨s1, w1, l1, o1, q1⟩ := h1
   exact ⟨s1, w1, l1, o1, Q103_tree _ _ _ _ _ _ _ _ _ ⟨fun _ => ⟨none, a, _, _, _, q1, rfl, rfl, rfl, rfl, rfl⟩, fun hf => absurd rfl hf⟩⟩
 ·rw [if_neg h5]
  have h5' : ¬ ((rank : Nat) : Int) = 5 := by omega
  have h1 := (ih L hL hT ts hs hw out ho d hd g).chain (rank + 1) (by omega)
  cases hc : chainS n (rank + 1) d ts out with
  | no => rw [hc] at h1; simp only [PR.bind, OkE] at h1 ⊢; omega
  | er e =>
   rw [hc] at h1
   obtain ⟨a, x', g', z', q⟩ := h1
   exact ⟨a, x', g', z', Q103_tree _ _ _ _ _ _ _ _ _ ⟨fun hf => absurd hf h5', fun _ => ⟨⟨by omega, by omega⟩, some e, a, x', g', z', q, rfl, rfl, rfl, rfl⟩⟩⟩
  | ok a ts1 out1 =>
   rw [hc] at h1
   obtain ⟨s1, w1, l1, o1, q1⟩ := h1
   simp only [PR.bind]
   have h2 := (ih L hL hT ts1 s1 w1 out1 (by omega) d hd g).loop rank a (by omega)
   cases hl : loopS n rank d a ts1 out1 with
   | no => rw [hl] at h2; simp only [OkE] at h2 ⊢; omega
   | er e =>
    rw [hl] at h2
    obtain ⟨b, x', g', z', q⟩ := h2
    exact ⟨b, x', g', z', Q103_tree _ _ _ _ _ _ _ _ _ ⟨fun hf => absurd hf h5', fun _ => ⟨⟨by omega, by omega⟩, none, a, _, _, _, q1, q⟩⟩⟩
   | ok b ts2 out2 =>
    rw [hl] at h2
    obtain ⟨s2, w2, l2, o2, q2⟩ := h2
    exact ⟨s2, w2, by omega, by omega, Q103_tree _ _ _ _ _ _ _ _ _ ⟨fun hf => absurd hf h5', fun _ => ⟨⟨by omega, by omega⟩, none, a, _, _, _, q1, q2⟩⟩⟩
theorem sp_loop (rank : Nat) (a : Int) (hr : rank < 5) : OkE L ts out d d g 0 (20 * ts.length) (n + 1) (At_Q103_1 (rank : Int) a) (loopS (n + 1) rank d a ts out) := by
 cases ts with
 | nil => exact hw.elim
 | cons t ts =>
  simp only [loopS]
  by_cases hk : t.Kind = 4
  ·rw [if_pos hk]
   obtain ⟨k, hk2, hkq⟩ := r_two rank hr t.Text
   cases hop : opS rank t.Text with
   | none =>
    rw [hop] at hk2
    exact ⟨hs, hw, by simp, by simp, At_Q103_1_step _ _ _ _ _ _ _ _ _ _ ⟨t, _, r_now hs, fun _ => ⟨t, _, r_now hs, k, false, hk2, fun hf => (by cases hf), fun _ => ⟨rfl, rfl, rfl, rfl, rfl⟩⟩, fun hf => absurd hk hf⟩⟩
   | some kind =>
    rw [hop] at hk2
    obtain rfl := hkq kind hop
    simp only
    have hk0 : t.Kind ≠ 0 := by rw [hk]; decide
    have hp := suf_len hs
    have h1 := (ih L hL hT ts (suf_tail hs) (hw.tail hk0) out (by simp at ho; omega) d hd g).chain (rank + 1) (by omega)
    have hI : I64 ((pt L (t :: ts)).pos + 1) := by simp only [pt, I64]; omega
    have hI2 : I64 (((rank : Nat) : Int) + 1) := ⟨by omega, by omega⟩
    have e1 : (PExprs.mk (PTokens.mk (pt L (t :: ts)).l ((pt L (t :: ts)).pos + 1)) (pe L (t :: ts) out d).out (pe L (t :: ts) out d).deep) = pe L ts out d := by rw [pt_next hs]; rfl
    cases hc : chainS n (rank + 1) d ts out with
    | no => rw [hc] at h1; simp only [PR.bind, OkE, List.length_cons] at h1 ⊢; omega
    | er e =>
     rw [hc] at h1
     obtain ⟨b, x', g', z', q⟩ := h1
     exact ⟨b, x', g', z', At_Q103_1_step _ _ _ _ _ _ _ _ _ _ ⟨t, _, r_now hs, fun _ => ⟨t, _, r_now hs, k, true, hk2, fun _ => ⟨hI, hI2, some e, b, x', g', z', e1 ▸ q, rfl, rfl, rfl, rfl⟩, fun hf => absurd rfl hf⟩, fun hf => absurd hk hf⟩⟩
    | ok b ts1 out1 =>
     rw [hc] at h1
     obtain ⟨s1, w1, l1, o1, q1⟩ := h1
     simp only [PR.bind]
     simp only [List.length_cons] at ho hp
     by_cases h2 : rank = 2
     ·subst h2
      rw [if_pos rfl]
      exact ⟨s1, w1, by simp; omega, by simp; omega, At_Q103_1_step _ _ _ _ _ _ _ _ _ _ ⟨t, _, r_now hs, fun _ => ⟨t, _, r_now hs, k, true, hk2, fun _ => ⟨hI, hI2, none, b, _, _, _, e1 ▸ q1, _, _, _, _, r_put _ out1 _ g false k [] [a, b] (by simp) (by omega), fun _ => ⟨rfl, rfl, rfl, rfl, rfl⟩, fun hf => absurd rfl hf⟩, fun hf => absurd rfl hf⟩, fun hf => absurd hk hf⟩⟩
     ·rw [if_neg h2]
      have h2' : ¬ ((rank : Nat) : Int) = 2 := by omega
      have h3 := (ih L hL hT ts1 s1 w1 (out1 ++ [nd k [] [a, b]]) (by simp; omega) d hd g).loop rank (out1.length : Nat) hr
      cases hl : loopS n rank d (out1.length : Nat) ts1 (out1 ++ [nd k [] [a, b]]) with
      | no => rw [hl] at h3; simp only [OkE, List.length_cons] at h3 ⊢; omega
      | er e =>
       rw [hl] at h3
       obtain ⟨c, x', g', z', q⟩ := h3
       exact ⟨c, x', g', z', At_Q103_1_step _ _ _ _ _ _ _ _ _ _ ⟨t, _, r_now hs, fun _ => ⟨t, _, r_now hs, k, true, hk2, fun _ => ⟨hI, hI2, none, b, _, _, _, e1 ▸ q1, _, _, _, _, r_put _ out1 _ g false k [] [a, b] (by simp) (by omega), fun hf => absurd hf h2', fun _ => q⟩, fun hf => absurd rfl hf⟩, fun hf => absurd hk hf⟩⟩
      | ok c ts2 out2 =>
       rw [hl] at h3
       obtain ⟨s2, w2, l2, o2, q2⟩ := h3
       simp only [List.length_append, List.length_cons, List.length_nil] at o2
       exact ⟨s2, w2, by simp; omega, by simp; omega, At_Q103_1_step _ _ _ _ _ _ _ _ _ _ ⟨t, _, r_now hs, fun _ => ⟨t, _, r_now hs, k, true, hk2, fun _ => ⟨hI, hI2, none, b, _, _, _, e1 ▸ q1, _, _, _, _, r_put _ out1 _ g false k [] [a, b] (by simp) (by omega), fun hf => absurd hf h2', fun _ => q2⟩, fun hf => absurd rfl hf⟩, fun hf => absurd hk hf⟩⟩
  ·rw [if_neg hk]
   exact ⟨hs, hw, by simp, by simp, At_Q103_1_step _ _ _ _ _ _ _ _ _ _ ⟨t, _, r_now hs, fun hf => absurd hf hk, fun _ => ⟨rfl, rfl, rfl, rfl, rfl⟩⟩⟩
theorem sp_un : OkE L ts out d d g 1 (20 * ts.length + 2) (n + 1) R_Q142 (unS (n + 1) d ts out) := by
 simp only [unS]
 by_cases hi : isS [45] ts = true
 ·rw [if_pos hi]
  simp only [openS, if_pos hi]
  have hlen := len_shift hi
  by_cases h64 : 64 ≤ d
  ·rw [if_pos h64]
   obtain ⟨x', g', z', q⟩ := r_open6 hs hw.ne hi h64 out g false
   exact ⟨0, x', g', z', Q142_tree _ _ _ _ _ _ _ _ ⟨true, _, r_is1 hs hi, fun _ => ⟨some 6, x', g', z', q, rfl, rfl, rfl, rfl⟩, fun hf => absurd rfl hf⟩⟩
  ·rw [if_neg h64]
   have q2 := r_open1 hs hL hi h64 out g false
   have h3 := (ih L hL hT ts.tail (suf_shift hs) (hw.shift hi) out (by omega) (d + 1) (by omega) g).un
   cases hb : unS n (d + 1) ts.tail out with
   | no => rw [hb] at h3; simp only [PR.bind, OkE] at h3 ⊢; omega
   | er e =>
    rw [hb] at h3
    obtain ⟨b, x', g', z', q3⟩ := h3
    exact ⟨0, x', g', z', Q142_tree _ _ _ _ _ _ _ _ ⟨true, _, r_is1 hs hi, fun _ => ⟨none, _, _, _, q2, some e, b, x', g', z', q3, rfl, rfl, rfl, rfl⟩, fun hf => absurd rfl hf⟩⟩
   | ok b ts2 out2 =>
    rw [hb] at h3
    obtain ⟨s2, w2, l2, o2, q3⟩ := h3
    simp only [PR.bind]
    refine ⟨s2, w2, by omega, by simp; omega, Q142_tree _ _ _ _ _ _ _ _ ⟨true, _, r_is1 hs hi, fun _ => ⟨none, _, _, _, q2, none, b, _, _, _, q3, ⟨by simp only [pe]; omega, by simp only [pe]; omega⟩, _, _, _, _, r_put _ out2 _ g false 9 [] [b] (by simp) (by omega), rfl, rfl, ?_, rfl, rfl⟩, fun hf => absurd rfl hf⟩⟩
    simp only [pe]
    congr 1
    omega
 ·rw [if_neg hi]
  have hi0 : isS [45] ts = false := by simpa using hi
  clear hi
  by_cases hi : isS [33] ts = true
  ·rw [if_pos hi]
   simp only [openS, if_pos hi]
   have hlen := len_shift hi
   by_cases h64 : 64 ≤ d
   ·rw [if_pos h64]
    obtain ⟨x', g', z', q⟩ := r_open6 hs hw.ne hi h64 out g false
    exact ⟨0, x', g', z', Q142_tree _ _ _ _ _ _ _ _ ⟨false, _, r_is0 hs hw.ne hi0, fun hf => (by cases hf), fun _ => ⟨true, _, r_is1 hs hi, fun _ => ⟨some 6, x', g', z', q, rfl, rfl, rfl, rfl⟩, fun hf => absurd rfl hf⟩⟩⟩
   ·rw [if_neg h64]
    have q2 := r_open1 hs hL hi h64 out g false
    have h3 := (ih L hL hT ts.tail (suf_shift hs) (hw.shift hi) out (by omega) (d + 1) (by omega) g).un
    cases hb : unS n (d + 1) ts.tail out with
    | no => rw [hb] at h3; simp only [PR.bind, OkE] at h3 ⊢; omega
    | er e =>
     rw [hb] at h3
     obtain ⟨b, x', g', z', q3⟩ := h3
     exact ⟨0, x', g', z', Q142_tree _ _ _ _ _ _ _ _ ⟨false, _, r_is0 hs hw.ne hi0, fun hf => (by cases hf), fun _ => ⟨true, _, r_is1 hs hi, fun _ => ⟨none, _, _, _, q2, some e, b, x', g', z', q3, rfl, rfl, rfl, rfl⟩, fun hf => absurd rfl hf⟩⟩⟩
    | ok b ts2 out2 =>
     rw [hb] at h3
     obtain ⟨s2, w2, l2, o2, q3⟩ := h3
     simp only [PR.bind]
     refine ⟨s2, w2, by omega, by simp; omega, Q142_tree _ _ _ _ _ _ _ _ ⟨false, _, r_is0 hs hw.ne hi0, fun hf => (by cases hf), fun _ => ⟨true, _, r_is1 hs hi, fun _ => ⟨none, _, _, _, q2, none, b, _, _, _, q3, ⟨by simp only [pe]; omega, by simp only [pe]; omega⟩, _, _, _, _, r_put _ out2 _ g false 8 [] [b] (by simp) (by omega), rfl, rfl, ?_, rfl, rfl⟩, fun hf => absurd rfl hf⟩⟩⟩
     simp only [pe]
     congr 1
     omega
  ·rw [if_neg hi]
   have h1 := (ih L hL hT ts hs hw out ho d hd g).post
   cases hc : postS n d ts out with
   | no => rw [hc] at h1; simp only [OkE] at h1 ⊢; omega
   | er e =>
    rw [hc] at h1
    obtain ⟨a, x', g', z', q⟩ := h1
    exact ⟨a, x', g', z', Q142_tree _ _ _ _ _ _ _ _ ⟨false, _, r_is0 hs hw.ne hi0, fun hf => (by cases hf), fun _ => ⟨false, _, r_is0 hs hw.ne (by simpa using hi), fun hf => (by cases hf), fun _ => ⟨some e, a, x', g', z', q, rfl, rfl, rfl, rfl⟩⟩⟩⟩
   | ok a ts1 out1 =>
    rw [hc] at h1
    obtain ⟨s1, w1, l1, o1, q1⟩ := h1
    exact ⟨s1, w1, l1, o1, Q142_tree _ _ _ _ _ _ _ _ ⟨false, _, r_is0 hs hw.ne hi0, fun hf => (by cases hf), fun _ => ⟨false, _, r_is0 hs hw.ne (by simpa using hi), fun hf => (by cases hf), fun _ => ⟨none, a, _, _, _, q1, rfl, rfl, rfl, rfl, rfl⟩⟩⟩⟩
theorem sp_post : OkE L ts out d d g 1 (20 * ts.length + 1) (n + 1) R_Q167 (postS (n + 1) d ts out) := by
 simp only [postS]
 have h1 := (ih L hL hT ts hs hw out ho d hd g).prim
 cases hc : primS n d ts out with
 | no => rw [hc] at h1; simp only [PR.bind, OkE] at h1 ⊢; omega
 | er e =>
  rw [hc] at h1
  obtain ⟨a, x', g', z', q⟩ := h1
  exact ⟨a, x', g', z', Q167_tree _ _ _ _ _ _ _ _ ⟨some e, a, x', g', z', q, rfl, rfl, rfl, rfl⟩⟩
 | ok a ts1 out1 =>
  rw [hc] at h1
  obtain ⟨s1, w1, l1, o1, q1⟩ := h1
  simp only [PR.bind]
  have h2 := (ih L hL hT ts1 s1 w1 out1 (by omega) d hd g).postl a
  cases hl : postL n d a ts1 out1 with
  | no => rw [hl] at h2; simp only [OkE] at h2 ⊢; omega
  | er e =>
   rw [hl] at h2
   obtain ⟨b, x', g', z', q⟩ := h2
   exact ⟨b, x', g', z', Q167_tree _ _ _ _ _ _ _ _ ⟨none, a, _, _, _, q1, q⟩⟩
  | ok b ts2 out2 =>
   rw [hl] at h2
   obtain ⟨s2, w2, l2, o2, q2⟩ := h2
   exact ⟨s2, w2, by omega, by omega, Q167_tree _ _ _ _ _ _ _ _ ⟨none, a, _, _, _, q1, q2⟩⟩
theorem sp_postl (a : Int) : OkE L ts out d d g 0 (20 * ts.length) (n + 1) (At_Q167_1 a) (postL (n + 1) d a ts out) := by
 simp only [postL]
 by_cases hi : isS [91] ts = true
 ·rw [if_pos hi]
  simp only [openS, if_pos hi]
  have hlen := len_shift hi
  by_cases h64 : 64 ≤ d
  ·rw [if_pos h64]
   obtain ⟨x', g', z', q⟩ := r_open6 hs hw.ne hi h64 out g false
   exact ⟨0, x', g', z', At_Q167_1_step _ _ _ _ _ _ _ _ _ ⟨true, _, r_is1 hs hi, fun _ => ⟨some 6, x', g', z', q, rfl, rfl, rfl, rfl⟩, fun hf => absurd rfl hf⟩⟩
  ·rw [if_neg h64]
   have q2 := r_open1 hs hL hi h64 out g false
   have h3 := (ih L hL hT ts.tail (suf_shift hs) (hw.shift hi) out (by omega) (d + 1) (by omega) g).expr
   cases hb : exprS n (d + 1) ts.tail out with
   | no => rw [hb] at h3; simp only [PR.bind, OkE] at h3 ⊢; omega
   | er e =>
    rw [hb] at h3
    obtain ⟨b, x', g', z', q3⟩ := h3
    exact ⟨0, x', g', z', At_Q167_1_step _ _ _ _ _ _ _ _ _ ⟨true, _, r_is1 hs hi, fun _ => ⟨none, _, _, _, q2, some e, b, x', g', z', q3, rfl, rfl, rfl, rfl⟩, fun hf => absurd rfl hf⟩⟩
   | ok b ts2 out2 =>
    rw [hb] at h3
    obtain ⟨s2, w2, l2, o2, q3⟩ := h3
    simp only [PR.bind, needS]
    by_cases hi2 : isS [93] ts2 = true
    ·rw [if_pos hi2]
     have hlen2 := len_shift hi2
     have q4 := r_shut1 s2 hL hi2 (d := d) (by omega) out2 g false
     have h4 := (ih L hL hT ts2.tail (suf_shift s2) (w2.shift hi2) (out2 ++ [nd 7 [] [a, b]]) (by simp; omega) d hd g).postl (out2.length : Nat)
     cases hl : postL n d (out2.length : Nat) ts2.tail (out2 ++ [nd 7 [] [a, b]]) with
     | no => rw [hl] at h4; simp only [OkE] at h4 ⊢; omega
     | er e =>
      rw [hl] at h4
      obtain ⟨c, x', g', z', q⟩ := h4
      exact ⟨c, x', g', z', At_Q167_1_step _ _ _ _ _ _ _ _ _ ⟨true, _, r_is1 hs hi, fun _ => ⟨none, _, _, _, q2, none, b, _, _, _, q3, none, _, _, _, q4, _, _, _, _, r_put _ out2 _ g false 7 [] [a, b] (by simp) (by omega), q⟩, fun hf => absurd rfl hf⟩⟩
     | ok c ts3 out3 =>
      rw [hl] at h4
      obtain ⟨s3, w3, l3, o3, q⟩ := h4
      simp only [List.length_append, List.length_cons, List.length_nil] at o3
      exact ⟨s3, w3, by omega, by omega, At_Q167_1_step _ _ _ _ _ _ _ _ _ ⟨true, _, r_is1 hs hi, fun _ => ⟨none, _, _, _, q2, none, b, _, _, _, q3, none, _, _, _, q4, _, _, _, _, r_put _ out2 _ g false 7 [] [a, b] (by simp) (by omega), q⟩, fun hf => absurd rfl hf⟩⟩
    ·rw [if_neg hi2]
     obtain ⟨x', g', z', q⟩ := r_shut5 s2 w2.ne (by simpa using hi2) (d + 1) out2 g false
     exact ⟨0, x', g', z', At_Q167_1_step _ _ _ _ _ _ _ _ _ ⟨true, _, r_is1 hs hi, fun _ => ⟨none, _, _, _, q2, none, b, _, _, _, q3, some 5, x', g', z', q, rfl, rfl, rfl, rfl⟩, fun hf => absurd rfl hf⟩⟩
 ·rw [if_neg hi]
  exact ⟨hs, hw, by omega, by omega, At_Q167_1_step _ _ _ _ _ _ _ _ _ ⟨false, _, r_is0 hs hw.ne (by simpa using hi), fun hf => (by cases hf), fun _ => ⟨rfl, rfl, rfl, rfl, rfl⟩⟩⟩
theorem sp_many (e : List UInt8) (h65 : d + 1 ≤ 64) : OkE L ts out (d + 1) d g 1 (20 * ts.length + 10) (n + 1) (fun x g z => R_Q203 x g z e) (manyS (n + 1) (d + 1) e ts out) := by
 simp only [manyS]
 by_cases hi : isS e ts = true
 ·rw [if_pos hi]
  have hlen := len_shift hi
  exact ⟨suf_shift hs, hw.shift hi, by omega, by omega, Q203_tree _ _ _ _ _ _ _ _ _ ⟨true, _, r_is1 hs hi, fun _ => ⟨none, _, _, _, r_shut1 hs hL hi (d := d) (by omega) out g false, rfl, rfl, rfl, rfl, rfl⟩, fun hf => absurd rfl hf⟩⟩
 ·rw [if_neg hi]
  have hi0 : isS e ts = false := by simpa using hi
  ·have h1 := (ih L hL hT ts hs hw out ho (d + 1) h65 g).expr
   cases hc : exprS n (d + 1) ts out with
   | no => rw [hc] at h1; simp only [PR.bind, OkE] at h1 ⊢; omega
   | er e' =>
    rw [hc] at h1
    obtain ⟨a, x', g', z', q⟩ := h1
    exact ⟨[], x', g', z', Q203_tree _ _ _ _ _ _ _ _ _ ⟨false, _, r_is0 hs hw.ne hi0, fun hf => (by cases hf), fun _ => ⟨some e', a, x', g', z', q, rfl, rfl, rfl, rfl⟩⟩⟩
   | ok a ts1 out1 =>
    rw [hc] at h1
    obtain ⟨s1, w1, l1, o1, q1⟩ := h1
    simp only [PR.bind]
    have h2 := (ih L hL hT ts1 s1 w1 out1 (by omega) d hd g).manyl e [a] (by have := suf_len s1; simp; omega) h65
    cases hl : manyL n (d + 1) e [a] ts1 out1 with
    | no => rw [hl] at h2; simp only [OkE] at h2 ⊢; omega
    | er e' =>
     rw [hl] at h2
     obtain ⟨b, x', g', z', q⟩ := h2
     exact ⟨b, x', g', z', Q203_tree _ _ _ _ _ _ _ _ _ ⟨false, _, r_is0 hs hw.ne hi0, fun hf => (by cases hf), fun _ => ⟨none, a, _, _, _, q1, q⟩⟩⟩
    | ok b ts2 out2 =>
     rw [hl] at h2
     obtain ⟨s2, w2, l2, o2, q2⟩ := h2
     exact ⟨s2, w2, by omega, by omega, Q203_tree _ _ _ _ _ _ _ _ _ ⟨false, _, r_is0 hs hw.ne hi0, fun hf => (by cases hf), fun _ => ⟨none, a, _, _, _, q1, q2⟩⟩⟩
theorem sp_manyl (e : List UInt8) (l : List Int) (hl : l.length + ts.length ≤ 1000000) (h65 : d + 1 ≤ 64) : OkE L ts out (d + 1) d g 1 (20 * ts.length) (n + 1) (At_Q203_1 e l) (manyL (n + 1) (d + 1) e l ts out) := by
 simp only [manyL]
 by_cases hi : isS [44] ts = true
 ·rw [if_pos hi]
  have hlen := len_shift hi
  ·have h1 := (ih L hL hT ts.tail (suf_shift hs) (hw.shift hi) out (by omega) (d + 1) h65 g).expr
   cases hc : exprS n (d + 1) ts.tail out with
   | no => rw [hc] at h1; simp only [PR.bind, OkE] at h1 ⊢; omega
   | er e' =>
    rw [hc] at h1
    obtain ⟨a, x', g', z', q⟩ := h1
    exact ⟨[], x', g', z', At_Q203_1_step _ _ _ _ _ _ _ _ _ _ ⟨true, _, r_may1 hs hL hi, fun _ => ⟨some e', a, x', g', z', q, rfl, rfl, rfl, rfl⟩, fun hf => absurd rfl hf⟩⟩
   | ok a ts1 out1 =>
    rw [hc] at h1
    obtain ⟨s1, w1, l1, o1, q1⟩ := h1
    simp only [PR.bind]
    have h2 := (ih L hL hT ts1 s1 w1 out1 (by omega) d hd g).manyl e (l ++ [a]) (by simp; omega) h65
    have hb : bigRow (l.length + 1) 8 := by simp only [bigRow]; omega
    cases hl2 : manyL n (d + 1) e (l ++ [a]) ts1 out1 with
    | no => rw [hl2] at h2; simp only [OkE] at h2 ⊢; omega
    | er e' =>
     rw [hl2] at h2
     obtain ⟨b, x', g', z', q⟩ := h2
     exact ⟨b, x', g', z', At_Q203_1_step _ _ _ _ _ _ _ _ _ _ ⟨true, _, r_may1 hs hL hi, fun _ => ⟨none, a, _, _, _, q1, hb, q⟩, fun hf => absurd rfl hf⟩⟩
    | ok b ts2 out2 =>
     rw [hl2] at h2
     obtain ⟨s2, w2, l2, o2, q2⟩ := h2
     exact ⟨s2, w2, by omega, by omega, At_Q203_1_step _ _ _ _ _ _ _ _ _ _ ⟨true, _, r_may1 hs hL hi, fun _ => ⟨none, a, _, _, _, q1, hb, q2⟩, fun hf => absurd rfl hf⟩⟩
 ·rw [if_neg hi]
  have hi0 : isS [44] ts = false := by simpa using hi
  simp only [needS]
  by_cases hi2 : isS e ts = true
  ·rw [if_pos hi2]
   have hlen := len_shift hi2
   exact ⟨suf_shift hs, hw.shift hi2, by omega, by omega, At_Q203_1_step _ _ _ _ _ _ _ _ _ _ ⟨false, _, r_may0 hs hw.ne hi0, fun hf => (by cases hf), fun _ => ⟨none, _, _, _, r_shut1 hs hL hi2 (d := d) (by omega) out g false, rfl, rfl, rfl, rfl, rfl⟩⟩⟩
  ·rw [if_neg hi2]
   obtain ⟨x', g', z', q⟩ := r_shut5 hs hw.ne (by simpa using hi2) (d + 1) out g false
   exact ⟨[], x', g', z', At_Q203_1_step _ _ _ _ _ _ _ _ _ _ ⟨false, _, r_may0 hs hw.ne hi0, fun hf => (by cases hf), fun _ => ⟨some 5, x', g', z', q, rfl, rfl, rfl, rfl⟩⟩⟩
theorem sp_manyn (e : List UInt8) (h65 : d + 1 ≤ 64) : ∀ b ts2 out2, manyS (n + 1) (d + 1) e ts out = .ok b ts2 out2 → b.length ≤ ts.length := by
 intro b ts2 out2 hb
 simp only [manyS] at hb
 by_cases hi : isS e ts = true
 ·rw [if_pos hi] at hb
  cases hb
  simp
 ·rw [if_neg hi] at hb
  have h1 := (ih L hL hT ts hs hw out ho (d + 1) h65 0).expr
  cases hc : exprS n (d + 1) ts out with
  | no => rw [hc] at hb; cases hb
  | er e' => rw [hc] at hb; cases hb
  | ok a ts1 out1 =>
   rw [hc] at hb h1
   obtain ⟨s1, w1, l1, o1, _⟩ := h1
   have := (ih L hL hT ts1 s1 w1 out1 (by omega) d hd 0).manyln e [a] h65 b ts2 out2 hb
   simp at this
   omega
theorem sp_manyln (e : List UInt8) (l : List Int) (h65 : d + 1 ≤ 64) : ∀ b ts2 out2, manyL (n + 1) (d + 1) e l ts out = .ok b ts2 out2 → b.length ≤ l.length + ts.length := by
 intro b ts2 out2 hb
 simp only [manyL] at hb
 by_cases hi : isS [44] ts = true
 ·rw [if_pos hi] at hb
  have hlen := len_shift hi
  have h1 := (ih L hL hT ts.tail (suf_shift hs) (hw.shift hi) out (by omega) (d + 1) h65 0).expr
  cases hc : exprS n (d + 1) ts.tail out with
  | no => rw [hc] at hb; cases hb
  | er e' => rw [hc] at hb; cases hb
  | ok a ts1 out1 =>
   rw [hc] at hb h1
   obtain ⟨s1, w1, l1, o1, _⟩ := h1
   have := (ih L hL hT ts1 s1 w1 out1 (by omega) d hd 0).manyln e (l ++ [a]) h65 b ts2 out2 hb
   simp at this
   omega
 ·rw [if_neg hi] at hb
  simp only [needS] at hb
  split at hb
  ·cases hb; omega
  ·cases hb
omit hs hw ho in
theorem sp_word {t : Token} {ts : List Token} (hs : (t :: ts) <:+ L) (hw : W (t :: ts)) (ho : out.length + (t :: ts).length ≤ 1000000) (hk : t.Kind = 3) : OkE L (t :: ts) out d d g 1 (20 * (t :: ts).length) (n + 1) R_Q201 (primS (n + 1) d (t :: ts) out) := by
 have hk0 : t.Kind ≠ 0 := by rw [hk]; decide
 have hs1 := suf_tail hs
 have hw1 := hw.tail hk0
 have q0 := r_name1 hs hL hk
 have hT1 : t.Text.length + 1 ≤ maxInt := by have := hT t (hs.mem (by simp)); simp only [maxInt]; omega
 simp only [List.length_cons] at ho
 simp only [primS, if_pos hk]
 by_cases h1 : t.Text = [116, 114, 117, 101]
 ·rw [if_pos h1]
  exact ⟨hs1, hw1, by simp, by simp; omega, Q201_tree _ _ _ _ _ _ _ _ ⟨none, _, _, q0, fun _ => ⟨_, _, _, _, r_num _ out _ g 3 1 (by omega), rfl, rfl, rfl, rfl, rfl⟩, fun hf => absurd h1 hf⟩⟩
 rw [if_neg h1]
 by_cases h2 : t.Text = [102, 97, 108, 115, 101]
 ·rw [if_pos h2]
  exact ⟨hs1, hw1, by simp, by simp; omega, Q201_tree _ _ _ _ _ _ _ _ ⟨none, _, _, q0, fun hf => absurd hf h1, fun _ => ⟨fun _ => ⟨_, _, _, _, r_num _ out _ g 3 0 (by omega), rfl, rfl, rfl, rfl, rfl⟩, fun hf => absurd h2 hf⟩⟩⟩
 rw [if_neg h2]
 by_cases hi : isS [46] ts = true
 ·rw [if_pos hi]
  have hlen := len_shift hi
  have hs2 := suf_shift hs1
  have hw2 := hw1.shift hi
  have q1 := r_may1 hs1 hL hi
  cases he : ts.tail with
  | nil => rw [he] at hw2; exact hw2.elim
  | cons u us =>
   rw [he] at hs2 hw2 q1 hlen
   simp only [List.length_cons] at hlen
   have hT2 : t.Text.length + 1 + u.Text.length ≤ maxInt := by have := hT t (hs.mem (by simp)); have := hT u (hs2.mem (by simp)); simp only [maxInt]; omega
   by_cases hu : u.Kind = 3
   ·simp only [if_pos hu]
    have hu0 : u.Kind ≠ 0 := by rw [hu]; decide
    exact ⟨suf_tail hs2, hw2.tail hu0, by simp; omega, by simp; omega, Q201_tree _ _ _ _ _ _ _ _ ⟨none, _, _, q0, fun hf => absurd hf h1, fun _ => ⟨fun hf => absurd hf h2, fun _ => ⟨true, _, q1, fun _ => ⟨hT1, none, _, _, r_name1 hs2 hL hu, hT2, _, _, _, _, r_put _ out _ g false 4 _ [] (by simp) (by omega), rfl, rfl, rfl, rfl, rfl⟩, fun hf => absurd rfl hf⟩⟩⟩⟩
   ·simp only [if_neg hu]
    exact ⟨0, _, _, _, Q201_tree _ _ _ _ _ _ _ _ ⟨none, _, _, q0, fun hf => absurd hf h1, fun _ => ⟨fun hf => absurd hf h2, fun _ => ⟨true, _, q1, fun _ => ⟨hT1, some 5, [], _, r_name0 hs2 hu [], rfl, rfl, rfl, rfl⟩, fun hf => absurd rfl hf⟩⟩⟩⟩
 rw [if_neg hi]
 have hi0 : isS [46] ts = false := by simpa using hi
 have q1 := r_may0 hs1 hw1.ne hi0
 simp only [openS]
 by_cases hp : isS [40] ts = true
 ·rw [if_pos hp]
  have hlen := len_shift hp
  by_cases h64 : 64 ≤ d
  ·rw [if_pos h64]
   obtain ⟨x', g', z', q⟩ := r_open6 hs1 hw1.ne hp h64 out g false
   exact ⟨0, x', g', z', Q201_tree _ _ _ _ _ _ _ _ ⟨none, _, _, q0, fun hf => absurd hf h1, fun _ => ⟨fun hf => absurd hf h2, fun _ => ⟨false, _, q1, fun hf => (by cases hf), fun _ => ⟨some 6, x', g', z', q, rfl, rfl, rfl, rfl⟩⟩⟩⟩⟩
  ·rw [if_neg h64]
   have q2 := r_open1 hs1 hL hp h64 out g false
   have h3 := (ih L hL hT ts.tail (suf_shift hs1) (hw1.shift hp) out (by omega) d hd g).many [41] (by omega)
   cases hb : manyS n (d + 1) [41] ts.tail out with
   | no => rw [hb] at h3; simp only [PR.bind, OkE, List.length_cons] at h3 ⊢; omega
   | er e =>
    rw [hb] at h3
    obtain ⟨b, x', g', z', q3⟩ := h3
    exact ⟨0, x', g', z', Q201_tree _ _ _ _ _ _ _ _ ⟨none, _, _, q0, fun hf => absurd hf h1, fun _ => ⟨fun hf => absurd hf h2, fun _ => ⟨false, _, q1, fun hf => (by cases hf), fun _ => ⟨none, _, _, _, q2, some e, b, x', g', z', q3, rfl, rfl, rfl, rfl⟩⟩⟩⟩⟩
   | ok b ts2 out2 =>
    rw [hb] at h3
    obtain ⟨s2, w2, l2, o2, q3⟩ := h3
    simp only [PR.bind]
    have hbl : b.length ≤ 1000000 := by
     have := (ih L hL hT ts.tail (suf_shift hs1) (hw1.shift hp) out (by omega) d hd g).manyn [41] (by omega) b ts2 out2 hb
     omega
    exact ⟨s2, w2, by simp; omega, by simp; omega, Q201_tree _ _ _ _ _ _ _ _ ⟨none, _, _, q0, fun hf => absurd hf h1, fun _ => ⟨fun hf => absurd hf h2, fun _ => ⟨false, _, q1, fun hf => (by cases hf), fun _ => ⟨none, _, _, _, q2, none, b, _, _, _, q3, _, _, _, _, r_put _ out2 _ g false 5 t.Text b hbl (by omega), rfl, rfl, rfl, rfl, rfl⟩⟩⟩⟩⟩
 ·rw [if_neg hp]
  obtain ⟨x', g', z', q⟩ := r_open5 hs1 hw1.ne (by simpa using hp) d out g false
  exact ⟨0, x', g', z', Q201_tree _ _ _ _ _ _ _ _ ⟨none, _, _, q0, fun hf => absurd hf h1, fun _ => ⟨fun hf => absurd hf h2, fun _ => ⟨false, _, q1, fun hf => (by cases hf), fun _ => ⟨some 5, x', g', z', q, rfl, rfl, rfl, rfl⟩⟩⟩⟩⟩
theorem sp_prim : OkE L ts out d d g 1 (20 * ts.length) (n + 1) R_Q180 (primS (n + 1) d ts out) := by
 cases ts with
 | nil => exact hw.elim
 | cons t ts =>
  by_cases hk : t.Kind = 3
  ·have h := sp_word ih hL hT hd g hs hw ho hk
   cases hc : primS (n + 1) d (t :: ts) out with
   | no => rw [hc] at h; exact h
   | er e =>
    rw [hc] at h
    obtain ⟨a, x', g', z', q⟩ := h
    exact ⟨a, x', g', z', Q180_tree _ _ _ _ _ _ _ _ ⟨t, _, r_now hs, fun _ => ⟨some e, a, x', g', z', q, rfl, rfl, rfl, rfl⟩, fun hf => absurd hk hf⟩⟩
   | ok a ts1 out1 =>
    rw [hc] at h
    obtain ⟨s1, w1, l1, o1, q⟩ := h
    exact ⟨s1, w1, l1, o1, Q180_tree _ _ _ _ _ _ _ _ ⟨t, _, r_now hs, fun _ => ⟨none, a, _, _, _, q, rfl, rfl, rfl, rfl, rfl⟩, fun hf => absurd hk hf⟩⟩
  ·have hI : I64 ((pt L (t :: ts)).pos + 1) := by simp only [pt, I64]; omega
   have ho1 : out.length ≤ 1000000 := by omega
   have hlc : (t :: ts).length = ts.length + 1 := rfl
   simp only [primS, if_neg hk]
   by_cases h1 : t.Kind = 1
   ·rw [if_pos h1]
    have hk0 : t.Kind ≠ 0 := by rw [h1]; decide
    refine ⟨suf_tail hs, hw.tail hk0, by simp, by simp; omega, Q180_tree _ _ _ _ _ _ _ _ ⟨t, _, r_now hs, fun hf => absurd hf hk, fun _ => ⟨fun _ => ⟨hI, _, _, _, _, r_num _ out _ g 1 t.Num ho1, rfl, rfl, ?_, rfl, rfl⟩, fun hf => absurd h1 hf⟩⟩⟩
    rw [pt_next hs]
    rfl
   rw [if_neg h1]
   by_cases h2 : t.Kind = 2
   ·rw [if_pos h2]
    have hk0 : t.Kind ≠ 0 := by rw [h2]; decide
    refine ⟨suf_tail hs, hw.tail hk0, by simp, by simp; omega, Q180_tree _ _ _ _ _ _ _ _ ⟨t, _, r_now hs, fun hf => absurd hf hk, fun _ => ⟨fun hf => absurd hf h1, fun _ => ⟨fun _ => ⟨hI, _, _, _, _, r_put _ out _ g false 2 [] [] (by simp) ho1, by omega, by simp, rfl, nd 2 [] [], by simp, rfl, rfl, ?_, rfl, rfl⟩, fun hf => absurd h2 hf⟩⟩⟩⟩
    rw [pt_next hs]
    simp [pe, nd]
   rw [if_neg h2]
   by_cases hi : isS [91] (t :: ts) = true
   ·rw [if_pos hi]
    simp only [openS, if_pos hi]
    have hlen := len_shift hi
    by_cases h64 : 64 ≤ d
    ·rw [if_pos h64]
     obtain ⟨x', g', z', q⟩ := r_open6 hs hw.ne hi h64 out g false
     exact ⟨0, x', g', z', Q180_tree _ _ _ _ _ _ _ _ ⟨t, _, r_now hs, fun hf => absurd hf hk, fun _ => ⟨fun hf => absurd hf h1, fun _ => ⟨fun hf => absurd hf h2, fun _ => ⟨true, _, r_is1 hs hi, fun _ => ⟨some 6, x', g', z', q, rfl, rfl, rfl, rfl⟩, fun hf => absurd rfl hf⟩⟩⟩⟩⟩
    ·rw [if_neg h64]
     have q2 := r_open1 hs hL hi h64 out g false
     have h3 := (ih L hL hT (t :: ts).tail (suf_shift hs) (hw.shift hi) out (by omega) d hd g).many [93] (by omega)
     cases hb : manyS n (d + 1) [93] (t :: ts).tail out with
     | no => rw [hb] at h3; simp only [PR.bind, OkE] at h3 ⊢; omega
     | er e =>
      rw [hb] at h3
      obtain ⟨b, x', g', z', q3⟩ := h3
      exact ⟨0, x', g', z', Q180_tree _ _ _ _ _ _ _ _ ⟨t, _, r_now hs, fun hf => absurd hf hk, fun _ => ⟨fun hf => absurd hf h1, fun _ => ⟨fun hf => absurd hf h2, fun _ => ⟨true, _, r_is1 hs hi, fun _ => ⟨none, _, _, _, q2, some e, b, x', g', z', q3, rfl, rfl, rfl, rfl⟩, fun hf => absurd rfl hf⟩⟩⟩⟩⟩
     | ok b ts2 out2 =>
      have hbl : b.length ≤ 1000000 := by
       have := (ih L hL hT (t :: ts).tail (suf_shift hs) (hw.shift hi) out (by omega) d hd 0).manyn [93] (by omega) b ts2 out2 hb
       omega
      rw [hb] at h3
      obtain ⟨s2, w2, l2, o2, q3⟩ := h3
      simp only [PR.bind]
      exact ⟨s2, w2, by omega, by simp only [List.length_append, List.length_cons, List.length_nil] at *; omega, Q180_tree _ _ _ _ _ _ _ _ ⟨t, _, r_now hs, fun hf => absurd hf hk, fun _ => ⟨fun hf => absurd hf h1, fun _ => ⟨fun hf => absurd hf h2, fun _ => ⟨true, _, r_is1 hs hi, fun _ => ⟨none, _, _, _, q2, none, b, _, _, _, q3, _, _, _, _, r_put _ out2 _ g false 6 [] b hbl (by omega), rfl, rfl, rfl, rfl, rfl⟩, fun hf => absurd rfl hf⟩⟩⟩⟩⟩
   ·rw [if_neg hi]
    have hi0 : isS [91] (t :: ts) = false := by simpa using hi
    simp only [openS]
    by_cases hp : isS [40] (t :: ts) = true
    ·rw [if_pos hp]
     have hlen := len_shift hp
     by_cases h64 : 64 ≤ d
     ·rw [if_pos h64]
      obtain ⟨x', g', z', q⟩ := r_open6 hs hw.ne hp h64 out g false
      exact ⟨0, x', g', z', Q180_tree _ _ _ _ _ _ _ _ ⟨t, _, r_now hs, fun hf => absurd hf hk, fun _ => ⟨fun hf => absurd hf h1, fun _ => ⟨fun hf => absurd hf h2, fun _ => ⟨false, _, r_is0 hs hw.ne hi0, fun hf => (by cases hf), fun _ => ⟨some 6, x', g', z', q, rfl, rfl, rfl, rfl⟩⟩⟩⟩⟩⟩
     ·rw [if_neg h64]
      have q2 := r_open1 hs hL hp h64 out g false
      have h3 := (ih L hL hT (t :: ts).tail (suf_shift hs) (hw.shift hp) out (by omega) (d + 1) (by omega) g).expr
      cases hb : exprS n (d + 1) (t :: ts).tail out with
      | no => rw [hb] at h3; simp only [PR.bind, OkE] at h3 ⊢; omega
      | er e =>
       rw [hb] at h3
       obtain ⟨b, x', g', z', q3⟩ := h3
       exact ⟨0, x', g', z', Q180_tree _ _ _ _ _ _ _ _ ⟨t, _, r_now hs, fun hf => absurd hf hk, fun _ => ⟨fun hf => absurd hf h1, fun _ => ⟨fun hf => absurd hf h2, fun _ => ⟨false, _, r_is0 hs hw.ne hi0, fun hf => (by cases hf), fun _ => ⟨none, _, _, _, q2, some e, b, x', g', z', q3, rfl, rfl, rfl, rfl⟩⟩⟩⟩⟩⟩
      | ok b ts2 out2 =>
       rw [hb] at h3
       obtain ⟨s2, w2, l2, o2, q3⟩ := h3
       simp only [PR.bind, needS]
       by_cases hi2 : isS [41] ts2 = true
       ·rw [if_pos hi2]
        have hlen2 := len_shift hi2
        exact ⟨suf_shift s2, w2.shift hi2, by omega, by omega, Q180_tree _ _ _ _ _ _ _ _ ⟨t, _, r_now hs, fun hf => absurd hf hk, fun _ => ⟨fun hf => absurd hf h1, fun _ => ⟨fun hf => absurd hf h2, fun _ => ⟨false, _, r_is0 hs hw.ne hi0, fun hf => (by cases hf), fun _ => ⟨none, _, _, _, q2, none, b, _, _, _, q3, none, _, _, _, r_shut1 s2 hL hi2 (d := d) (by omega) out2 g false, rfl, rfl, rfl, rfl, rfl⟩⟩⟩⟩⟩⟩
       ·rw [if_neg hi2]
        obtain ⟨x', g', z', q⟩ := r_shut5 s2 w2.ne (by simpa using hi2) (d + 1) out2 g false
        exact ⟨0, x', g', z', Q180_tree _ _ _ _ _ _ _ _ ⟨t, _, r_now hs, fun hf => absurd hf hk, fun _ => ⟨fun hf => absurd hf h1, fun _ => ⟨fun hf => absurd hf h2, fun _ => ⟨false, _, r_is0 hs hw.ne hi0, fun hf => (by cases hf), fun _ => ⟨none, _, _, _, q2, none, b, _, _, _, q3, some 5, x', g', z', q, rfl, rfl, rfl, rfl⟩⟩⟩⟩⟩⟩
    ·rw [if_neg hp]
     obtain ⟨x', g', z', q⟩ := r_open5 hs hw.ne (by simpa using hp) d out g false
     exact ⟨0, x', g', z', Q180_tree _ _ _ _ _ _ _ _ ⟨t, _, r_now hs, fun hf => absurd hf hk, fun _ => ⟨fun hf => absurd hf h1, fun _ => ⟨fun hf => absurd hf h2, fun _ => ⟨false, _, r_is0 hs hw.ne hi0, fun hf => (by cases hf), fun _ => ⟨some 5, x', g', z', q, rfl, rfl, rfl, rfl⟩⟩⟩⟩⟩⟩
end
theorem sp_all : ∀ n, SpA n
 | 0 => sp_zero
 | n + 1 => fun L hL hT ts hs hw out ho d hd g =>
  have ih := sp_all n
  ⟨sp_expr ih hL hT hs hw ho hd g, sp_chain ih hL hT hs hw ho hd g, sp_loop ih hL hT hs hw ho hd g, sp_un ih hL hT hs hw ho hd g, sp_post ih hL hT hs hw ho hd g, sp_postl ih hL hT hs hw ho hd g, sp_many ih hL hT hs hw ho hd g, sp_manyl ih hL hT hs hw ho hd g, sp_prim ih hL hT hs hw ho hd g, sp_manyn ih hL hT hs hw ho hd, sp_manyln ih hL hT hs hw ho hd⟩
theorem sp_Q37 : SP 37 = some (.code sc_Q37) := SPof_code rfl Tryz.func37 comp_Q37
def At_Q37_1 (b1 : PBlocks) (g2 : Nat) (z3 : Bool) (c0_4 : List Block) (g5 : Nat) (z6 : Bool) (o : Option Int) (b' : PBlocks) (b'_g2 : Nat) (b'_z2 : Bool) (c0_' : List Block) (c0_'_g0 : Nat) (c0_'_z0 : Bool) : Prop := ∀ (S : Sto) (e : Nat → PV) (f : Fr) (n0 t0 : Nat) (n1 t1 : Nat), ((getBox S n0 t0).map (List.take 4) = some [.list 5 (b1.exprs.tokens.l.map eToken) false, .int .i64 b1.exprs.tokens.pos, .sl 0 (.cell t0 2) 0 b1.exprs.out.length b1.exprs.out.length g2 false, .int .i64 b1.exprs.deep] ∧ getArr S n0 (.cell t0 2) = some ⟨5, b1.exprs.out.map eNode, z3, g2⟩) → ((getBox S n1 t1).map (List.take 1) = some [.sl 0 (.cell t1 0) 0 c0_4.length c0_4.length g5 false] ∧ getArr S n1 (.cell t1 0) = some ⟨4, c0_4.map eBlock, z6, g5⟩) → (n0 ≠ n1) → e 0 = .ptr (n0 + 1) t0 0 ∧ e 1 = .ptr (n1 + 1) t1 0 → k_Q37_1 SP (E SP (.loop b_Q37_1) ⟨e, f :: S⟩) = po 116 o (.v (.tup [])) (setArr (setBox (setArr (setBox S n0 t0 ([.list 5 (b'.exprs.tokens.l.map eToken) false, .int .i64 b'.exprs.tokens.pos, .sl 0 (.cell t0 2) 0 b'.exprs.out.length b'.exprs.out.length b'_g2 false, .int .i64 b'.exprs.deep] ++ ((getBox S n0 t0).getD []).drop 4)) n0 (.cell t0 2) ⟨5, b'.exprs.out.map eNode, b'_z2, b'_g2⟩) n1 t1 ([.sl 0 (.cell t1 0) 0 c0_'.length c0_'.length c0_'_g0 false] ++ ((getBox (setArr (setBox S n0 t0 ([.list 5 (b'.exprs.tokens.l.map eToken) false, .int .i64 b'.exprs.tokens.pos, .sl 0 (.cell t0 2) 0 b'.exprs.out.length b'.exprs.out.length b'_g2 false, .int .i64 b'.exprs.deep] ++ ((getBox S n0 t0).getD []).drop 4)) n0 (.cell t0 2) ⟨5, b'.exprs.out.map eNode, b'_z2, b'_g2⟩) n1 t1).getD []).drop 1)) n1 (.cell t1 0) ⟨4, c0_'.map eBlock, c0_'_z0, c0_'_g0⟩)
theorem At_Q37_1_step (b1 : PBlocks) (g2 : Nat) (z3 : Bool) (c0_4 : List Block) (g5 : Nat) (z6 : Bool) (o : Option Int) (b' : PBlocks) (b'_g2 : Nat) (b'_z2 : Bool) (c0_' : List Block) (c0_'_g0 : Nat) (c0_'_z0 : Bool) (T :
  ∃ (r7 : Token) (y8 : PTokens), (R_Q38 b1.exprs.tokens r7 y8) ∧
 ((r7.Kind = 0) →
  none = o ∧ (PBlocks.mk (PExprs.mk y8 b1.exprs.out b1.exprs.deep)) = b' ∧ g2 = b'_g2 ∧ z3 = b'_z2 ∧ c0_4 = c0_' ∧ g5 = c0_'_g0 ∧ z6 = c0_'_z0) ∧
 (¬ (r7.Kind = 0) →
  ∃ (o10 : Option Int) (r9 : Block) (y11 : PBlocks) (g12 : Nat) (z13 : Bool), (R_Q39 (PBlocks.mk (PExprs.mk y8 b1.exprs.out b1.exprs.deep)) g2 z3 false o10 r9 y11 g12 z13) ∧
  (match o10 with
  | none => ((bigRow (c0_4.length + 1) 72) ∧
   (c0_4.length < c0_4.length + 1) ∧
   (z6 = false) ∧
   ∃ (v15 : Block), ((c0_4 ++ [(Block.mk 0 [] [] [])])[c0_4.length]? = some v15) ∧
   At_Q37_1 y11 g12 z13 ((c0_4 ++ [(Block.mk 0 [] [] [])]).set c0_4.length r9) g5 z6 o b' b'_g2 b'_z2 c0_' c0_'_g0 c0_'_z0)
  | some e14 => (some e14 = o ∧ y11 = b' ∧ g12 = b'_g2 ∧ z13 = b'_z2 ∧ c0_4 = c0_' ∧ g5 = c0_'_g0 ∧ z6 = c0_'_z0)))) : At_Q37_1 b1 g2 z3 c0_4 g5 z6 o b' b'_g2 b'_z2 c0_' c0_'_g0 c0_'_z0 := by
 intro S e f n0 t0 n1 t1 H0 H1 Hn h
 obtain ⟨hb0, ha0⟩ := H0
 have hne := two_ne Hn
 obtain ⟨w0, hB0⟩ := take_some hb0
 have hn0 := o_getBox_lt hB0
 obtain ⟨hb1, ha1⟩ := H1
 obtain ⟨w1, hB1⟩ := take_some hb1
 have hn1 := o_getBox_lt hB1
 unfold k_Q37_1
 rw [E_loop]
 have F := U_Q37
 obtain ⟨r7, y8, q1, T⟩ := T
 simp only [R_Q38, le, List.cons_append, List.nil_append] at q1
 replace F := aa ha0 <| aa hne <| aa hB0 <| aa hn0 <| aa ha1 <| aa hB1 <| aa hn1 <| aa h <| aa q1 <| F
 by_cases c2 : r7.Kind = 0
 · replace T := T.1 c2
   obtain ⟨rfl, rfl, rfl, rfl, rfl, rfl, rfl⟩ := T
   exact fi (aa (eq_true c2) <| F)
 · replace T := T.2 c2
   obtain ⟨o10, r9, y11, g12, z13, q3, T⟩ := T
   simp only [R_Q39, le, List.cons_append, List.nil_append] at q3
   replace F := aa (eq_false c2) <| aa q3 <| F
   cases o10 with
   | none =>
     dsimp only at T
     obtain ⟨p4, p5, p6, v15, q7, T⟩ := T
     simp only [bigRow] at p4
     replace q7 := congrArg (Option.map eBlock) q7
     rw [← List.getElem?_map] at q7
     simp only [le, List.map_append, Option.map_some] at q7
     replace F := aa p4 <| aa p5 <| aa p6 <| aa q7 <| F
     try simp only [F, lw, lx, le, Nat.reduceMul, UInt8.reduceToNat, reduceIte, reduceCtorEq, Nat.reduceEqDiff, Nat.reduceAdd, Nat.reduceLeDiff, Nat.reduceSub, Nat.reduceLT, Int.reduceEq, Int.reduceLT, Int.reduceLE, Int.reduceToNat, Int.reduceAdd, Int.reduceSub, Int.reduceMul, Int.reduceNeg]
     refine (T _ _ _ n0 t0 n1 t1 ?_ ?_ Hn ?_).trans ?_
     all_goals exact fi F
   | some e14 =>
     dsimp only at T
     obtain ⟨rfl, rfl, rfl, rfl, rfl, rfl, rfl⟩ := T
     exact fi F
theorem Q37_tree (b : PBlocks) (b_g2 : Nat) (b_z2 : Bool) (c0_ : List Block) (c0__g0 : Nat) (c0__z0 : Bool) (o : Option Int) (b' : PBlocks) (b'_g2 : Nat) (b'_z2 : Bool) (c0_' : List Block) (c0_'_g0 : Nat) (c0_'_z0 : Bool) (T :
  At_Q37_1 b b_g2 b_z2 c0_ c0__g0 c0__z0 o b' b'_g2 b'_z2 c0_' c0_'_g0 c0_'_z0) : R_Q37 b b_g2 b_z2 c0_ c0__g0 c0__z0 o b' b'_g2 b'_z2 c0_' c0_'_g0 c0_'_z0 := by
 intro S n0 t0 n1 t1 H0 H1 Hn
 obtain ⟨hb0, ha0⟩ := H0
 have hne := two_ne Hn
 obtain ⟨w0, hB0⟩ := take_some hb0
 have hn0 := o_getBox_lt hB0
 obtain ⟨hb1, ha1⟩ := H1
 obtain ⟨w1, hB1⟩ := take_some hb1
 have hn1 := o_getBox_lt hB1
 rw [call_code sp_Q37 _ _ rfl]
 have F := U_Q37
 replace F := aa ha0 <| aa hne <| aa hB0 <| aa hn0 <| aa ha1 <| aa hB1 <| aa hn1 <| F
 try simp only [F, lw, lx, le, Nat.reduceMul, UInt8.reduceToNat, reduceIte, reduceCtorEq, Nat.reduceEqDiff, Nat.reduceAdd, Nat.reduceLeDiff, Nat.reduceSub, Nat.reduceLT, Int.reduceEq, Int.reduceLT, Int.reduceLE, Int.reduceToNat, Int.reduceAdd, Int.reduceSub, Int.reduceMul, Int.reduceNeg]
 refine (T _ _ _ n0 t0 n1 t1 ?_ ?_ Hn ?_).trans ?_
 all_goals exact fi F
theorem sp_Q40 : SP 40 = some (.code sc_Q40) := SPof_code rfl Tryz.func40 comp_Q40
theorem Q40_tree (b : PBlocks) (b_g2 : Nat) (b_z2 : Bool) (c0_ : PV) (o : Option Int) (b' : PBlocks) (b'_g2 : Nat) (b'_z2 : Bool) (c0_' : PV) (T :
  ∃ (o2 : Option Int) (r1 : List Node) (y3 : PExprs) (g4 : Nat) (z5 : Bool), (R_Q41 b.exprs b_g2 b_z2 o2 r1 y3 g4 z5) ∧
 (match o2 with
 | none => (∃ (r7 : Token) (y8 : PTokens), (R_Q38 y3.tokens r7 y8) ∧
  ((r7.Kind = 0) →
   none = o ∧ (PBlocks.mk (PExprs.mk y8 y3.out y3.deep)) = b' ∧ g4 = b'_g2 ∧ z5 = b'_z2 ∧ (.list 5 (r1.map eNode) false) = c0_') ∧
  (¬ (r7.Kind = 0) →
   ∃ (o9 : Option Int) (y10 : PTokens), (R_Q42 y8 5 o9 y10) ∧
   (match o9 with
   | none => (False )
   | some e11 => (some e11 = o ∧ (PBlocks.mk (PExprs.mk y10 y3.out y3.deep)) = b' ∧ g4 = b'_g2 ∧ z5 = b'_z2 ∧ (.list 5 (r1.map eNode) false) = c0_'))))
 | some e6 => (some e6 = o ∧ (PBlocks.mk y3) = b' ∧ g4 = b'_g2 ∧ z5 = b'_z2 ∧ c0_ = c0_'))) : R_Q40 b b_g2 b_z2 c0_ o b' b'_g2 b'_z2 c0_' := by
 intro S n0 t0 n1 t1 H0 H1 Hn
 obtain ⟨hb0, ha0⟩ := H0
 have hne := two_ne Hn
 obtain ⟨w0, hB0⟩ := take_some hb0
 have hn0 := o_getBox_lt hB0
 have hb1 := H1
 obtain ⟨w1, hB1⟩ := take_some hb1
 have hn1 := o_getBox_lt hB1
 rw [call_code sp_Q40 _ _ rfl]
 have F := U_Q40
 obtain ⟨o2, r1, y3, g4, z5, q1, T⟩ := T
 simp only [R_Q41, le, List.cons_append, List.nil_append] at q1
 replace F := aa ha0 <| aa hne <| aa hB0 <| aa hn0 <| aa hB1 <| aa hn1 <| aa q1 <| F
 cases o2 with
 | none =>
   dsimp only at T
   obtain ⟨r7, y8, q2, T⟩ := T
   simp only [R_Q38, le, List.cons_append, List.nil_append] at q2
   replace F := aa q2 <| F
   by_cases c3 : r7.Kind = 0
   · replace T := T.1 c3
     obtain ⟨rfl, rfl, rfl, rfl, rfl⟩ := T
     exact fi (aa (eq_true c3) <| F)
   · replace T := T.2 c3
     obtain ⟨o9, y10, q4, T⟩ := T
     simp only [R_Q42, le, List.cons_append, List.nil_append] at q4
     replace F := aa (eq_false c3) <| aa q4 <| F
     cases o9 with
     | none => exact False.elim T
     | some e11 =>
       dsimp only at T
       obtain ⟨rfl, rfl, rfl, rfl, rfl⟩ := T
       exact fi F
 | some e6 =>
   dsimp only at T
   obtain ⟨rfl, rfl, rfl, rfl, rfl⟩ := T
   exact fi F
theorem recB_nor {r : RecF} {ops post : Ac → EO} {ac : Ac} : recB r ops post (.nor ac) = recA r (ac.e r.t0 = .ptr 0 r.t0 0) post (ops (ac.put (some r.d) .junk)) := rfl
theorem recB_ret {r : RecF} {ops post : Ac → EO} {ac : Ac} : recB r ops post (.ret ac) = retOf r.res ac := rfl
theorem recA_nor {r : RecF} {b : Prop} {post : Ac → EO} {ac : Ac} : recA r b post (.nor ac) = recC r.res (post ac) := rfl
theorem recA_pan {r : RecF} {b : Prop} {post : Ac → EO} {v : PV} {S : Sto} : recA r b post (.pan v S) = recV r b v S := rfl
theorem recC_nor {res : List RX} {ac : Ac} : recC res (.nor ac) = retOf res ac := rfl
theorem recC_ret {res : List RX} {ac : Ac} : recC res (.ret ac) = retOf res ac := rfl
theorem recV_eq {r : RecF} {b : Prop} {t : Nat} {k : IntKind} {n : Int} {S : Sto} : recV r b (.iface t (.int k n)) S = if b ∧ t = r.T then (match storeP S 1 (.ptr 0 r.t0 0) (.int k n) with | some S => retOf r.res ⟨upd (fun _ => .junk) r.t0 (.ptr 0 r.t0 0), S⟩ | none => .bad) else .bad := rfl
def pb0 (L : List Token) : PBlocks := .mk (.mk (.mk L 0) [] 0)
theorem rd_no {s : List UInt8} {L : List Token} {e : Int} (hl : R_Q60 s L e) (he : ¬ e = 0) (c : PV) (hc : PV.dn c.up = some c) (g : Nat) (S : Sto) : call SP 36 [.str s, .func g [c]] S = .ok (.v (.int .i64 e)) S := by
 rw [call_rec sp_Q36 _ _ rfl]
 simp only [R_Q60] at hl
 have F := aa hl <| aa (eq_false he) <| aa @recB_nor <| aa @recB_ret <| aa @recA_nor <| aa @recA_pan <| aa @recC_nor <| aa @recC_ret <| aa @recV_eq <| rcv_Q36.eq_1
 exact fi F
theorem rd_Parse {s : List UInt8} {L : List Token} (hl : R_Q60 s L 0) {t g : Nat} {f : Fr} {S : Sto} (hb : f.box t = some [.sl 0 (.cell t 0) 0 0 0 g false]) (ha : f.arr (.cell t 0) = some ⟨4, [], false, g⟩) {o : Option Int} {b' : PBlocks} {bg : Nat} {bz : Bool} {l : List Block} {lg : Nat} {lz : Bool}
  (hc : R_Q37 (pb0 L) 0 false [] g false o b' bg bz l lg lz) :
  call SP 36 [.str s, .func 37 [.ptr 0 t 0]] (f :: S) = .ok (.v (.int .i64 (o.getD 0))) (setArr (setBox (f :: S) 0 t [.sl 0 (.cell t 0) 0 l.length l.length lg false]) 0 (.cell t 0) ⟨4, l.map eBlock, lz, lg⟩) := by
 rw [call_rec sp_Q36 _ _ rfl]
 simp only [R_Q60] at hl
 simp only [R_Q37, pb0, le, List.cons_append, List.nil_append] at hc
 have F := aa hl <| aa hb <| aa ha <| aa hc <| aa @recB_nor <| aa @recB_ret <| aa @recA_nor <| aa @recA_pan <| aa @recC_nor <| aa @recC_ret <| aa @recV_eq <| rcv_Q36.eq_1
 cases o with
 | none => exact fi F
 | some e => exact fi F
theorem sp_Q17 : SP 17 = some (.code sc_Q17) := SPof_code rfl Tryz.func17 comp_Q17
theorem sp_Q20 : SP 20 = some (.code sc_Q20) := SPof_code rfl Tryz.func20 comp_Q20
theorem r_Parse_no {s : List UInt8} {L : List Token} {e : Int} (hl : R_Q60 s L e) (he : ¬ e = 0) : R_Q17 s [] e := by
 intro S
 have h := fun S => rd_no hl he (.ptr 0 4 0) rfl 37 S
 rw [call_code sp_Q17 _ _ rfl]
 exact fi (aa h <| aa (eq_false he) <| U_Q17)
theorem r_Parse_of {s : List UInt8} {L : List Token} (hl : R_Q60 s L 0) {o : Option Int} {b' : PBlocks} {bg : Nat} {bz : Bool} {l : List Block} {lg : Nat} {lz : Bool}
  (hc : R_Q37 (pb0 L) 0 false [] 0 false o b' bg bz l lg lz) : R_Q17 s (if o.getD 0 = 0 then l else []) (o.getD 0) := by
 intro S
 have h := fun (f : Fr) (h1 : f.box 4 = some [.sl 0 (.cell 4 0) 0 0 0 0 false]) (h2 : f.arr (.cell 4 0) = some ⟨4, [], false, 0⟩) => rd_Parse (S := S) hl h1 h2 hc
 rw [call_code sp_Q17 _ _ rfl]
 by_cases he : o.getD 0 = 0
 ·exact fi (aa h <| aa he <| U_Q17)
 ·exact fi (aa h <| aa (eq_false he) <| U_Q17)
theorem rd_Expr {s : List UInt8} {L : List Token} (hl : R_Q60 s L 0) {t : Nat} {c c' : PV} {f : Fr} {S : Sto} (hb : f.box t = some [c]) {o : Option Int} {b' : PBlocks} {bg : Nat} {bz : Bool}
  (hc : R_Q40 (pb0 L) 0 false c o b' bg bz c') :
  call SP 36 [.str s, .func 40 [.ptr 0 t 0]] (f :: S) = .ok (.v (.int .i64 (o.getD 0))) (setBox (f :: S) 0 t [c']) := by
 rw [call_rec sp_Q36 _ _ rfl]
 simp only [R_Q60] at hl
 simp only [R_Q40, pb0, le, List.cons_append, List.nil_append] at hc
 have F := aa hl <| aa hb <| aa hc <| aa @recB_nor <| aa @recB_ret <| aa @recA_nor <| aa @recA_pan <| aa @recC_nor <| aa @recC_ret <| aa @recV_eq <| rcv_Q36.eq_1
 cases o with
 | none => exact fi F
 | some e => exact fi F
theorem r_Expr_ok {s : List UInt8} {L : List Token} (hl : R_Q60 s L 0) {b' : PBlocks} {bg : Nat} {bz : Bool} {l : List Node}
  (hc : R_Q40 (pb0 L) 0 false (.sl 0 (.cell 4 0) 0 0 0 0 false) none b' bg bz (.list 5 (l.map eNode) false)) : R_Q20 s l 0 := by
 intro S
 have h := fun (f : Fr) (h1 : f.box 4 = some [.sl 0 (.cell 4 0) 0 0 0 0 false]) => rd_Expr (S := S) hl h1 hc
 rw [call_code sp_Q20 _ _ rfl]
 exact fi (aa h <| aa (Option.getD_none (a := (0 : Int))) <| U_Q20)
theorem r_Expr_err {s : List UInt8} {L : List Token} (hl : R_Q60 s L 0) {b' : PBlocks} {bg : Nat} {bz : Bool} {e : Int} (he : ¬ e = 0) {c' : PV}
  (hc : R_Q40 (pb0 L) 0 false (.sl 0 (.cell 4 0) 0 0 0 0 false) (some e) b' bg bz c') : R_Q20 s [] e := by
 intro S
 have h := fun (f : Fr) (h1 : f.box 4 = some [.sl 0 (.cell 4 0) 0 0 0 0 false]) => rd_Expr (S := S) hl h1 hc
 rw [call_code sp_Q20 _ _ rfl]
 exact fi (aa h <| aa (Option.getD_some (a := e) (b := (0 : Int))) <| aa (eq_false he) <| U_Q20)
def wholeS (N : Nat) (ts : List Token) : PR (List Node) :=
 match exprS N 0 ts [] with
 | .ok _ ts out => .ok out ts []
 | .er e => .er e
 | .no => .no
def labS (lab : List UInt8 → Bool) : List Token → PR (List UInt8)
 | [] => .no
 | t :: ts => if t.Kind = 2 then (match t.Parts with | [p] => if p.Ref = true then .er 5 else if lab p.Text = true then .ok p.Text ts [] else .er 5 | _ => .er 5) else .er 5
def attrsS (N : Nat) : Nat → List Attr → List Token → PR (List Attr)
 | 0, _, _ => .no
 | _ + 1, _, [] => .no
 | n + 1, acc, t :: ts =>
  if isS [125] (t :: ts) = true then .ok acc ts []
  else if t.Kind = 3 then
   if acc.any (fun a => decide (a.Name = t.Text)) = true then .er 3
   else needS [61] ts fun ts => (wholeS N ts).bind fun nodes ts _ => attrsS N n (acc ++ [⟨t.Text, nodes⟩]) ts
  else .er 5
def bodyS (N : Nat) (ts : List Token) : PR (List Attr) := needS [123] ts fun ts => attrsS N N [] ts
def wordsS : List (List UInt8) := [[118, 97, 114, 105, 97, 98, 108, 101], [108, 111, 99, 97, 108, 115], [110, 111, 100, 101], [109, 111, 100, 117, 108, 101], [100, 101, 102, 105, 110, 101]]
def plainS (lab : List UInt8 → Bool) (N i : Nat) (ts : List Token) : PR Block :=
 if i = 1 then (bodyS N ts).bind fun as_ ts _ => .ok ⟨2, [], as_, []⟩ ts []
 else (labS lab ts).bind fun l ts _ => (bodyS N ts).bind fun as_ ts _ => .ok ⟨1 + (i : Int), l, as_, []⟩ ts []
def blkIn (lab : List UInt8 → Bool) (N : Nat) : List Token → PR Block
 | [] => .no
 | t :: ts => if t.Kind = 3 then (match idxS t.Text wordsS 0 with | none => .er 5 | some i => if i = 4 then .er 5 else plainS lab N i ts) else .er 5
def blksS (lab : List UInt8 → Bool) (N : Nat) : Nat → List Block → List Token → PR (List Block)
 | 0, _, _ => .no
 | n + 1, acc, ts => if isS [125] ts = true then .ok acc ts.tail [] else (blkIn lab N ts).bind fun b ts _ => blksS lab N n (acc ++ [b]) ts
def blkS (lab : List UInt8 → Bool) (N : Nat) : List Token → PR Block
 | [] => .no
 | t :: ts => if t.Kind = 3 then (match idxS t.Text wordsS 0 with | none => .er 5 | some i => if i = 4 then (labS lab ts).bind fun l ts _ => needS [123] ts fun ts => (blksS lab N N [] ts).bind fun bs ts _ => .ok ⟨5, l, [], bs⟩ ts [] else plainS lab N i ts) else .er 5
def confS (lab : List UInt8 → Bool) (N : Nat) : Nat → List Block → List Token → PR (List Block)
 | 0, _, _ => .no
 | _ + 1, _, [] => .no
 | n + 1, acc, t :: ts => if t.Kind = 0 then .ok acc (t :: ts) [] else (blkS lab N (t :: ts)).bind fun b ts _ => confS lab N n (acc ++ [b]) ts
structure TL (L : List Token) : Prop where
 len : L.length ≤ 1000000
 text : ∀ t ∈ L, t.Text.length ≤ 1000000
 part : ∀ t ∈ L, ∀ p ∈ t.Parts, p.Text.length ≤ 1000000
def pb (L ts : List Token) (out : List Node) : PBlocks := ⟨pe L ts out 0⟩
def OkP {α : Type} (L ts : List Token) (c : Nat) (R : PBlocks → Nat → Bool → Option Int → α → PBlocks → Nat → Bool → Prop) : PR α → Prop
 | .ok a ts' _ => ts' <:+ L ∧ W ts' ∧ ts'.length + c ≤ ts.length ∧ ∀ out g z, ∃ out' g' z', R (pb L ts out) g z none a (pb L ts' out') g' z'
 | .er e => ∀ out g z, ∃ a x' g' z', R (pb L ts out) g z (some e) a x' g' z'
 | .no => False
section
variable {L ts : List Token} (hT : TL L) (hs : ts <:+ L) (hw : W ts)
include hT hs hw
theorem r_whole {N : Nat} (hN : 20 * ts.length + 10 ≤ N) : match wholeS N ts with
  | .ok nodes ts' _ => ts' <:+ L ∧ W ts' ∧ ts'.length + 1 ≤ ts.length ∧ ∀ out g z, ∃ g' z', R_Q41 (pe L ts out 0) g z none nodes (pe L ts' nodes 0) g' z'
  | .er e => ∀ out g z, ∃ a x' g' z', R_Q41 (pe L ts out 0) g z (some e) a x' g' z'
  | .no => False := by
 have h := fun g => (sp_all N L hT.len hT.text ts hs hw [] (by have := suf_len hs; have := hT.len; simp; omega) 0 (by omega) g).expr
 simp only [wholeS]
 cases hc : exprS N 0 ts [] with
 | no => have := h 0; rw [hc] at this; simp only [OkE] at this; omega
 | er e =>
  intro out g z
  have := h (g + 1)
  rw [hc] at this
  obtain ⟨a, x', g', z', q⟩ := this
  exact ⟨[], x', g', z', Q41_tree _ _ _ _ _ _ _ _ ⟨some e, a, x', g', z', q, rfl, rfl, rfl, rfl⟩⟩
 | ok a ts1 out1 =>
  have h0 := h 0
  rw [hc] at h0
  obtain ⟨s1, w1, l1, o1, _⟩ := h0
  refine ⟨s1, w1, l1, fun out g z => ?_⟩
  have := h (g + 1)
  rw [hc] at this
  obtain ⟨_, _, _, _, q⟩ := this
  exact ⟨_, _, Q41_tree _ _ _ _ _ _ _ _ ⟨none, a, _, _, _, q, rfl, rfl, rfl, rfl, rfl⟩⟩
theorem r_lab {lab : List UInt8 → Bool} (hl : ∀ s, s.length ≤ 1000000 → R_Q81 s (lab s)) : OkP L ts 1 R_Q64 (labS lab ts) := by
 cases ts with
 | nil => exact hw.elim
 | cons t ts =>
  have hI : I64 ((pt L (t :: ts)).pos + 1) := by have := suf_len hs; have := hT.len; simp only [pt, I64]; omega
  simp only [labS]
  by_cases h2 : t.Kind = 2
  ·rw [if_pos h2]
   have hk0 : t.Kind ≠ 0 := by rw [h2]; decide
   match hp : t.Parts with
   | [] => exact fun out g z => ⟨[], _, _, _, Q64_tree _ _ _ _ _ _ _ _ ⟨t, _, r_now hs, fun _ => ⟨fun hf => absurd hf (by rw [hp]; decide), fun _ => ⟨_, _, r_fail _ _, rfl, rfl, rfl, rfl⟩⟩, fun hf => absurd h2 hf⟩⟩
   | p :: q :: l => exact fun out g z => ⟨[], _, _, _, Q64_tree _ _ _ _ _ _ _ _ ⟨t, _, r_now hs, fun _ => ⟨fun hf => absurd hf (by rw [hp]; simp only [List.length_cons]; omega), fun _ => ⟨_, _, r_fail _ _, rfl, rfl, rfl, rfl⟩⟩, fun hf => absurd h2 hf⟩⟩
   | [p] =>
    have h1 : ((t.Parts.length : Nat) : Int) = 1 := by rw [hp]; rfl
    have hg : t.Parts[0]? = some p := by rw [hp]; rfl
    simp only
    by_cases hr : p.Ref = true
    ·rw [if_pos hr]
     exact fun out g z => ⟨[], _, _, _, Q64_tree _ _ _ _ _ _ _ _ ⟨t, _, r_now hs, fun _ => ⟨fun _ => ⟨p, hg, fun _ => ⟨_, _, r_fail _ _, rfl, rfl, rfl, rfl⟩, fun hf => absurd hr hf⟩, fun hf => absurd h1 hf⟩, fun hf => absurd h2 hf⟩⟩
    ·rw [if_neg hr]
     have hlb := hl p.Text (hT.part t (hs.mem (by simp)) p (by rw [hp]; simp))
     by_cases hb : lab p.Text = true
     ·rw [if_pos hb]
      rw [hb] at hlb
      refine ⟨suf_tail hs, hw.tail hk0, by simp, fun out g z => ⟨out, g, z, Q64_tree _ _ _ _ _ _ _ _ ⟨t, _, r_now hs, fun _ => ⟨fun _ => ⟨p, hg, fun hf => absurd hf hr, fun _ => ⟨true, hlb, fun _ => ⟨hI, rfl, rfl, ?_, rfl, rfl⟩, fun hf => absurd rfl hf⟩⟩, fun hf => absurd h1 hf⟩, fun hf => absurd h2 hf⟩⟩⟩
      rw [pt_next hs]
      rfl
     ·rw [if_neg hb]
      rw [show lab p.Text = false by simpa using hb] at hlb
      exact fun out g z => ⟨[], _, _, _, Q64_tree _ _ _ _ _ _ _ _ ⟨t, _, r_now hs, fun _ => ⟨fun _ => ⟨p, hg, fun hf => absurd hf hr, fun _ => ⟨false, hlb, fun hf => (by cases hf), fun _ => ⟨_, _, r_fail _ _, rfl, rfl, rfl, rfl⟩⟩⟩, fun hf => absurd h1 hf⟩, fun hf => absurd h2 hf⟩⟩
  ·rw [if_neg h2]
   exact fun out g z => ⟨[], _, _, _, Q64_tree _ _ _ _ _ _ _ _ ⟨t, _, r_now hs, fun hf => absurd hf h2, fun _ => ⟨_, _, r_fail _ _, rfl, rfl, rfl, rfl⟩⟩⟩
end
theorem r_attrs_b {L : List Token} (hT : TL L) {N : Nat} (hN : 20 * L.length + 10 ≤ N) : ∀ (n : Nat) (acc : List Attr) (ts : List Token), ts <:+ L → W ts → ts.length < n → acc.length + ts.length ≤ 1000000 → OkP L ts 0 (At_Q65_1b acc) (attrsS N n acc ts)
 | 0, _, _, _, _, h, _ => absurd h (Nat.not_lt_zero _)
 | n + 1, acc, ts, hs, hw, hn, hal => by
  cases ts with
  | nil => exact hw.elim
  | cons t ts =>
   have hlc : (t :: ts).length = ts.length + 1 := rfl
   have hll := suf_len hs
   have hLl := hT.len
   simp only [attrsS]
   by_cases hi : isS [125] (t :: ts) = true
   ·rw [if_pos hi]
    have hw1 := hw.shift hi
    exact ⟨suf_tail hs, hw1, by omega, fun out g z => ⟨_, _, _, At_Q65_1b_step _ _ _ _ _ _ _ _ _ ⟨true, _, r_may1 hs hT.len hi, fun _ => ⟨rfl, rfl, rfl, rfl, rfl⟩, fun hf => absurd rfl hf⟩⟩⟩
   rw [if_neg hi]
   have q0 := r_may0 hs (by simp) (show isS [125] (t :: ts) = false by simpa using hi)
   by_cases hk : t.Kind = 3
   ·rw [if_pos hk]
    have hk0 : t.Kind ≠ 0 := by rw [hk]; decide
    have hcl : ∀ x, x ∈ acc → R_Q100 x t.Text (decide (x.Name = t.Text)) := fun x _ => Q100_tree _ _ _ rfl
    have hal : acc.length < 9223372036854775808 := by omega
    by_cases ha : acc.any (fun a => decide (a.Name = t.Text)) = true
    ·rw [if_pos ha]
     exact fun out g z => ⟨[], _, _, _, At_Q65_1b_step _ _ _ _ _ _ _ _ _ ⟨false, _, q0, fun hf => (by cases hf), fun _ => ⟨t, _, r_now hs, t, _, r_now hs, fun _ => ⟨hal, _, hcl, fun _ => ⟨_, _, r_fail _ _, rfl, rfl, rfl, rfl⟩, fun hf => absurd ha hf⟩, fun hf => absurd hk hf⟩⟩⟩
    rw [if_neg ha]
    have hs1 := suf_tail hs
    have hw1 := hw.tail hk0
    have q1 := r_name1 hs hT.len hk
    simp only [needS]
    by_cases he : isS [61] ts = true
    ·rw [if_pos he]
     have hlen := len_shift he
     have h2 := r_whole hT (suf_shift hs1) (hw1.shift he) (N := N) (by omega)
     cases hc : wholeS N ts.tail with
     | no => rw [hc] at h2; exact h2.elim
     | er e =>
      rw [hc] at h2
      intro out g z
      obtain ⟨a, x', g', z', q2⟩ := h2 out g z
      exact ⟨[], _, _, _, At_Q65_1b_step _ _ _ _ _ _ _ _ _ ⟨false, _, q0, fun hf => (by cases hf), fun _ => ⟨t, _, r_now hs, t, _, r_now hs, fun _ => ⟨hal, _, hcl, fun hf => absurd hf ha, fun _ => ⟨none, _, _, q1, none, _, r_need1 hs1 hT.len he, some e, a, x', g', z', q2, rfl, rfl, rfl, rfl⟩⟩, fun hf => absurd hk hf⟩⟩⟩
     | ok nodes ts2 out2 =>
      rw [hc] at h2
      obtain ⟨s2, w2, l2, q2⟩ := h2
      simp only [PR.bind]
      have h3 := r_attrs_b hT hN n (acc ++ [⟨t.Text, nodes⟩]) ts2 s2 w2 (by omega) (by simp; omega)
      have hbig : bigRow (acc.length + 1) 40 := by simp only [bigRow]; omega
      cases hl : attrsS N n (acc ++ [⟨t.Text, nodes⟩]) ts2 with
      | no => rw [hl] at h3; exact h3.elim
      | er e =>
       rw [hl] at h3
       intro out g z
       obtain ⟨g2, z2, q2⟩ := q2 out g z
       obtain ⟨a, x', g', z', q3⟩ := h3 nodes g2 z2
       exact ⟨a, x', g', z', At_Q65_1b_step _ _ _ _ _ _ _ _ _ ⟨false, _, q0, fun hf => (by cases hf), fun _ => ⟨t, _, r_now hs, t, _, r_now hs, fun _ => ⟨hal, _, hcl, fun hf => absurd hf ha, fun _ => ⟨none, _, _, q1, none, _, r_need1 hs1 hT.len he, none, nodes, _, g2, z2, q2, hbig, q3⟩⟩, fun hf => absurd hk hf⟩⟩⟩
      | ok a ts3 out3 =>
       rw [hl] at h3
       obtain ⟨s3, w3, l3, q3⟩ := h3
       refine ⟨s3, w3, by omega, fun out g z => ?_⟩
       obtain ⟨g2, z2, q2⟩ := q2 out g z
       obtain ⟨out', g', z', q3⟩ := q3 nodes g2 z2
       exact ⟨out', g', z', At_Q65_1b_step _ _ _ _ _ _ _ _ _ ⟨false, _, q0, fun hf => (by cases hf), fun _ => ⟨t, _, r_now hs, t, _, r_now hs, fun _ => ⟨hal, _, hcl, fun hf => absurd hf ha, fun _ => ⟨none, _, _, q1, none, _, r_need1 hs1 hT.len he, none, nodes, _, g2, z2, q2, hbig, q3⟩⟩, fun hf => absurd hk hf⟩⟩⟩
    ·rw [if_neg he]
     exact fun out g z => ⟨[], _, _, _, At_Q65_1b_step _ _ _ _ _ _ _ _ _ ⟨false, _, q0, fun hf => (by cases hf), fun _ => ⟨t, _, r_now hs, t, _, r_now hs, fun _ => ⟨hal, _, hcl, fun hf => absurd hf ha, fun _ => ⟨none, _, _, q1, some 5, _, r_need0 hs1 hw1.ne (by simpa using he), rfl, rfl, rfl, rfl⟩⟩, fun hf => absurd hk hf⟩⟩⟩
   ·rw [if_neg hk]
    exact fun out g z => ⟨[], _, _, _, At_Q65_1b_step _ _ _ _ _ _ _ _ _ ⟨false, _, q0, fun hf => (by cases hf), fun _ => ⟨t, _, r_now hs, t, _, r_now hs, fun hf => absurd hf hk, fun _ => ⟨some 5, [], _, r_name0 hs hk [], rfl, rfl, rfl, rfl⟩⟩⟩⟩
theorem r_attrs {L : List Token} (hT : TL L) {N : Nat} (hN : 20 * L.length + 10 ≤ N) (n : Nat) (acc : List Attr) (ts : List Token) (hs : ts <:+ L) (hw : W ts) (hn : ts.length < n + 1) (hal : acc.length + ts.length ≤ 1000000) : OkP L ts 0 (At_Q100 acc) (attrsS N (n + 1) acc ts) := by
 cases ts with
 | nil => exact hw.elim
 | cons t ts =>
  have hlc : (t :: ts).length = ts.length + 1 := rfl
  have hll := suf_len hs
  have hLl := hT.len
  simp only [attrsS]
  by_cases hi : isS [125] (t :: ts) = true
  ·rw [if_pos hi]
   have hw1 := hw.shift hi
   exact ⟨suf_tail hs, hw1, by omega, fun out g z => ⟨_, _, _, At_Q100_step _ _ _ _ _ _ _ _ _ ⟨true, _, r_may1 hs hT.len hi, fun _ => ⟨rfl, rfl, rfl, rfl, rfl⟩, fun hf => absurd rfl hf⟩⟩⟩
  rw [if_neg hi]
  have q0 := r_may0 hs (by simp) (show isS [125] (t :: ts) = false by simpa using hi)
  by_cases hk : t.Kind = 3
  ·rw [if_pos hk]
   have hk0 : t.Kind ≠ 0 := by rw [hk]; decide
   have hcl : ∀ x, x ∈ acc → R_Q100 x t.Text (decide (x.Name = t.Text)) := fun x _ => Q100_tree _ _ _ rfl
   have hal : acc.length < 9223372036854775808 := by omega
   by_cases ha : acc.any (fun a => decide (a.Name = t.Text)) = true
   ·rw [if_pos ha]
    exact fun out g z => ⟨[], _, _, _, At_Q100_step _ _ _ _ _ _ _ _ _ ⟨false, _, q0, fun hf => (by cases hf), fun _ => ⟨t, _, r_now hs, t, _, r_now hs, fun _ => ⟨hal, _, hcl, fun _ => ⟨_, _, r_fail _ _, rfl, rfl, rfl, rfl⟩, fun hf => absurd ha hf⟩, fun hf => absurd hk hf⟩⟩⟩
   rw [if_neg ha]
   have hs1 := suf_tail hs
   have hw1 := hw.tail hk0
   have q1 := r_name1 hs hT.len hk
   simp only [needS]
   by_cases he : isS [61] ts = true
   ·rw [if_pos he]
    have hlen := len_shift he
    have h2 := r_whole hT (suf_shift hs1) (hw1.shift he) (N := N) (by omega)
    cases hc : wholeS N ts.tail with
    | no => rw [hc] at h2; exact h2.elim
    | er e =>
     rw [hc] at h2
     intro out g z
     obtain ⟨a, x', g', z', q2⟩ := h2 out g z
     exact ⟨[], _, _, _, At_Q100_step _ _ _ _ _ _ _ _ _ ⟨false, _, q0, fun hf => (by cases hf), fun _ => ⟨t, _, r_now hs, t, _, r_now hs, fun _ => ⟨hal, _, hcl, fun hf => absurd hf ha, fun _ => ⟨none, _, _, q1, none, _, r_need1 hs1 hT.len he, some e, a, x', g', z', q2, rfl, rfl, rfl, rfl⟩⟩, fun hf => absurd hk hf⟩⟩⟩
    | ok nodes ts2 out2 =>
     rw [hc] at h2
     obtain ⟨s2, w2, l2, q2⟩ := h2
     simp only [PR.bind]
     have h3 := r_attrs_b hT hN n (acc ++ [⟨t.Text, nodes⟩]) ts2 s2 w2 (by omega) (by simp; omega)
     have hbig : bigRow (acc.length + 1) 40 := by simp only [bigRow]; omega
     cases hl : attrsS N n (acc ++ [⟨t.Text, nodes⟩]) ts2 with
     | no => rw [hl] at h3; exact h3.elim
     | er e =>
      rw [hl] at h3
      intro out g z
      obtain ⟨g2, z2, q2⟩ := q2 out g z
      obtain ⟨a, x', g', z', q3⟩ := h3 nodes g2 z2
      exact ⟨a, x', g', z', At_Q100_step _ _ _ _ _ _ _ _ _ ⟨false, _, q0, fun hf => (by cases hf), fun _ => ⟨t, _, r_now hs, t, _, r_now hs, fun _ => ⟨hal, _, hcl, fun hf => absurd hf ha, fun _ => ⟨none, _, _, q1, none, _, r_need1 hs1 hT.len he, none, nodes, _, g2, z2, q2, hbig, q3⟩⟩, fun hf => absurd hk hf⟩⟩⟩
     | ok a ts3 out3 =>
      rw [hl] at h3
      obtain ⟨s3, w3, l3, q3⟩ := h3
      refine ⟨s3, w3, by omega, fun out g z => ?_⟩
      obtain ⟨g2, z2, q2⟩ := q2 out g z
      obtain ⟨out', g', z', q3⟩ := q3 nodes g2 z2
      exact ⟨out', g', z', At_Q100_step _ _ _ _ _ _ _ _ _ ⟨false, _, q0, fun hf => (by cases hf), fun _ => ⟨t, _, r_now hs, t, _, r_now hs, fun _ => ⟨hal, _, hcl, fun hf => absurd hf ha, fun _ => ⟨none, _, _, q1, none, _, r_need1 hs1 hT.len he, none, nodes, _, g2, z2, q2, hbig, q3⟩⟩, fun hf => absurd hk hf⟩⟩⟩
   ·rw [if_neg he]
    exact fun out g z => ⟨[], _, _, _, At_Q100_step _ _ _ _ _ _ _ _ _ ⟨false, _, q0, fun hf => (by cases hf), fun _ => ⟨t, _, r_now hs, t, _, r_now hs, fun _ => ⟨hal, _, hcl, fun hf => absurd hf ha, fun _ => ⟨none, _, _, q1, some 5, _, r_need0 hs1 hw1.ne (by simpa using he), rfl, rfl, rfl, rfl⟩⟩, fun hf => absurd hk hf⟩⟩⟩
  ·rw [if_neg hk]
   exact fun out g z => ⟨[], _, _, _, At_Q100_step _ _ _ _ _ _ _ _ _ ⟨false, _, q0, fun hf => (by cases hf), fun _ => ⟨t, _, r_now hs, t, _, r_now hs, fun hf => absurd hf hk, fun _ => ⟨some 5, [], _, r_name0 hs hk [], rfl, rfl, rfl, rfl⟩⟩⟩⟩
theorem r_body {L ts : List Token} (hT : TL L) (hs : ts <:+ L) (hw : W ts) {N : Nat} (hN : 20 * L.length + 10 ≤ N) : OkP L ts 1 R_Q65 (bodyS N ts) := by
 simp only [bodyS, needS]
 have hll := suf_len hs
 have hLl := hT.len
 by_cases hi : isS [123] ts = true
 ·rw [if_pos hi]
  have hlen := len_shift hi
  obtain ⟨n, rfl⟩ : ∃ n, N = n + 1 := ⟨N - 1, by omega⟩
  have h1 := r_attrs hT hN n [] ts.tail (suf_shift hs) (hw.shift hi) (by omega) (by simp; omega)
  cases hc : attrsS (n + 1) (n + 1) [] ts.tail with
  | no => rw [hc] at h1; exact h1.elim
  | er e =>
   rw [hc] at h1
   intro out g z
   obtain ⟨a, x', g', z', q⟩ := h1 out g z
   exact ⟨a, x', g', z', Q65_tree _ _ _ _ _ _ _ _ ⟨none, _, r_need1 hs hT.len hi, q⟩⟩
  | ok a ts1 out1 =>
   rw [hc] at h1
   obtain ⟨s1, w1, l1, q⟩ := h1
   refine ⟨s1, w1, by omega, fun out g z => ?_⟩
   obtain ⟨out', g', z', q⟩ := q out g z
   exact ⟨out', g', z', Q65_tree _ _ _ _ _ _ _ _ ⟨none, _, r_need1 hs hT.len hi, q⟩⟩
 ·rw [if_neg hi]
  exact fun out g z => ⟨[], _, _, _, Q65_tree _ _ _ _ _ _ _ _ ⟨some 5, _, r_need0 hs hw.ne (by simpa using hi), rfl, rfl, rfl, rfl⟩⟩
theorem r_words : R_Q63 wordsS := Q63_tree _ rfl
theorem r_blkPlain {L : List Token} {t : Token} {ts : List Token} (hT : TL L) (hs : (t :: ts) <:+ L) (hw : W (t :: ts)) {lab : List UInt8 → Bool} (hl : ∀ s, s.length ≤ 1000000 → R_Q81 s (lab s)) {N : Nat} (hN : 20 * L.length + 10 ≤ N) (within : Bool) (hk : t.Kind = 3) {i : Nat} (hi : idxS t.Text wordsS 0 = some i) (h4 : i ≠ 4) (h5 : i ≤ 1000) :
  OkP L (t :: ts) 1 (fun b g z => R_Q39 b g z within) (plainS lab N i ts) := by
 have hk0 : t.Kind ≠ 0 := by rw [hk]; decide
 have hs1 := suf_tail hs
 have hw1 := hw.tail hk0
 have hlc : (t :: ts).length = ts.length + 1 := rfl
 have hI : I64 ((pt L (t :: ts)).pos + 1) := by have := suf_len hs; have := hT.len; simp only [pt, I64]; omega
 have e1 : ∀ out, PBlocks.mk (PExprs.mk (PTokens.mk (pt L (t :: ts)).l ((pt L (t :: ts)).pos + 1)) (pb L (t :: ts) out).exprs.out (pb L (t :: ts) out).exprs.deep) = pb L ts out := fun out => by rw [pt_next hs]; rfl
 have hix : R_slices_Index_string_string wordsS t.Text (i : Int) := by have := r_IndexS wordsS t.Text (by decide); rw [hi] at this; exact this
 have n0 : ¬ (1 + (i : Int)) = 0 := by omega
 have n5 : ¬ (1 + (i : Int)) = 5 := by omega
 have hI1 : I64 (1 + (i : Int)) := ⟨by omega, by omega⟩
 simp only [plainS]
 by_cases h1 : i = 1
 ·subst h1
  rw [if_pos rfl]
  have h2 := r_body hT hs1 hw1 hN
  cases hc : bodyS N ts with
  | no => rw [hc] at h2; exact h2.elim
  | er e =>
   rw [hc] at h2
   intro out g z
   obtain ⟨a, x', g', z', q⟩ := h2 out g z
   exact ⟨⟨0, [], [], []⟩, x', g', z', Q39_tree _ _ _ _ _ _ _ _ _ ⟨t, _, r_now hs, _, r_words, _, hix, hI1, fun _ => ⟨fun hf => absurd hf n0, fun _ => ⟨fun hf => absurd hf n5, fun _ => ⟨hI, fun _ => ⟨some e, a, x', g', z', (e1 out).symm ▸ q, rfl, rfl, rfl, rfl⟩, fun hf => absurd (by decide) hf⟩⟩⟩, fun hf => absurd hk hf⟩⟩
  | ok a ts1 out1 =>
   rw [hc] at h2
   obtain ⟨s1, w1, l1, q⟩ := h2
   refine ⟨s1, w1, by omega, fun out g z => ?_⟩
   obtain ⟨out', g', z', q⟩ := q out g z
   exact ⟨out', g', z', Q39_tree _ _ _ _ _ _ _ _ _ ⟨t, _, r_now hs, _, r_words, _, hix, hI1, fun _ => ⟨fun hf => absurd hf n0, fun _ => ⟨fun hf => absurd hf n5, fun _ => ⟨hI, fun _ => ⟨none, a, _, _, _, (e1 out).symm ▸ q, ⟨rfl, rfl, rfl, rfl, rfl⟩, rfl, rfl, rfl, rfl, rfl⟩, fun hf => absurd (by decide) hf⟩⟩⟩, fun hf => absurd hk hf⟩⟩
 ·rw [if_neg h1]
  have n2 : ¬ (1 + (i : Int)) = 2 := by omega
  have h2 := r_lab hT hs1 hw1 hl
  cases hc : labS lab ts with
  | no => rw [hc] at h2; exact h2.elim
  | er e =>
   rw [hc] at h2
   intro out g z
   obtain ⟨a, x', g', z', q⟩ := h2 out g z
   exact ⟨⟨0, [], [], []⟩, x', g', z', Q39_tree _ _ _ _ _ _ _ _ _ ⟨t, _, r_now hs, _, r_words, _, hix, hI1, fun _ => ⟨fun hf => absurd hf n0, fun _ => ⟨fun hf => absurd hf n5, fun _ => ⟨hI, fun hf => absurd hf n2, fun _ => ⟨some e, a, x', g', z', (e1 out).symm ▸ q, rfl, rfl, rfl, rfl⟩⟩⟩⟩, fun hf => absurd hk hf⟩⟩
  | ok l ts1 out1 =>
   rw [hc] at h2
   obtain ⟨s1, w1, l1, q1⟩ := h2
   simp only [PR.bind]
   have h3 := r_body hT s1 w1 hN
   cases hb : bodyS N ts1 with
   | no => rw [hb] at h3; exact h3.elim
   | er e =>
    rw [hb] at h3
    intro out g z
    obtain ⟨out1, g1, z1, q1⟩ := q1 out g z
    obtain ⟨a, x', g', z', q⟩ := h3 out1 g1 z1
    exact ⟨⟨0, [], [], []⟩, x', g', z', Q39_tree _ _ _ _ _ _ _ _ _ ⟨t, _, r_now hs, _, r_words, _, hix, hI1, fun _ => ⟨fun hf => absurd hf n0, fun _ => ⟨fun hf => absurd hf n5, fun _ => ⟨hI, fun hf => absurd hf n2, fun _ => ⟨none, l, _, _, _, (e1 out).symm ▸ q1, some e, a, x', g', z', q, rfl, rfl, rfl, rfl⟩⟩⟩⟩, fun hf => absurd hk hf⟩⟩
   | ok a ts2 out2 =>
    rw [hb] at h3
    obtain ⟨s2, w2, l2, q2⟩ := h3
    refine ⟨s2, w2, by omega, fun out g z => ?_⟩
    obtain ⟨out1, g1, z1, q1⟩ := q1 out g z
    obtain ⟨out', g', z', q2⟩ := q2 out1 g1 z1
    exact ⟨out', g', z', Q39_tree _ _ _ _ _ _ _ _ _ ⟨t, _, r_now hs, _, r_words, _, hix, hI1, fun _ => ⟨fun hf => absurd hf n0, fun _ => ⟨fun hf => absurd hf n5, fun _ => ⟨hI, fun hf => absurd hf n2, fun _ => ⟨none, l, _, _, _, (e1 out).symm ▸ q1, none, a, _, _, _, q2, ⟨rfl, rfl, rfl, rfl, rfl⟩, rfl, rfl, rfl, rfl, rfl⟩⟩⟩⟩, fun hf => absurd hk hf⟩⟩
theorem idxS_lt (s : List UInt8) : ∀ (l : List (List UInt8)) (i j : Nat), idxS s l i = some j → j < i + l.length
 | [], i, j, h => by cases h
 | v :: l, i, j, h => by
  simp only [idxS] at h
  split at h
  ·cases h; simp
  ·have := idxS_lt s l (i + 1) j h
   simp only [List.length_cons]
   omega
theorem r_blkNo {L : List Token} {t : Token} {ts : List Token} (hs : (t :: ts) <:+ L) (within : Bool) (h : t.Kind ≠ 3 ∨ idxS t.Text wordsS 0 = none ∨ (within = true ∧ idxS t.Text wordsS 0 = some 4)) : OkP L (t :: ts) 1 (fun b g z => R_Q39 b g z within) (.er 5) := by
 intro out g z
 have hix := r_IndexS wordsS t.Text (by decide)
 have hI1 : I64 (1 + idxI (idxS t.Text wordsS 0)) := by
  cases hi : idxS t.Text wordsS 0 with
  | none => exact ⟨by simp [idxI], by simp [idxI]⟩
  | some i => have := idxS_lt _ _ _ _ hi; simp [wordsS] at this; exact ⟨by simp only [idxI]; omega, by simp only [idxI]; omega⟩
 refine ⟨⟨0, [], [], []⟩, _, _, _, Q39_tree _ _ _ _ _ _ _ _ _ ⟨t, _, r_now hs, _, r_words, _, hix, hI1, fun hk => ?_, fun _ => ⟨_, _, r_fail _ _, rfl, rfl, rfl, rfl⟩⟩⟩
 rcases h with h | h | ⟨h1, h2⟩
 ·exact absurd hk h
 ·rw [h]
  exact ⟨fun _ => ⟨_, _, r_fail _ _, rfl, rfl, rfl, rfl⟩, fun hf => absurd rfl hf⟩
 ·rw [h2]
  exact ⟨fun hf => absurd hf (by decide), fun _ => ⟨fun _ => ⟨fun _ => ⟨_, _, r_fail _ _, rfl, rfl, rfl, rfl⟩, fun hf => absurd h1 hf⟩, fun hf => absurd (by decide) hf⟩⟩
theorem r_blkIn {L ts : List Token} (hT : TL L) (hs : ts <:+ L) (hw : W ts) {lab : List UInt8 → Bool} (hl : ∀ s, s.length ≤ 1000000 → R_Q81 s (lab s)) {N : Nat} (hN : 20 * L.length + 10 ≤ N) : OkP L ts 1 (fun b g z => R_Q39 b g z true) (blkIn lab N ts) := by
 cases ts with
 | nil => exact hw.elim
 | cons t ts =>
  simp only [blkIn]
  by_cases hk : t.Kind = 3
  ·rw [if_pos hk]
   cases hi : idxS t.Text wordsS 0 with
   | none => exact r_blkNo hs true (.inr (.inl hi))
   | some i =>
    simp only
    by_cases h4 : i = 4
    ·rw [if_pos h4]
     exact r_blkNo hs true (.inr (.inr ⟨rfl, h4 ▸ hi⟩))
    ·rw [if_neg h4]
     exact r_blkPlain hT hs hw hl hN true hk hi h4 (by have := idxS_lt _ _ _ _ hi; simp [wordsS] at this; omega)
  ·rw [if_neg hk]
   exact r_blkNo hs true (.inl hk)
theorem r_blks {L : List Token} (hT : TL L) {lab : List UInt8 → Bool} (hl : ∀ s, s.length ≤ 1000000 → R_Q81 s (lab s)) {N : Nat} (hN : 20 * L.length + 10 ≤ N) (r4 : Int) (r11 : List UInt8) (l20 : List Attr) (g21 g23 : Nat) : ∀ (n : Nat) (acc : List Block) (ts : List Token), ts <:+ L → W ts → ts.length < n → acc.length + ts.length ≤ 1000000 →
  OkP L ts 1 (fun b g z o (r : List Block) b' g' z' => At_Q39_1 r4 r11 l20 g21 acc g23 b g z o ⟨1 + r4, r11, l20, r⟩ b' g' z') (blksS lab N n acc ts)
 | 0, _, _, _, _, h, _ => absurd h (Nat.not_lt_zero _)
 | n + 1, acc, ts, hs, hw, hn, hal => by
  simp only [blksS]
  by_cases hi : isS [125] ts = true
  ·rw [if_pos hi]
   have hlen := len_shift hi
   exact ⟨suf_shift hs, hw.shift hi, by omega, fun out g z => ⟨_, _, _, At_Q39_1_step _ _ _ _ _ _ _ _ _ _ _ _ _ _ ⟨true, _, r_may1 hs hT.len hi, fun _ => ⟨rfl, rfl, rfl, rfl, rfl⟩, fun hf => absurd rfl hf⟩⟩⟩
  rw [if_neg hi]
  have q0 := r_may0 hs hw.ne (show isS [125] ts = false by simpa using hi)
  have h1 := r_blkIn hT hs hw hl hN
  have hbig : bigRow (acc.length + 1) 72 := by simp only [bigRow]; omega
  cases hc : blkIn lab N ts with
  | no => rw [hc] at h1; exact h1.elim
  | er e =>
   rw [hc] at h1
   intro out g z
   obtain ⟨a, x', g', z', q⟩ := h1 out g z
   exact ⟨[], x', g', z', At_Q39_1_step _ _ _ _ _ _ _ _ _ _ _ _ _ _ ⟨false, _, q0, fun hf => (by cases hf), fun _ => ⟨some e, a, x', g', z', q, rfl, rfl, rfl, rfl⟩⟩⟩
  | ok a ts1 out1 =>
   rw [hc] at h1
   obtain ⟨s1, w1, l1, q1⟩ := h1
   simp only [PR.bind]
   have h2 := r_blks hT hl hN r4 r11 l20 g21 g23 n (acc ++ [a]) ts1 s1 w1 (by omega) (by simp; omega)
   cases hb : blksS lab N n (acc ++ [a]) ts1 with
   | no => rw [hb] at h2; exact h2.elim
   | er e =>
    rw [hb] at h2
    intro out g z
    obtain ⟨out1, g1, z1, q1⟩ := q1 out g z
    obtain ⟨c, x', g', z', q⟩ := h2 out1 g1 z1
    exact ⟨c, x', g', z', At_Q39_1_step _ _ _ _ _ _ _ _ _ _ _ _ _ _ ⟨false, _, q0, fun hf => (by cases hf), fun _ => ⟨none, a, _, _, _, q1, hbig, q⟩⟩⟩
   | ok c ts2 out2 =>
    rw [hb] at h2
    obtain ⟨s2, w2, l2, q2⟩ := h2
    refine ⟨s2, w2, by omega, fun out g z => ?_⟩
    obtain ⟨out1, g1, z1, q1⟩ := q1 out g z
    obtain ⟨out', g', z', q2⟩ := q2 out1 g1 z1
    exact ⟨out', g', z', At_Q39_1_step _ _ _ _ _ _ _ _ _ _ _ _ _ _ ⟨false, _, q0, fun hf => (by cases hf), fun _ => ⟨none, a, _, _, _, q1, hbig, q2⟩⟩⟩
theorem r_blk {L ts : List Token} (hT : TL L) (hs : ts <:+ L) (hw : W ts) {lab : List UInt8 → Bool} (hl : ∀ s, s.length ≤ 1000000 → R_Q81 s (lab s)) {N : Nat} (hN : 20 * L.length + 10 ≤ N) : OkP L ts 1 (fun b g z => R_Q39 b g z false) (blkS lab N ts) := by
 cases ts with
 | nil => exact hw.elim
 | cons t ts =>
  simp only [blkS]
  by_cases hk : t.Kind = 3
  ·rw [if_pos hk]
   cases hi : idxS t.Text wordsS 0 with
   | none => exact r_blkNo hs false (.inr (.inl hi))
   | some i =>
    simp only
    by_cases h4 : i = 4
    ·subst h4
     rw [if_pos rfl]
     have hk0 : t.Kind ≠ 0 := by rw [hk]; decide
     have hs1 := suf_tail hs
     have hw1 := hw.tail hk0
     have hlc : (t :: ts).length = ts.length + 1 := rfl
     have hll := suf_len hs
     have hLl := hT.len
     have hI : I64 ((pt L (t :: ts)).pos + 1) := by simp only [pt, I64]; omega
     have e1 : ∀ out, PBlocks.mk (PExprs.mk (PTokens.mk (pt L (t :: ts)).l ((pt L (t :: ts)).pos + 1)) (pb L (t :: ts) out).exprs.out (pb L (t :: ts) out).exprs.deep) = pb L ts out := fun out => by rw [pt_next hs]; rfl
     have hix : R_slices_Index_string_string wordsS t.Text ((4 : Nat) : Int) := by have := r_IndexS wordsS t.Text (by decide); rw [hi] at this; exact this
     have n0 : ¬ (1 + ((4 : Nat) : Int)) = 0 := by decide
     have hI1 : I64 (1 + ((4 : Nat) : Int)) := ⟨by decide, by decide⟩
     have h2 := r_lab hT hs1 hw1 hl
     cases hc : labS lab ts with
     | no => rw [hc] at h2; exact h2.elim
     | er e =>
      rw [hc] at h2
      intro out g z
      obtain ⟨a, x', g', z', q⟩ := h2 out g z
      exact ⟨⟨0, [], [], []⟩, x', g', z', Q39_tree _ _ _ _ _ _ _ _ _ ⟨t, _, r_now hs, _, r_words, _, hix, hI1, fun _ => ⟨fun hf => absurd hf n0, fun _ => ⟨fun _ => ⟨fun hf => (by cases hf), fun _ => ⟨hI, some e, a, x', g', z', (e1 out).symm ▸ q, rfl, rfl, rfl, rfl⟩⟩, fun hf => absurd rfl hf⟩⟩, fun hf => absurd hk hf⟩⟩
     | ok l ts1 out1 =>
      rw [hc] at h2
      obtain ⟨s1, w1, l1, q1⟩ := h2
      simp only [PR.bind, needS]
      by_cases he : isS [123] ts1 = true
      ·rw [if_pos he]
       have hlen := len_shift he
       have h3 := r_blks hT hl hN ((4 : Nat) : Int) l [] 1 1 N [] ts1.tail (suf_shift s1) (w1.shift he) (by omega) (by simp; omega)
       cases hb : blksS lab N N [] ts1.tail with
       | no => rw [hb] at h3; exact h3.elim
       | er e =>
        rw [hb] at h3
        intro out g z
        obtain ⟨out1, g1, z1, q1⟩ := q1 out g z
        obtain ⟨a, x', g', z', q⟩ := h3 out1 g1 z1
        exact ⟨_, x', g', z', Q39_tree _ _ _ _ _ _ _ _ _ ⟨t, _, r_now hs, _, r_words, _, hix, hI1, fun _ => ⟨fun hf => absurd hf n0, fun _ => ⟨fun _ => ⟨fun hf => (by cases hf), fun _ => ⟨hI, none, l, _, _, _, (e1 out).symm ▸ q1, none, _, r_need1 s1 hT.len he, q⟩⟩, fun hf => absurd rfl hf⟩⟩, fun hf => absurd hk hf⟩⟩
       | ok bs ts2 out2 =>
        rw [hb] at h3
        obtain ⟨s2, w2, l2, q2⟩ := h3
        refine ⟨s2, w2, by omega, fun out g z => ?_⟩
        obtain ⟨out1, g1, z1, q1⟩ := q1 out g z
        obtain ⟨out', g', z', q2⟩ := q2 out1 g1 z1
        exact ⟨out', g', z', Q39_tree _ _ _ _ _ _ _ _ _ ⟨t, _, r_now hs, _, r_words, _, hix, hI1, fun _ => ⟨fun hf => absurd hf n0, fun _ => ⟨fun _ => ⟨fun hf => (by cases hf), fun _ => ⟨hI, none, l, _, _, _, (e1 out).symm ▸ q1, none, _, r_need1 s1 hT.len he, q2⟩⟩, fun hf => absurd rfl hf⟩⟩, fun hf => absurd hk hf⟩⟩
      ·rw [if_neg he]
       intro out g z
       obtain ⟨out1, g1, z1, q1⟩ := q1 out g z
       exact ⟨⟨0, [], [], []⟩, _, _, _, Q39_tree _ _ _ _ _ _ _ _ _ ⟨t, _, r_now hs, _, r_words, _, hix, hI1, fun _ => ⟨fun hf => absurd hf n0, fun _ => ⟨fun _ => ⟨fun hf => (by cases hf), fun _ => ⟨hI, none, l, _, _, _, (e1 out).symm ▸ q1, some 5, _, r_need0 s1 w1.ne (by simpa using he), rfl, rfl, rfl, rfl⟩⟩, fun hf => absurd rfl hf⟩⟩, fun hf => absurd hk hf⟩⟩
    ·rw [if_neg h4]
     exact r_blkPlain hT hs hw hl hN false hk hi h4 (by have := idxS_lt _ _ _ _ hi; simp [wordsS] at this; omega)
  ·rw [if_neg hk]
   exact r_blkNo hs false (.inl hk)
theorem r_conf {L : List Token} (hT : TL L) {lab : List UInt8 → Bool} (hl : ∀ s, s.length ≤ 1000000 → R_Q81 s (lab s)) {N : Nat} (hN : 20 * L.length + 10 ≤ N) : ∀ (n : Nat) (acc : List Block) (ts : List Token), ts <:+ L → W ts → ts.length < n → acc.length + ts.length ≤ 1000000 →
  match confS lab N n acc ts with
  | .ok l _ _ => ∀ out g z, ∃ b' bg bz, At_Q37_1 (pb L ts out) g z acc 0 false none b' bg bz l 0 false
  | .er e => ∀ out g z, ∃ b' bg bz l, At_Q37_1 (pb L ts out) g z acc 0 false (some e) b' bg bz l 0 false
  | .no => False
 | 0, _, _, _, _, h, _ => absurd h (Nat.not_lt_zero _)
 | n + 1, acc, [], hs, hw, hn, hal => hw.elim
 | n + 1, acc, t :: ts, hs, hw, hn, hal => by
  have hlc : (t :: ts).length = ts.length + 1 := rfl
  simp only [confS]
  by_cases hk : t.Kind = 0
  ·rw [if_pos hk]
   exact fun out g z => ⟨_, _, _, At_Q37_1_step _ _ _ _ _ _ _ _ _ _ _ _ _ ⟨t, _, r_now hs, fun _ => ⟨rfl, rfl, rfl, rfl, rfl, rfl, rfl⟩, fun hf => absurd hk hf⟩⟩
  rw [if_neg hk]
  have h1 := r_blk hT hs hw hl hN
  have hbig : bigRow (acc.length + 1) 72 := by simp only [bigRow]; omega
  cases hc : blkS lab N (t :: ts) with
  | no => rw [hc] at h1; exact h1.elim
  | er e =>
   rw [hc] at h1
   intro out g z
   obtain ⟨a, x', g', z', q⟩ := h1 out g z
   exact ⟨x', g', z', acc, At_Q37_1_step _ _ _ _ _ _ _ _ _ _ _ _ _ ⟨t, _, r_now hs, fun hf => absurd hf hk, fun _ => ⟨some e, a, x', g', z', q, rfl, rfl, rfl, rfl, rfl, rfl, rfl⟩⟩⟩
  | ok a ts1 out1 =>
   rw [hc] at h1
   obtain ⟨s1, w1, l1, q1⟩ := h1
   simp only [PR.bind]
   have h2 := r_conf hT hl hN n (acc ++ [a]) ts1 s1 w1 (by omega) (by simp; omega)
   cases hb : confS lab N n (acc ++ [a]) ts1 with
   | no => rw [hb] at h2; exact h2.elim
   | er e =>
    rw [hb] at h2
    intro out g z
    obtain ⟨out1, g1, z1, q1⟩ := q1 out g z
    obtain ⟨b', bg, bz, l, q⟩ := h2 out1 g1 z1
    exact ⟨b', bg, bz, l, At_Q37_1_step _ _ _ _ _ _ _ _ _ _ _ _ _ ⟨t, _, r_now hs, fun hf => absurd hf hk, fun _ => ⟨none, a, _, _, _, q1, hbig, by omega, rfl, ⟨0, [], [], []⟩, by simp, by rw [set_lastP]; exact q⟩⟩⟩
   | ok l ts2 out2 =>
    rw [hb] at h2
    intro out g z
    obtain ⟨out1, g1, z1, q1⟩ := q1 out g z
    obtain ⟨b', bg, bz, q⟩ := h2 out1 g1 z1
    exact ⟨b', bg, bz, At_Q37_1_step _ _ _ _ _ _ _ _ _ _ _ _ _ ⟨t, _, r_now hs, fun hf => absurd hf hk, fun _ => ⟨none, a, _, _, _, q1, hbig, by omega, rfl, ⟨0, [], [], []⟩, by simp, by rw [set_lastP]; exact q⟩⟩⟩
theorem pb0_eq (L : List Token) : pb0 L = pb L L [] := by simp [pb0, pb, pe, pt]
def confT (lab : List UInt8 → Bool) (L : List Token) : PR (List Block) := confS lab (20 * L.length + 10) (L.length + 1) [] L
def exprT (L : List Token) : PR (List Node) := (wholeS (20 * L.length + 10) L).bind fun nodes ts _ => match ts with | [] => .no | t :: _ => if t.Kind = 0 then .ok nodes ts [] else .er 5
theorem r_ParseT {s : List UInt8} {L : List Token} (hx : R_Q60 s L 0) (hT : TL L) (hw : W L) {lab : List UInt8 → Bool} (hl : ∀ s, s.length ≤ 1000000 → R_Q81 s (lab s)) :
  match confT lab L with
  | .ok l _ _ => R_Q17 s l 0
  | .er e => e ≠ 0 → R_Q17 s [] e
  | .no => False := by
 have h := r_conf hT hl (Nat.le_refl _) (L.length + 1) [] L (List.suffix_refl L) hw (by omega) (by have := hT.len; simp; omega)
 unfold confT
 cases hc : confS lab (20 * L.length + 10) (L.length + 1) [] L with
 | no => rw [hc] at h; exact h.elim
 | er e =>
  rw [hc] at h
  intro he
  obtain ⟨b', bg, bz, l, q⟩ := h [] 0 false
  have := r_Parse_of hx (o := some e) (by rw [pb0_eq]; exact Q37_tree _ _ _ _ _ _ _ _ _ _ _ _ _ q)
  rw [Option.getD_some, if_neg he] at this
  exact this
 | ok l ts out =>
  rw [hc] at h
  obtain ⟨b', bg, bz, q⟩ := h [] 0 false
  exact r_Parse_of hx (o := none) (by rw [pb0_eq]; exact Q37_tree _ _ _ _ _ _ _ _ _ _ _ _ _ q)
theorem r_ExprT {s : List UInt8} {L : List Token} (hx : R_Q60 s L 0) (hT : TL L) (hw : W L) :
  match exprT L with
  | .ok l _ _ => R_Q20 s l 0
  | .er e => e ≠ 0 → R_Q20 s [] e
  | .no => False := by
 have h := r_whole hT (List.suffix_refl L) hw (Nat.le_refl _)
 unfold exprT
 cases hc : wholeS (20 * L.length + 10) L with
 | no => rw [hc] at h; exact h.elim
 | er e =>
  rw [hc] at h
  intro he
  obtain ⟨a, x', g', z', q⟩ := h [] 0 false
  exact r_Expr_err hx he (by rw [pb0_eq]; exact Q40_tree _ _ _ _ _ _ _ _ _ ⟨some e, a, x', g', z', q, rfl, rfl, rfl, rfl, rfl⟩)
 | ok nodes ts out =>
  rw [hc] at h
  obtain ⟨s1, w1, l1, q⟩ := h
  obtain ⟨g', z', q⟩ := q [] 0 false
  simp only [PR.bind]
  cases ts with
  | nil => exact w1.elim
  | cons t ts =>
   simp only
   by_cases hk : t.Kind = 0
   ·rw [if_pos hk]
    exact r_Expr_ok hx (by rw [pb0_eq]; exact Q40_tree _ _ _ _ _ _ _ _ _ ⟨none, nodes, _, g', z', q, t, _, r_now s1, fun _ => ⟨rfl, rfl, rfl, rfl, rfl⟩, fun hf => absurd hk hf⟩)
   ·rw [if_neg hk]
    intro he
    exact r_Expr_err hx he (by rw [pb0_eq]; exact Q40_tree _ _ _ _ _ _ _ _ _ ⟨none, nodes, _, g', z', q, t, _, r_now s1, fun hf => absurd hf hk, fun _ => ⟨_, _, r_fail _ _, rfl, rfl, rfl, rfl, rfl⟩⟩)
theorem in125 : inC [2, 3] 125 = false := by
 rw [← Bool.not_eq_true, inC23]
 decide
theorem dotted_split {s : List UInt8} (h : dottedS s = true) : ∃ x y, s = x ++ 46 :: y ∧ nameS x = true ∧ nameS y = true := by
 unfold dottedS at h
 by_cases hm : (46 : UInt8) ∈ s
 ·obtain ⟨u, v, rfl, hu⟩ := splitAt_first 46 s hm
  rw [cut_split 46 u v hu] at h
  simp only [Bool.and_eq_true] at h
  exact ⟨u, v, rfl, h.1.2, h.2⟩
 ·rw [cut_none 46 s hm] at h
  cases h
theorem ref_split {t : List UInt8} (h : (refS t).2 = true) : ∃ x y v, t = x ++ 46 :: (y ++ 125 :: v) ∧ nameS x = true ∧ nameS y = true ∧ (refS t).1 = x ++ 46 :: y := by
 unfold refS at h ⊢
 by_cases hm : (125 : UInt8) ∈ t
 ·obtain ⟨u, v, rfl, hu⟩ := splitAt_first 125 t hm
  rw [cut_split 125 u v hu] at h ⊢
  obtain ⟨x, y, rfl, hx, hy⟩ := dotted_split (by simpa using h)
  exact ⟨x, y, v, by simp, hx, hy, rfl⟩
 ·rw [cut_none 125 t hm] at h
  cases h
theorem drop_mid (b : UInt8) (x w : List UInt8) : (x ++ b :: w).drop (x.length + 1) = w := by rw [List.drop_append]; simp
def ones : List Int := [123, 125, 91, 93, 40, 41, 61, 44, 46, 43, 45, 42, 47, 37, 60, 62, 33, 63, 58]
def twos : List (List UInt8) := [[61, 61], [33, 61], [60, 61], [62, 61], [38, 38], [124, 124]]
def sign1 (a : UInt8) : List UInt8 := if ((a.toNat : Nat) : Int) ∈ ones then [a] else []
def sign2 (a b : UInt8) : List UInt8 := if [a, b] ∈ twos then [a, b] else sign1 a
def signS : List UInt8 → List UInt8
 | [] => []
 | [a] => sign1 a
 | a :: b :: _ => sign2 a b
def TI (t : LText) : Prop := t.left.length ≤ 6000 ∧ 0 ≤ t.pos ∧ t.pos + (t.left.length : Nat) ≤ 6000
def takeT (t : LText) (n : Nat) : LText := ⟨t.left.drop n, t.pos + n⟩
theorem TI.take {t : LText} (h : TI t) {n : Nat} (hn : n ≤ t.left.length) : TI (takeT t n) := by
 obtain ⟨h1, h2, h3⟩ := h
 refine ⟨?_, ?_, ?_⟩ <;> simp only [takeT, List.length_drop] <;> omega
theorem r_take {t : LText} (h : TI t) {n : Nat} (hn : n ≤ t.left.length) : R_Q135 t n (t.left.take n) (takeT t n) := by
 apply Q135_tree
 obtain ⟨h1, h2, h3⟩ := h
 rw [Int.toNat_natCast]
 refine ⟨by omega, hn, by omega, hn, ⟨by omega, by omega⟩, rfl, ?_⟩
 rw [List.take_of_length_le (by simp)]
 rfl
theorem r_word {t : LText} (h : TI t) (cl : List Int) (hc : cl.length < 1000000) : R_Q134 t cl (t.left.takeWhile (inC cl)) (takeT t (spanS cl t.left)) := by
 apply Q134_tree
 have h1 := h.1
 refine ⟨_, r_span t.left cl hc (by omega), _, _, r_take h (spanS_le cl t.left), ?_, rfl⟩
 exact take_while_len _ _
theorem r_name (t : LTokens) (g : Nat) (z : Bool) (h : TI t.text) : R_Q138 t g z (Token.mk 3 (t.text.left.takeWhile (inC [2, 3])) 0 [] 0) (nameS (t.text.left.takeWhile (inC [2, 3]))) (LTokens.mk (takeT t.text (spanS [2, 3] t.text.left)) t.out) g z := by
 apply Q138_tree
 have h1 := h.1
 have h2 := spanS_le [2, 3] t.text.left
 exact ⟨_, _, r_word h [2, 3] (by decide), _, r_lexName _ (by unfold spanS at h2; omega), rfl, rfl, rfl, rfl, rfl⟩
theorem has_ones (a : UInt8) : Lib.contains [123, 125, 91, 93, 40, 41, 61, 44, 46, 43, 45, 42, 47, 37, 60, 62, 33, 63, 58] [a] = decide (((a.toNat : Nat) : Int) ∈ ones) := by
 unfold Lib.contains
 rw [index1]
 refine decide_eq_decide.2 ?_
 have e : a ∈ ([123, 125, 91, 93, 40, 41, 61, 44, 46, 43, 45, 42, 47, 37, 60, 62, 33, 63, 58] : List UInt8) ↔ ((a.toNat : Nat) : Int) ∈ ones := by
  simp only [ones, List.mem_cons, List.not_mem_nil, or_false, ← UInt8.toNat_inj, UInt8.reduceToNat]
  omega
 rw [← e]
 split
 ·rename_i h; simp only [h, iff_true]; omega
 ·rename_i h; simp only [h, iff_false]; omega
theorem r_sign (t : LTokens) (g : Nat) (z : Bool) (h : TI t.text) (hne : t.text.left ≠ []) : R_Q136 t g z (if signS t.text.left = [] then Token.mk 0 [] 0 [] 0 else Token.mk 4 (signS t.text.left) 0 [] 0) (decide (signS t.text.left ≠ [])) (if signS t.text.left = [] then t else LTokens.mk (takeT t.text (signS t.text.left).length) t.out) g z := by
 apply Q136_tree
 obtain ⟨⟨left, pos⟩, out⟩ := t
 have h1 := h.1
 simp only at h1 hne ⊢
 match left, hne, h1, h with
 | [a], hne, h1, h =>
  have hn : ¬ [a] ∈ twos := by unfold twos; simp
  have e0 : (if (([a].length : Nat) : Int) < 2 then (([a].length : Nat) : Int) else 2).toNat = 1 := by simp
  rw [e0]
  simp only [List.take_succ_cons, List.take_zero, List.length_cons, List.length_nil]
  refine ⟨by simp, by omega, _, r_containsS twos [a] (by decide), fun hq => absurd (of_decide_eq_true hq) hn, fun _ => ⟨by omega, _, r_SContains _ [a] (by simp), fun hq => ?_, fun hq => ?_⟩⟩
  ·rw [has_ones] at hq
   have hq := of_decide_eq_true hq
   have hs : signS [a] = [a] := by simp [signS, sign1, hq]
   rw [hs]
   exact ⟨_, _, r_take h (n := 1) (by simp), by simp⟩
  ·rw [has_ones] at hq
   have hq : ¬ ((a.toNat : Nat) : Int) ∈ ones := fun e => hq (decide_eq_true e)
   have hs : signS [a] = [] := by simp [signS, sign1, hq]
   rw [hs]
   simp
 | a :: b :: u, hne, h1, h =>
  have e0 : (if (((a :: b :: u).length : Nat) : Int) < 2 then (((a :: b :: u).length : Nat) : Int) else 2) = 2 := by
   rw [if_neg]; simp only [List.length_cons]; omega
  have e00 : (2 : Int).toNat = 2 := rfl
  rw [e0, e00]
  simp only [List.take_succ_cons, List.take_zero, List.length_cons, List.length_nil]
  refine ⟨by simp, by omega, _, r_containsS twos [a, b] (by decide), fun hq => ?_, fun hn => ⟨by omega, _, r_SContains _ [a] (by simp), fun hq => ?_, fun hq => ?_⟩⟩
  ·have hq := of_decide_eq_true hq
   have hs : signS (a :: b :: u) = [a, b] := by simp [signS, sign2, hq]
   rw [hs]
   exact ⟨_, _, r_take h (n := 2) (by simp), by simp⟩
  ·have hn : ¬ [a, b] ∈ twos := fun e => hn (decide_eq_true e)
   rw [has_ones] at hq
   have hq := of_decide_eq_true hq
   have hs : signS (a :: b :: u) = [a] := by simp [signS, sign2, sign1, hn, hq]
   rw [hs]
   exact ⟨_, _, r_take h (n := 1) (by simp), by simp⟩
  ·have hn : ¬ [a, b] ∈ twos := fun e => hn (decide_eq_true e)
   rw [has_ones] at hq
   have hq : ¬ ((a.toNat : Nat) : Int) ∈ ones := fun e => hq (decide_eq_true e)
   have hs : signS (a :: b :: u) = [] := by simp [signS, sign2, sign1, hn, hq]
   rw [hs]
   simp
def escS (x : UInt8) : Option UInt8 := if x = 34 ∨ x = 92 ∨ x = 36 then some x else if x = 110 then some 10 else none
theorem r_IndexByte (s : List UInt8) (c : UInt8) : R_strings_IndexByte s c (Lib.indexByte s c) := fun S => call_ext sp_strings_IndexByte S (by simp [indexX])
theorem r_escaped (y x : UInt8) (u : List UInt8) : R_Q164 (y :: x :: u) ((escS x).getD 0) (escS x).isSome := by
 apply Q164_tree
 refine ⟨fun h => absurd h (by simp; omega), fun _ => ⟨x, rfl, _, r_IndexByte _ x, ?_⟩⟩
 unfold escS
 by_cases h1 : x = 34
 ·subst h1
  exact ⟨fun h => absurd h (by decide), fun _ => ⟨by decide, 34, rfl, rfl, rfl⟩⟩
 ·by_cases h2 : x = 92
  ·subst h2
   exact ⟨fun h => absurd h (by decide), fun _ => ⟨by decide, 92, rfl, rfl, rfl⟩⟩
  ·by_cases h3 : x = 36
   ·subst h3
    exact ⟨fun h => absurd h (by decide), fun _ => ⟨by decide, 36, rfl, rfl, rfl⟩⟩
   ·by_cases h4 : x = 110
    ·subst h4
     exact ⟨fun h => absurd h (by decide), fun _ => ⟨by decide, 10, rfl, rfl, rfl⟩⟩
    ·have e : Lib.indexByte [34, 92, 36, 110] x = -1 := by
      have := Lib.indexByte_ge [34, 92, 36, 110] x
      simp [Lib.indexByte, Ne.symm h1, Ne.symm h2, Ne.symm h3, Ne.symm h4]
     rw [e]
     simp [h1, h2, h3, h4]
def joinP (l : List Part) (b : List UInt8) : List Part := l ++ (if b = [] then [] else [Part.mk false b])
def okP (l : List Part) : Prop := l = [] ∨ ∃ l0 q, l = l0 ++ [Part.mk true q]
theorem set_last {α : Type} (l : List α) (x y : α) : (l ++ [x]).set l.length y = l ++ [y] := by simp
theorem r_plain (l : List Part) (b : List UInt8) (c : UInt8) (g : Nat) (hl : okP l) (h1 : l.length ≤ 10000) (h2 : b.length ≤ 10000) : R_Q165 (joinP l b) g false c (joinP l (b ++ [c])) g false := by
 apply Q165_tree
 have hb : b ++ [c] ≠ [] := by simp
 by_cases e : b = []
 ·subst e
  have e1 : joinP l [] = l := by simp [joinP]
  have e2 : joinP l ([] ++ [c]) = l ++ [Part.mk false [c]] := by simp [joinP]
  have e3 : (((l.length : Nat) : Int) + 1 - 1).toNat = l.length := by omega
  have big : bigRow (l.length + 1) 24 := ⟨by omega, by omega, by decide⟩
  rw [e1, e2, e3]
  refine ⟨fun h => ⟨big, ⟨by omega, by omega⟩, ⟨by omega, by omega⟩, by omega, by omega, Part.mk false [], by simp, by simp [maxInt], by omega, by omega, rfl, ?_, rfl, rfl⟩, fun h => ?_⟩
  ·rw [set_last]; rfl
  ·rcases hl with rfl | ⟨l0, q, rfl⟩
   ·exact absurd rfl h
   ·have e4 : ((((l0 ++ [Part.mk true q]).length : Nat) : Int) - 1).toNat = l0.length := by simp
    have hlen : (l0 ++ [Part.mk true q]).length = l0.length + 1 := by simp
    rw [e4]
    refine ⟨⟨by omega, by omega⟩, by omega, by omega, Part.mk true q, by simp, fun _ => ⟨big, ⟨by omega, by omega⟩, ⟨by omega, by omega⟩, by omega, by omega, Part.mk false [], by simp, by simp [maxInt], by omega, by omega, rfl, ?_, rfl, rfl⟩, fun h => absurd rfl h⟩
    rw [set_last]; rfl
 ·have e1 : joinP l b = l ++ [Part.mk false b] := by simp [joinP, e]
  have e2 : joinP l (b ++ [c]) = l ++ [Part.mk false (b ++ [c])] := by simp [joinP]
  have hlen : (l ++ [Part.mk false b]).length = l.length + 1 := by simp
  have e3 : ((((l ++ [Part.mk false b]).length : Nat) : Int) - 1).toNat = l.length := by omega
  rw [e1, e2]
  refine ⟨fun h => by omega, fun h => ?_⟩
  rw [e3]
  refine ⟨⟨by omega, by omega⟩, by omega, by omega, Part.mk false b, by simp, fun h => by simp at h, fun _ => ⟨⟨by omega, by omega⟩, by omega, by omega, by simp only [maxInt]; omega, by omega, by omega, rfl, ?_, rfl, rfl⟩⟩
  rw [set_last]
inductive Qx : List UInt8 → List Part → List UInt8 → Option (List Part × Nat) → Prop
 | nil (l b) : Qx [] l b none
 | shut (t l b) : Qx (34 :: t) l b (some (joinP l b, 1))
 | low (c t l b) (h1 : c ≠ 34) (h2 : c.toNat < 32) : Qx (c :: t) l b none
 | esc (x y t l b r) (h1 : escS x = some y) (h : Qx t l (b ++ [y]) r) : Qx (92 :: x :: t) l b (r.map fun q => (q.1, q.2 + 2))
 | esc0 (l b) : Qx [92] l b none
 | escbad (x t l b) (h1 : escS x = none) : Qx (92 :: x :: t) l b none
 | ref (t l b r) (h1 : (refS t).2 = true) (h : Qx (t.drop ((refS t).1.length + 1)) (joinP l b ++ [Part.mk true (refS t).1]) [] r) : Qx (36 :: 123 :: t) l b (r.map fun q => (q.1, q.2 + (3 + (refS t).1.length)))
 | refbad (t l b) (h1 : (refS t).2 = false) : Qx (36 :: 123 :: t) l b none
 | plain (c t l b r) (h1 : c ≠ 34) (h2 : ¬ c.toNat < 32) (h3 : c ≠ 92) (h4 : c = 36 → t.head? ≠ some 123) (h : Qx t l (b ++ [c]) r) : Qx (c :: t) l b (r.map fun q => (q.1, q.2 + 1))
theorem refS_len {t : List UInt8} (h : (refS t).2 = true) : (refS t).1.length + 1 ≤ t.length := by
 obtain ⟨x, y, v, e, _, _, e2⟩ := ref_split h
 rw [e2, e]
 simp
 omega
theorem cls4 (c : UInt8) : clsS c = 4 ↔ c = 34 := by
 have e : c = 34 ↔ c.toNat = 34 := by rw [← UInt8.toNat_inj]; rfl
 rw [e]
 unfold clsS
 repeat' split
 all_goals (first | omega | (constructor <;> intro h <;> first | omega | exact absurd h (by decide)))
theorem takeT_takeT (t : LText) (a b : Nat) : takeT (takeT t a) b = takeT t (a + b) := by
 unfold takeT
 simp only [LText.mk.injEq, List.drop_drop]
 exact ⟨trivial, by omega⟩
theorem head_left {t : LText} {c : UInt8} {u : List UInt8} (h : t.left = c :: u) : ¬ t.left = [] ∧ t.left[0]? = some c := by rw [h]; simp
def QOut (gp : Nat) (lt : LTokens) (g : Nat) (z : Bool) (l : List Part) (b : List UInt8) : Option (List Part × Nat) → Prop
 | none => ∃ t' : LTokens, t'.out = lt.out ∧ At_Q140_1 0 [] 0 0 [] 0 (joinP l b) gp false lt g z (Token.mk 0 [] 0 [] 0) false t' g z
 | some (ps, n) => n ≤ lt.text.left.length ∧ At_Q140_1 0 [] 0 0 [] 0 (joinP l b) gp false lt g z (Token.mk 2 [] 0 ps 0) true (LTokens.mk (takeT lt.text n) lt.out) g z
theorem joinP_len (l : List Part) (b : List UInt8) : (joinP l b).length ≤ l.length + 1 := by
 unfold joinP
 split <;> simp
theorem joinP_ref (l : List Part) (q : List UInt8) : joinP (l ++ [Part.mk true q]) [] = l ++ [Part.mk true q] := by simp [joinP]
theorem QOut.next {gp : Nat} {lt : LTokens} {g : Nat} {z : Bool} {l : List Part} {b : List UInt8} {l2 : List Part} {b2 : List UInt8} {m : Nat} (hm : m ≤ lt.text.left.length)
  (step : ∀ ra rb t' , At_Q140_1 0 [] 0 0 [] 0 (joinP l2 b2) gp false (LTokens.mk (takeT lt.text m) lt.out) g z ra rb t' g z → At_Q140_1 0 [] 0 0 [] 0 (joinP l b) gp false lt g z ra rb t' g z) {r : Option (List Part × Nat)}
  (h : QOut gp (LTokens.mk (takeT lt.text m) lt.out) g z l2 b2 r) : QOut gp lt g z l b (r.map fun q => (q.1, q.2 + m)) := by
 cases r with
 | none => obtain ⟨t', ho, h⟩ := h; exact ⟨t', ho, step _ _ _ h⟩
 | some q =>
  obtain ⟨ps, n⟩ := q
  obtain ⟨h1, h2⟩ := h
  simp only [takeT, List.length_drop] at h1
  refine ⟨by omega, ?_⟩
  have := step _ _ _ h2
  simp only [takeT_takeT] at this
  rw [Nat.add_comm] at this
  exact this
theorem r_quoted_loop {t : List UInt8} {l : List Part} {b : List UInt8} {r : Option (List Part × Nat)} (h : Qx t l b r) : ∀ (gp : Nat) (lt : LTokens) (g : Nat) (z : Bool), lt.text.left = t → TI lt.text → okP l → l.length + t.length ≤ 7000 → b.length + t.length ≤ 7000 → QOut gp lt g z l b r := by
 induction h with
 | nil l b =>
  intro gp lt g z e hT hl h1 h2
  refine ⟨lt, rfl, ?_⟩
  apply At_Q140_1_step
  exact ⟨fun _ => ⟨rfl, rfl, rfl, rfl, rfl⟩, fun h => absurd e h⟩
 | shut t l b =>
  intro gp lt g z e hT hl h1 h2
  obtain ⟨e1, e2⟩ := head_left e
  have hlen : 1 ≤ lt.text.left.length := by rw [e]; simp
  refine ⟨hlen, ?_⟩
  apply At_Q140_1_step
  exact ⟨fun h => absurd h e1, fun _ => ⟨34, e2, _, r_class 34, fun _ => ⟨_, _, r_take hT hlen, rfl, rfl, rfl, rfl, rfl⟩, fun h => absurd ((cls4 34).2 rfl) h⟩⟩
 | low c t l b c1 c2 =>
  intro gp lt g z e hT hl h1 h2
  obtain ⟨e1, e2⟩ := head_left e
  refine ⟨lt, rfl, ?_⟩
  apply At_Q140_1_step
  exact ⟨fun h => absurd h e1, fun _ => ⟨c, e2, _, r_class c, fun h => absurd ((cls4 c).1 h) c1, fun _ => ⟨fun _ => ⟨rfl, rfl, rfl, rfl, rfl⟩, fun h => absurd (by omega) h⟩⟩⟩
 | esc x y t l b r hx _ ih =>
  intro gp lt g z e hT hl h1 h2
  obtain ⟨e1, e2⟩ := head_left e
  simp only [List.length_cons] at h1 h2
  have hlen : 2 ≤ lt.text.left.length := by rw [e]; simp
  refine QOut.next (m := 2) hlen (fun ra rb t' hA => ?_) (ih gp _ g z (by simp only [takeT, e]; rfl) (hT.take hlen) hl (by omega) (by simp; omega))
  apply At_Q140_1_step
  refine ⟨fun h => absurd h e1, fun _ => ⟨92, e2, _, r_class 92, fun h => absurd ((cls4 92).1 h) (by decide), fun _ => ⟨fun h => absurd h (by decide), fun _ => ⟨fun _ => ?_, fun h => absurd (by decide) h⟩⟩⟩⟩
  rw [e]
  refine ⟨_, _, r_escaped 92 x t, fun _ => ⟨_, _, _, ?_, _, _, r_take hT hlen, hA⟩, fun h => absurd (by rw [hx]; rfl) h⟩
  rw [hx]
  exact r_plain l b y gp hl (by omega) (by omega)
 | esc0 l b =>
  intro gp lt g z e hT hl h1 h2
  obtain ⟨e1, e2⟩ := head_left e
  refine ⟨lt, rfl, ?_⟩
  apply At_Q140_1_step
  refine ⟨fun h => absurd h e1, fun _ => ⟨92, e2, _, r_class 92, fun h => absurd ((cls4 92).1 h) (by decide), fun _ => ⟨fun h => absurd h (by decide), fun _ => ⟨fun _ => ?_, fun h => absurd (by decide) h⟩⟩⟩⟩
  rw [e]
  refine ⟨0, false, ?_, fun h => (by cases h), fun _ => ⟨rfl, rfl, rfl, rfl, rfl⟩⟩
  apply Q164_tree
  exact ⟨fun _ => ⟨rfl, rfl⟩, fun h => absurd (by decide) h⟩
 | escbad x t l b hx =>
  intro gp lt g z e hT hl h1 h2
  obtain ⟨e1, e2⟩ := head_left e
  refine ⟨lt, rfl, ?_⟩
  apply At_Q140_1_step
  refine ⟨fun h => absurd h e1, fun _ => ⟨92, e2, _, r_class 92, fun h => absurd ((cls4 92).1 h) (by decide), fun _ => ⟨fun h => absurd h (by decide), fun _ => ⟨fun _ => ?_, fun h => absurd (by decide) h⟩⟩⟩⟩
  rw [e]
  exact ⟨_, _, r_escaped 92 x t, fun h => (by rw [hx] at h; cases h), fun _ => ⟨rfl, rfl, rfl, rfl, rfl⟩⟩
 | ref t l b r hr _ ih =>
  intro gp lt g z e hT hl h1 h2
  obtain ⟨e1, e2⟩ := head_left e
  simp only [List.length_cons] at h1 h2
  have hrl := refS_len hr
  have hj := joinP_len l b
  have hlen : 3 + (refS t).1.length ≤ lt.text.left.length := by rw [e]; simp only [List.length_cons]; omega
  have hT1 := hT.1
  refine QOut.next (m := 3 + (refS t).1.length) hlen (fun ra rb t' hA => ?_) (ih gp _ g z ?_ (hT.take hlen) (.inr ⟨_, _, rfl⟩) ?_ ?_)
  ·apply At_Q140_1_step
   have hR : R_Q166 lt.text.left (refS t).1 (refS t).2 := by
    have := r_reference lt.text.left (by omega) (by omega)
    rw [e] at this ⊢
    exact this
   have hTake : R_Q135 lt.text (3 + (((refS t).1.length : Nat) : Int)) (lt.text.left.take (3 + (refS t).1.length)) (takeT lt.text (3 + (refS t).1.length)) := by
    have := r_take hT hlen
    rw [Int.natCast_add] at this
    exact this
   rw [joinP_ref] at hA
   exact ⟨fun h => absurd h e1, fun _ => ⟨36, e2, _, r_class 36, fun h => absurd ((cls4 36).1 h) (by decide), fun _ => ⟨fun h => absurd h (by decide), fun _ => ⟨fun h => absurd h (by decide), fun _ => ⟨_, r_HasPrefix _ _, fun _ => ⟨_, _, hR, fun _ => ⟨⟨by omega, by omega, by decide⟩, ⟨by omega, by omega⟩, _, _, hTake, hA⟩, fun h => absurd hr h⟩, fun h => absurd (by rw [e]; simp [Lib.hasPrefix]) h⟩⟩⟩⟩⟩
  ·simp only [takeT, e]
   rw [show 3 + (refS t).1.length = ((refS t).1.length + 1) + 1 + 1 by omega]
   rfl
  ·simp; omega
  ·simp; omega
 | refbad t l b hr =>
  intro gp lt g z e hT hl h1 h2
  obtain ⟨e1, e2⟩ := head_left e
  have hT1 := hT.1
  refine ⟨lt, rfl, ?_⟩
  apply At_Q140_1_step
  have hR : R_Q166 lt.text.left (refS t).1 (refS t).2 := by
   have := r_reference lt.text.left (by rw [e]; simp) (by omega)
   rw [e] at this ⊢
   exact this
  exact ⟨fun h => absurd h e1, fun _ => ⟨36, e2, _, r_class 36, fun h => absurd ((cls4 36).1 h) (by decide), fun _ => ⟨fun h => absurd h (by decide), fun _ => ⟨fun h => absurd h (by decide), fun _ => ⟨_, r_HasPrefix _ _, fun _ => ⟨_, _, hR, fun h => (by rw [hr] at h; cases h), fun _ => ⟨rfl, rfl, rfl, rfl, rfl⟩⟩, fun h => absurd (by rw [e]; simp [Lib.hasPrefix]) h⟩⟩⟩⟩⟩
 | plain c t l b r c1 c2 c3 c4 _ ih =>
  intro gp lt g z e hT hl h1 h2
  obtain ⟨e1, e2⟩ := head_left e
  simp only [List.length_cons] at h1 h2
  have hlen : 1 ≤ lt.text.left.length := by rw [e]; simp
  have hp : ¬ Lib.hasPrefix lt.text.left [36, 123] = true := by
   rw [e]
   unfold Lib.hasPrefix
   intro h
   cases t with
   | nil => simp at h
   | cons x t =>
    simp at h
    exact c4 h.1.symm (by rw [← h.2]; rfl)
  have hc3 : ¬ ((c.toNat : Nat) : Int) = 92 := fun h => c3 (by apply UInt8.toNat_inj.1; exact Int.ofNat.inj h)
  refine QOut.next (m := 1) hlen (fun ra rb t' hA => ?_) (ih gp _ g z (by simp only [takeT, e]; rfl) (hT.take hlen) hl (by omega) (by simp; omega))
  apply At_Q140_1_step
  exact ⟨fun h => absurd h e1, fun _ => ⟨c, e2, _, r_class c, fun h => absurd ((cls4 c).1 h) c1, fun _ => ⟨fun h => absurd h (by omega), fun _ => ⟨fun h => absurd h hc3, fun _ => ⟨_, r_HasPrefix _ _, fun h => absurd h hp, fun _ => ⟨_, _, _, r_plain l b c gp hl (by omega) (by omega), _, _, r_take hT hlen, hA⟩⟩⟩⟩⟩⟩
theorem u64_nat (n : Nat) (h : n < 18446744073709551616) : IntKind.u64.wrap (n : Int) = n := U64.wrap ⟨by omega, by omega⟩
theorem tdivN (a : Nat) (b : Nat) : ((a : Nat) : Int).tdiv (b : Int) = ((a / b : Nat) : Int) := by
 rw [Int.tdiv_eq_ediv_of_nonneg (by omega)]; simp
theorem tmodN (a : Nat) (b : Nat) : ((a : Nat) : Int).tmod (b : Int) = ((a % b : Nat) : Int) := by
 rw [Int.tmod_eq_emod_of_nonneg (by omega)]; simp
theorem r_Digits_loop (n : Int) : ∀ (j u : Nat) (s : List UInt8), Lib.nDigits u ≤ j → u < 18446744073709551616 → s.length + j ≤ 1000 → At_Q16_1 n u s ((if n < 0 then [45] else []) ++ (Lib.decDigits u ++ s))
 | 0, u, s, h, _, _ => by have := Lib.nDigits_pos u; omega
 | j + 1, u, s, h, hu, hs => by
  apply At_Q16_1_step
  have d10 : ((u : Nat) : Int).tdiv 10 = ((u / 10 : Nat) : Int) := tdivN u 10
  have m10 : ((u : Nat) : Int).tmod 10 = ((u % 10 : Nat) : Int) := tmodN u 10
  have e48 : ∀ x : Nat, (48 + ((x : Nat) : Int)).toNat = 48 + x := fun x => by omega
  refine ⟨fun h10 => ?_, fun h10 => ?_⟩
  ·have hu10 : ¬ u < 10 := by omega
   rw [d10, m10, e48]
   have hn : Lib.nDigits u = Lib.nDigits (u / 10) + 1 := Lib.nDigits_big hu10
   refine ⟨⟨by omega, by omega⟩, ⟨by omega, by omega⟩, by simp [maxInt]; omega, ⟨by omega, by omega⟩, ?_⟩
   have := r_Digits_loop n j (u / 10) ([UInt8.ofNat (48 + u % 10)] ++ s) (by omega) (by omega) (by simp; omega)
   rw [show Lib.decDigits u = Lib.decDigits (u / 10) ++ [UInt8.ofNat (48 + u % 10)] from by rw [Lib.decDigits, dif_neg hu10], List.append_assoc]
   exact this
  ·have hu10 : u < 10 := by omega
   rw [e48, show Lib.decDigits u = [UInt8.ofNat (48 + u)] from by rw [Lib.decDigits, dif_pos hu10]]
   refine ⟨⟨by omega, by omega⟩, ⟨by omega, by omega⟩, by simp [maxInt]; omega, fun hn => ⟨by simp [maxInt]; omega, by simp [hn]⟩, fun hn => by simp [hn]⟩
theorem wrap_u64_neg {n : Int} (h0 : -9223372036854775808 ≤ n) (h : n < 0) : IntKind.u64.wrap (0 - (IntKind.u64.wrap n)) = ((n.natAbs : Nat) : Int) := by
 have e1 : IntKind.u64.wrap n = n % 18446744073709551616 := by
  simp [IntKind.wrap, IntKind.signed, IntKind.bits]
 rw [e1]
 have e2 : ∀ x : Int, IntKind.u64.wrap x = x % 18446744073709551616 := fun x => by
  simp [IntKind.wrap, IntKind.signed, IntKind.bits]
 rw [e2]
 omega
theorem r_Digits (n : Int) (h : I64 n) : R_Q16 n (Lib.itoa n) := by
 obtain ⟨h0, h1⟩ := h
 apply Q16_tree
 refine ⟨fun hn => ?_, fun hn => ?_⟩
 ·rw [wrap_u64_neg h0 hn]
  have := r_Digits_loop n 20 n.natAbs [] (Lib.nDigits_le20 _ (by omega)) (by omega) (by simp)
  simpa [Lib.itoa, hn] using this
 ·obtain ⟨m, rfl⟩ : ∃ m : Nat, n = m := ⟨n.toNat, by omega⟩
  rw [u64_nat m (by omega)]
  have := r_Digits_loop m 20 m [] (Lib.nDigits_le20 _ (by omega)) (by omega) (by simp)
  simpa [Lib.itoa, hn] using this
theorem r_Itoa (n : Int) (h : I64 n) : R_strconv_Itoa n (Lib.itoa n) := fun S => call_ext sp_strconv_Itoa S (if_pos h)
def Dg (l : List UInt8) : Prop := ∀ c ∈ l, 48 ≤ c.toNat ∧ c.toNat ≤ 57
theorem inC3 (c : UInt8) : inC [3] c = true ↔ 48 ≤ c.toNat ∧ c.toNat ≤ 57 := by
 unfold inC clsS
 simp only [List.mem_singleton, decide_eq_true_eq]
 repeat' split
 all_goals (first | omega | (constructor <;> intro h <;> first | omega | exact absurd h (by decide)))
theorem Dg_take (t : List UInt8) : Dg (t.takeWhile (inC [3])) := fun c hc => (inC3 c).1 (List.all_eq_true.1 List.all_takeWhile c hc)
def digV (acc : Nat) (l : List UInt8) : Nat := l.foldl (fun a c => a * 10 + (c.toNat - 48)) acc
theorem digV_cons (acc : Nat) (c : UInt8) (r : List UInt8) : digV acc (c :: r) = digV (acc * 10 + (c.toNat - 48)) r := by
 unfold digV
 rw [List.foldl_cons]
theorem digV_nil (acc : Nat) : digV acc [] = acc := by
 unfold digV
 rw [List.foldl_nil]
theorem digV_ge : ∀ (l : List UInt8) (acc : Nat), acc ≤ digV acc l
 | [], acc => by rw [digV_nil]; exact Nat.le_refl _
 | c :: r, acc => by
  rw [digV_cons]
  have := digV_ge r (acc * 10 + (c.toNat - 48))
  omega
theorem parse_num (l : List UInt8) : ∀ (acc : Nat), Dg l → acc < 18446744073709551616 → Lib.parseUint10 acc l = if digV acc l < 18446744073709551616 then .ok (digV acc l) else .range := by
 induction l with
 | nil => intro acc _ h; rw [digV_nil, if_pos h, Lib.parseUint10]
 | cons c r ih =>
  intro acc hd h
  have hc := hd c (by simp)
  have hge := digV_ge r (acc * 10 + (c.toNat - 48))
  rw [digV_cons]
  unfold Lib.parseUint10
  rw [if_pos hc]
  by_cases h1 : 1844674407370955162 ≤ acc
  ·rw [if_pos h1, if_neg (by omega)]
  ·rw [if_neg h1]
   by_cases h2 : 18446744073709551616 ≤ acc * 10 + (c.toNat - 48)
   ·rw [if_pos h2, if_neg (by omega)]
   ·rw [if_neg h2]
    exact ih _ (fun x hx => hd x (by simp [hx])) (by omega)
theorem atoi_num {l : List UInt8} (hd : Dg l) (hne : l ≠ []) : Lib.atoiAll l = if digV 0 l < 9223372036854775808 then .ok (digV 0 l : Int) else .range := by
 cases l with
 | nil => exact absurd rfl hne
 | cons c r =>
  have hc := hd c (by simp)
  rw [Lib.atoiAll_plain c r (by omega) (by omega), Lib.parseMag, if_neg (by simp), parse_num _ 0 hd (by omega)]
  by_cases h : digV 0 (c :: r) < 18446744073709551616
  ·rw [if_pos h]
   by_cases h2 : digV 0 (c :: r) < 9223372036854775808
   ·simp only [Lib.signless, if_pos h2, if_neg (show ¬ 9223372036854775808 ≤ digV 0 (c :: r) by omega)]
   ·simp only [Lib.signless, if_neg h2, if_pos (show 9223372036854775808 ≤ digV 0 (c :: r) by omega)]
  ·rw [if_neg h, if_neg (show ¬ digV 0 (c :: r) < 9223372036854775808 by omega)]
   rfl
theorem dec_step {a d : Nat} (ha : 0 < a) (hd : d < 10) : Lib.decDigits (a * 10 + d) = Lib.decDigits a ++ [UInt8.ofNat (48 + d)] := by
 rw [Lib.decDigits, dif_neg (by omega), show (a * 10 + d) / 10 = a by omega, show (a * 10 + d) % 10 = d by omega]
theorem dec_num : ∀ (l : List UInt8) (acc : Nat), 0 < acc → Dg l → Lib.decDigits (digV acc l) = Lib.decDigits acc ++ l
 | [], acc, _, _ => by rw [digV_nil, List.append_nil]
 | c :: r, acc, h, hd => by
  have hc := hd c (by simp)
  rw [digV_cons, dec_num r _ (by omega) (fun x hx => hd x (by simp [hx])), dec_step h (by omega)]
  have : UInt8.ofNat (48 + (c.toNat - 48)) = c := by
   rw [show 48 + (c.toNat - 48) = c.toNat by omega]; simp
  rw [this]
  simp
theorem dec_first {c : UInt8} {r : List UInt8} (hd : Dg (c :: r)) (h : c.toNat ≠ 48) : Lib.decDigits (digV 0 (c :: r)) = c :: r := by
 have hc := hd c (by simp)
 rw [digV_cons, dec_num r _ (by omega) (fun x hx => hd x (by simp [hx])), Nat.zero_mul, Nat.zero_add, Lib.decDigits_one (by omega)]
 have : UInt8.ofNat (48 + (c.toNat - 48)) = c := by
  rw [show 48 + (c.toNat - 48) = c.toNat by omega]; simp
 rw [this]
 rfl
theorem dec_len : ∀ (r : List UInt8), Dg r → r ≠ [] → (Lib.decDigits (digV 0 r)).length ≤ r.length
 | [], _, h => absurd rfl h
 | c :: r, hd, _ => by
  by_cases h : c.toNat = 48
  ·rw [digV_cons, h]
   cases r with
   | nil => simp [digV_nil, Lib.decDigits_one (show 0 < 10 by omega)]
   | cons b r =>
    have := dec_len (b :: r) (fun x hx => hd x (by simp at hx ⊢; exact .inr hx)) (by simp)
    simp only [Nat.zero_mul, Nat.sub_self, Nat.add_zero, List.length_cons] at this ⊢
    omega
  ·rw [dec_first hd h]
   exact Nat.le_refl _
def numOk (d : List UInt8) : Prop := digV 0 d < 9223372036854775808 ∧ (d.head? = some 48 → d.length = 1)
instance (d : List UInt8) : Decidable (numOk d) := by unfold numOk; infer_instance
theorem itoa_num {d : List UInt8} (hd : Dg d) (hne : d ≠ []) : Lib.itoa ((digV 0 d : Nat) : Int) = d ↔ (d.head? = some 48 → d.length = 1) := by
 have e : Lib.itoa ((digV 0 d : Nat) : Int) = Lib.decDigits (digV 0 d) := by
  unfold Lib.itoa
  rw [if_neg (by omega)]
  rfl
 rw [e]
 cases d with
 | nil => exact absurd rfl hne
 | cons c r =>
  by_cases h : c.toNat = 48
  ·have hc : c = 48 := UInt8.toNat_inj.1 h
   subst hc
   simp only [List.head?_cons, List.length_cons, forall_const]
   cases r with
   | nil =>
    have h0 : digV 0 [48] = 0 := by rw [digV_cons, digV_nil]; rfl
    rw [h0, Lib.decDigits_one (show 0 < 10 by omega)]
    simp
   | cons b r =>
    have := dec_len (b :: r) (fun x hx => hd x (by simp at hx ⊢; exact .inr hx)) (by simp)
    constructor
    ·intro h2
     have h3 : digV 0 (48 :: b :: r) = digV 0 (b :: r) := by rw [digV_cons]; rfl
     rw [← h3, h2] at this
     simp at this
     omega
    ·intro h2
     simp at h2
  ·rw [dec_first hd h]
   simp only [List.head?_cons, Option.some.injEq, true_iff]
   intro e
   exact absurd (by rw [e]; rfl) h
def numS (t : List UInt8) : Option (Token × Nat) := if numOk (t.takeWhile (inC [3])) then some (Token.mk 1 [] (digV 0 (t.takeWhile (inC [3])) : Nat) [] 0, (t.takeWhile (inC [3])).length) else none
theorem r_Atoi {l : List UInt8} (hd : Dg l) (hne : l ≠ []) (hl : l.length ≤ 1000000) : ∃ v : Int, R_strconv_Atoi l v (decide (¬ digV 0 l < 9223372036854775808)) ∧ (digV 0 l < 9223372036854775808 → v = (digV 0 l : Nat)) := by
 have ha := atoi_num hd hne
 by_cases h : digV 0 l < 9223372036854775808
 ·rw [if_pos h] at ha
  exact ⟨_, fun S => call_ext sp_strconv_Atoi S (by simp only [atoiX, ha]; rw [if_pos (by omega)]; simp [h]), fun _ => rfl⟩
 ·rw [if_neg h] at ha
  exact ⟨Lib.atoiSat l, fun S => call_ext sp_strconv_Atoi S (by simp only [atoiX, ha]; rw [if_pos (by omega)]; simp [h]), fun e => absurd e h⟩
theorem r_number (t : LTokens) (g : Nat) (z : Bool) (h : TI t.text) (hne : t.text.left.takeWhile (inC [3]) ≠ []) : match numS t.text.left with
  | none => ∃ (x : Token) (t' : LTokens), t'.out = t.out ∧ R_Q139 t g z x false t' g z
  | some (x, n) => R_Q139 t g z x true (LTokens.mk (takeT t.text n) t.out) g z := by
 have h1 := h.1
 have hd := Dg_take t.text.left
 have hw := r_word h [3] (by decide)
 have hl := spanS_le [3] t.text.left
 unfold spanS at hw hl
 unfold numS
 generalize t.text.left.takeWhile (inC [3]) = d at *
 obtain ⟨v, ha, hv⟩ := r_Atoi hd hne (by omega)
 by_cases hb : digV 0 d < 9223372036854775808
 ·obtain rfl := hv hb
  have hi := itoa_num hd hne
  by_cases h0 : d.head? = some 48 → d.length = 1
  ·rw [if_pos ⟨hb, h0⟩]
   apply Q139_tree
   refine ⟨_, _, hw, _, _, ha, fun e => ?_, fun _ => ⟨_, r_Itoa _ ⟨by omega, by omega⟩, rfl, ?_, rfl, rfl, rfl⟩⟩
   ·simp [hb] at e
   ·exact decide_eq_true (hi.2 h0)
  ·rw [if_neg (fun e => h0 e.2)]
   refine ⟨_, LTokens.mk (takeT t.text d.length) t.out, rfl, Q139_tree _ _ _ _ _ _ _ _ ⟨_, _, hw, _, _, ha, fun e => ?_, fun _ => ⟨_, r_Itoa _ ⟨by omega, by omega⟩, rfl, ?_, rfl, rfl, rfl⟩⟩⟩
   ·simp [hb] at e
   ·exact decide_eq_false (fun e => h0 (hi.1 e))
 ·rw [if_neg (fun e => hb e.1)]
  exact ⟨_, LTokens.mk (takeT t.text d.length) t.out, rfl, Q139_tree _ _ _ _ _ _ _ _ ⟨_, _, hw, _, _, ha, fun _ => ⟨rfl, rfl, rfl, rfl, rfl⟩, fun e => absurd (decide_eq_true hb) e⟩⟩
def atT (x : Token) (i : Int) : Token := ⟨x.Kind, x.Text, x.Num, x.Parts, i⟩
theorem r_quoted (t : LTokens) (g : Nat) (z : Bool) (h : TI t.text) {u : List UInt8} (e : t.text.left = 34 :: u) {r : Option (List Part × Nat)} (hq : Qx u [] [] r) : match r with
  | none => ∃ t' : LTokens, t'.out = t.out ∧ R_Q140 t g z (Token.mk 0 [] 0 [] 0) false t' g z
  | some (ps, n) => n + 1 ≤ t.text.left.length ∧ R_Q140 t g z (Token.mk 2 [] 0 ps 0) true (LTokens.mk (takeT t.text (n + 1)) t.out) g z := by
 have hlen : 1 ≤ t.text.left.length := by rw [e]; simp
 have h1 := h.1
 have hu : u.length ≤ 6000 := by rw [e] at h1; simp at h1; omega
 have hl : (takeT t.text 1).left = u := by simp only [takeT, e]; rfl
 have key := r_quoted_loop hq 0 (LTokens.mk (takeT t.text 1) t.out) g z hl (h.take hlen) (.inl rfl) (by simp; omega) (by simp; omega)
 cases r with
 | none =>
  obtain ⟨t', ho, hA⟩ := key
  exact ⟨t', ho, Q140_tree _ _ _ _ _ _ _ _ ⟨_, _, r_take h hlen, hA⟩⟩
 | some q =>
  obtain ⟨ps, n⟩ := q
  obtain ⟨hn, hA⟩ := key
  simp only [takeT_takeT] at hA
  simp only at hn
  rw [hl] at hn
  refine ⟨by rw [e]; simp; omega, Q140_tree _ _ _ _ _ _ _ _ ⟨_, _, r_take h hlen, ?_⟩⟩
  rw [Nat.add_comm n 1]
  exact hA
def TOut (s : List UInt8) (i k : Nat) (l : List Part) (b : List UInt8) : Option (List Part × Nat) → Prop
 | none => At_ref1_text_1 s i k 0 [] 0 0 [] 0 l b (Token.mk 0 [] 0 [] 0) 0
 | some (ps, n) => At_ref1_text_1 s i k 0 [] 0 0 [] 0 l b (Token.mk 2 [] 0 ps i) ((k : Int) + n - i)
theorem TOut.next {s : List UInt8} {i k : Nat} {l l2 : List Part} {b b2 : List UInt8} {m : Nat} (step : ∀ ra rb, At_ref1_text_1 s i ((k + m : Nat) : Int) 0 [] 0 0 [] 0 l2 b2 ra rb → At_ref1_text_1 s i k 0 [] 0 0 [] 0 l b ra rb) {r : Option (List Part × Nat)} (h : TOut s i (k + m) l2 b2 r) : TOut s i k l b (r.map fun q => (q.1, q.2 + m)) := by
 cases r with
 | none => exact step _ _ h
 | some q =>
  obtain ⟨ps, n⟩ := q
  have := step _ _ h
  simp only [TOut, Option.map_some]
  rw [show (k : Int) + ((n + m : Nat) : Int) - (i : Int) = ((k + m : Nat) : Int) + (n : Int) - (i : Int) by omega]
  exact this
theorem cls5 (c : UInt8) : clsS c = 5 ↔ c = 35 := by
 have e : c = 35 ↔ c.toNat = 35 := by rw [← UInt8.toNat_inj]; rfl
 rw [e]
 unfold clsS
 repeat' split
 all_goals (first | omega | (constructor <;> intro h <;> first | omega | exact absurd h (by decide)))
inductive Tok : List UInt8 → Option (Token × Nat) → Prop
 | name (c : UInt8) (u : List UInt8) (h : clsS c = 2) : Tok (c :: u) (if ((c :: u).takeWhile (inC [2, 3])).length ≤ 24 then some (Token.mk 3 ((c :: u).takeWhile (inC [2, 3])) 0 [] 0, spanS [2, 3] (c :: u)) else none)
 | num (c : UInt8) (u : List UInt8) (h : clsS c = 3) : Tok (c :: u) (numS (c :: u))
 | text (u : List UInt8) (r : Option (List Part × Nat)) (h : Qx u [] [] r) : Tok (34 :: u) (r.map fun q => (Token.mk 2 [] 0 q.1 0, q.2 + 1))
 | sign (c : UInt8) (u : List UInt8) (h2 : clsS c ≠ 2) (h3 : clsS c ≠ 3) (h4 : clsS c ≠ 4) : Tok (c :: u) (if signS (c :: u) = [] then none else some (Token.mk 4 (signS (c :: u)) 0 [] 0, (signS (c :: u)).length))
theorem Qx_len {t : List UInt8} {l : List Part} {b : List UInt8} {r : Option (List Part × Nat)} (h : Qx t l b r) : ∀ q, r = some q → 0 < q.2 ∧ q.2 ≤ t.length := by
 induction h with
 | nil | low | esc0 | escbad | refbad => intro q hq; cases hq
 | shut t l b => intro q hq; obtain rfl := Option.some.inj hq; simp
 | esc x y t l b r hx _ ih =>
  intro q hq
  obtain ⟨q0, h0, rfl⟩ := Option.map_eq_some_iff.1 hq
  have := ih q0 h0
  simp only [List.length_cons]
  omega
 | ref t l b r hr _ ih =>
  intro q hq
  obtain ⟨q0, h0, rfl⟩ := Option.map_eq_some_iff.1 hq
  have := ih q0 h0
  have h1 := refS_len hr
  simp only [List.length_cons, List.length_drop] at this ⊢
  omega
 | plain c t l b r c1 c2 c3 c4 _ ih =>
  intro q hq
  obtain ⟨q0, h0, rfl⟩ := Option.map_eq_some_iff.1 hq
  have := ih q0 h0
  simp only [List.length_cons]
  omega
theorem span_pos {cl : List Int} {c : UInt8} (u : List UInt8) (h : inC cl c = true) : 0 < spanS cl (c :: u) := by
 unfold spanS
 rw [List.takeWhile_cons, if_pos h]
 simp
theorem signS_len (c : UInt8) (u : List UInt8) : (signS (c :: u)).length ≤ (c :: u).length := by
 cases u with
 | nil => simp only [signS, sign1]; split <;> simp
 | cons b u => simp only [signS, sign2, sign1]; repeat' split <;> simp
theorem Tok_len {t : List UInt8} {r : Option (Token × Nat)} (h : Tok t r) : ∀ q, r = some q → 0 < q.2 ∧ q.2 ≤ t.length := by
 cases h with
 | name c u h =>
  intro q hq
  split at hq
  ·obtain rfl := Option.some.inj hq
   exact ⟨span_pos u ((inC23 c).2 (.inl h)), spanS_le _ _⟩
  ·cases hq
 | num c u h =>
  intro q hq
  unfold numS at hq
  split at hq
  ·obtain rfl := Option.some.inj hq
   exact ⟨span_pos (cl := [3]) u (by unfold inC; simp [h]), spanS_le [3] _⟩
  ·cases hq
 | text u r h =>
  intro q hq
  obtain ⟨q0, h0, rfl⟩ := Option.map_eq_some_iff.1 hq
  have := Qx_len h q0 h0
  simp only [List.length_cons]
  omega
 | sign c u h2 h3 h4 =>
  intro q hq
  split at hq
  ·cases hq
  ·rename_i hne
   obtain rfl := Option.some.inj hq
   exact ⟨List.length_pos_iff.2 hne, signS_len c u⟩
theorem takeWhile_idem (p : UInt8 → Bool) : ∀ l : List UInt8, (l.takeWhile p).takeWhile p = l.takeWhile p
 | [] => rfl
 | c :: l => by
  rw [List.takeWhile_cons]
  split
  ·rename_i h
   rw [List.takeWhile_cons, if_pos h, takeWhile_idem p l]
  ·rfl
theorem name_word {c : UInt8} (u : List UInt8) (h : clsS c = 2) : nameS ((c :: u).takeWhile (inC [2, 3])) = decide (((c :: u).takeWhile (inC [2, 3])).length ≤ 24) := by
 have hc : inC [2, 3] c = true := (inC23 c).2 (.inl h)
 have hi := takeWhile_idem (inC [2, 3]) (c :: u)
 rw [List.takeWhile_cons, if_pos hc] at hi ⊢
 unfold nameS
 refine decide_eq_decide.2 ⟨fun e => e.2.1, fun e => ⟨by simp, e, ?_⟩⟩
 rw [endS, if_pos h, spanS, hi]
theorem dig_ne {c : UInt8} (u : List UInt8) (h : clsS c = 3) : (c :: u).takeWhile (inC [3]) ≠ [] := by
 rw [List.takeWhile_cons, if_pos (by unfold inC; simp [h])]
 simp
def NextP (t : LTokens) (g : Nat) (z : Bool) : Option (Token × Nat) → Prop
 | none => ∃ t', R_Q98 t g z false t' g z
 | some (x, n) => R_Q98 t g z true (LTokens.mk (takeT t.text n) (t.out ++ [atT x t.text.pos])) g z
theorem r_next (t : LTokens) (g : Nat) (z : Bool) (h : TI t.text) (ho : t.out.length ≤ 6000) {r : Option (Token × Nat)} {l : List UInt8} (hl : t.text.left = l) (hk : Tok l r) : NextP t g z r := by
 have big : bigRow (t.out.length + 1) 64 := ⟨by omega, by omega, by decide⟩
 cases hk with
 | name c u hc =>
  have hn := r_name t g z h
  rw [hl, name_word u hc] at hn
  have hd : t.text.left[0]? = some c := by rw [hl]; rfl
  by_cases hlen : ((c :: u).takeWhile (inC [2, 3])).length ≤ 24
  rotate_left
  ·rw [if_neg hlen]
   ·rw [decide_eq_false hlen] at hn
    exact ⟨_, Q98_tree _ _ _ _ _ _ _ ⟨c, hd, _, r_class c, fun _ => ⟨_, _, _, _, _, hn, big, rfl, rfl, rfl, rfl⟩, fun e => absurd hc e⟩⟩
  ·rw [if_pos hlen]
   ·rw [decide_eq_true hlen] at hn
    exact Q98_tree _ _ _ _ _ _ _ ⟨c, hd, _, r_class c, fun _ => ⟨_, _, _, _, _, hn, big, rfl, rfl, rfl, rfl⟩, fun e => absurd hc e⟩
 | num c u hc =>
  have hd : t.text.left[0]? = some c := by rw [hl]; rfl
  have hn := r_number t g z h (by rw [hl]; exact dig_ne u hc)
  rw [hl] at hn
  have h2 : clsS c ≠ 2 := by omega
  revert hn
  generalize numS (c :: u) = q
  intro hn
  rcases q with _ | ⟨x, n⟩
  ·obtain ⟨x, t', ho', hn⟩ := hn
   exact ⟨_, Q98_tree _ _ _ _ _ _ _ ⟨c, hd, _, r_class c, fun e => absurd e h2, fun _ => ⟨fun _ => ⟨_, _, _, _, _, hn, by rw [ho']; exact big, rfl, rfl, rfl, rfl⟩, fun e => absurd hc e⟩⟩⟩
  ·exact Q98_tree _ _ _ _ _ _ _ ⟨c, hd, _, r_class c, fun e => absurd e h2, fun _ => ⟨fun _ => ⟨_, _, _, _, _, hn, big, rfl, rfl, rfl, rfl⟩, fun e => absurd hc e⟩⟩
 | text u q hq =>
  have hd : t.text.left[0]? = some 34 := by rw [hl]; rfl
  have hn := r_quoted t g z h hl hq
  have h4 : clsS 34 = 4 := (cls4 34).2 rfl
  cases q with
  | none =>
   obtain ⟨t', ho', hn⟩ := hn
   exact ⟨_, Q98_tree _ _ _ _ _ _ _ ⟨34, hd, _, r_class 34, fun e => by omega, fun _ => ⟨fun e => by omega, fun _ => ⟨fun _ => ⟨_, _, _, _, _, hn, by rw [ho']; exact big, rfl, rfl, rfl, rfl⟩, fun e => absurd h4 e⟩⟩⟩⟩
  | some p =>
   obtain ⟨ps, n⟩ := p
   exact Q98_tree _ _ _ _ _ _ _ ⟨34, hd, _, r_class 34, fun e => by omega, fun _ => ⟨fun e => by omega, fun _ => ⟨fun _ => ⟨_, _, _, _, _, hn.2, big, rfl, rfl, rfl, rfl⟩, fun e => absurd h4 e⟩⟩⟩
 | sign c u h2 h3 h4 =>
  have hd : t.text.left[0]? = some c := by rw [hl]; rfl
  have hn := r_sign t g z h (by rw [hl]; simp)
  rw [hl] at hn
  by_cases he : signS (c :: u) = []
  ·rw [if_pos he]
   ·rw [if_pos he, if_pos he, decide_eq_false (fun e => e he)] at hn
    exact ⟨_, Q98_tree _ _ _ _ _ _ _ ⟨c, hd, _, r_class c, fun e => absurd e h2, fun _ => ⟨fun e => absurd e h3, fun _ => ⟨fun e => absurd e h4, fun _ => ⟨_, _, _, _, _, hn, big, rfl, rfl, rfl, rfl⟩⟩⟩⟩⟩
  ·rw [if_neg he]
   ·rw [if_neg he, if_neg he, decide_eq_true he] at hn
    exact Q98_tree _ _ _ _ _ _ _ ⟨c, hd, _, r_class c, fun e => absurd e h2, fun _ => ⟨fun e => absurd e h3, fun _ => ⟨fun e => absurd e h4, fun _ => ⟨_, _, _, _, _, hn, big, rfl, rfl, rfl, rfl⟩⟩⟩⟩
inductive Lx : List UInt8 → Int → Option (List Token) → Prop
 | nil (p : Int) : Lx [] p (some [Token.mk 0 [] 0 [] p])
 | gap (c : UInt8) (t : List UInt8) (p : Int) (r : Option (List Token)) (hc : clsS c = 1) (h : Lx t (p + 1) r) : Lx (c :: t) p r
 | remark (t : List UInt8) (p : Int) (r : Option (List Token)) (h : Lx (t.dropWhile (· != 10)) (p + ((t.takeWhile (· != 10)).length + 1 : Nat)) r) : Lx (35 :: t) p r
 | bad (c : UInt8) (t : List UInt8) (p : Int) (h1 : clsS c ≠ 1) (h2 : clsS c ≠ 5) (h : Tok (c :: t) none) : Lx (c :: t) p none
 | tok (c : UInt8) (t : List UInt8) (p : Int) (x : Token) (n : Nat) (r : Option (List Token)) (h1 : clsS c ≠ 1) (h2 : clsS c ≠ 5) (h : Tok (c :: t) (some (x, n))) (h' : Lx ((c :: t).drop n) (p + n) r) : Lx (c :: t) p (r.map (atT x p :: ·))
def stands : List UInt8 → Prop
 | [] => True
 | c :: _ => clsS c ≠ 1 ∧ clsS c ≠ 5
theorem take0 (t : LText) : takeT t 0 = t := by
 unfold takeT
 simp
theorem takeWhile_all (p : UInt8 → Bool) : ∀ l : List UInt8, (∀ x ∈ l, p x = true) → l.takeWhile p = l
 | [], _ => rfl
 | c :: l, h => by rw [List.takeWhile_cons, if_pos (h c (by simp)), takeWhile_all p l (fun x hx => h x (by simp [hx]))]
theorem cut_line (s : List UInt8) : (Lib.cut s [10]).1 = s.takeWhile (· != 10) := by
 rw [cut1]
 split
 ·rfl
 ·rename_i h
  exact (takeWhile_all _ _ fun x hx => by
   simp only [bne_iff_ne, ne_eq]
   intro e
   exact h (e ▸ hx)).symm
theorem drop_line (t : List UInt8) : (35 :: t : List UInt8).drop ((t.takeWhile (· != 10)).length + 1) = t.dropWhile (· != 10) := by
 rw [List.drop_succ_cons]
 exact drop_while_len _ _
theorem line_len (t : List UInt8) : (t.takeWhile (· != 10)).length ≤ t.length := by
 have := congrArg List.length (List.takeWhile_append_dropWhile (p := (· != (10 : UInt8))) (l := t))
 rw [List.length_append] at this
 omega
theorem span1 {c : UInt8} (t : List UInt8) (h : clsS c = 1) : spanS [1] (c :: t) = spanS [1] t + 1 := by
 unfold spanS
 rw [List.takeWhile_cons, if_pos (by unfold inC; simp [h])]
 rfl
theorem span0 {c : UInt8} (t : List UInt8) (h : clsS c ≠ 1) : spanS [1] (c :: t) = 0 := by
 unfold spanS
 rw [List.takeWhile_cons, if_neg (by unfold inC; simp [h])]
 rfl
theorem r_skip_loop {l : List UInt8} {p : Int} {r : Option (List Token)} (h : Lx l p r) : ∀ (t : LTokens) (g : Nat) (z : Bool), t.text.left = l → t.text.pos = p → TI t.text →
  ∃ n, n ≤ l.length ∧ At_Q97_1 (LTokens.mk (takeT t.text (spanS [1] l)) t.out) g z (LTokens.mk (takeT t.text n) t.out) g z ∧ Lx (l.drop n) (p + n) r ∧ stands (l.drop n) := by
 induction h with
 | nil p =>
  intro t g z e ep hT
  refine ⟨0, Nat.le_refl _, ?_, by simpa using Lx.nil p, trivial⟩
  apply At_Q97_1_step
  refine ⟨_, r_HasPrefix _ _, fun h => ?_, fun _ => ⟨rfl, rfl, rfl⟩⟩
  rw [show spanS [1] [] = 0 from rfl, take0, e] at h
  exact absurd h (by decide)
 | gap c t' p r hc _ ih =>
  intro t g z e ep hT
  have h1 : 1 ≤ t.text.left.length := by rw [e]; simp
  obtain ⟨n, hn, hA, hL, hs⟩ := ih (LTokens.mk (takeT t.text 1) t.out) g z (by simp only [takeT, e]; rfl) (by simp only [takeT, ep]; rfl) (hT.take h1)
  simp only [takeT_takeT] at hA
  refine ⟨n + 1, by simp; omega, ?_, ?_, by rw [List.drop_succ_cons]; exact hs⟩
  ·rw [span1 t' hc, Nat.add_comm (spanS [1] t') 1, Nat.add_comm n 1]
   exact hA
  ·rw [List.drop_succ_cons, show p + ((n + 1 : Nat) : Int) = p + 1 + (n : Int) by omega]
   exact hL
 | remark t' p r _ ih =>
  intro t g z e ep hT
  have hll := line_len t'
  have h1 : (t'.takeWhile (· != 10)).length + 1 ≤ t.text.left.length := by rw [e]; simp; omega
  have hT1 := hT.1
  obtain ⟨n, hn, hA, hL, hs⟩ := ih (LTokens.mk (takeT t.text ((t'.takeWhile (· != 10)).length + 1)) t.out) g z (by simp only [takeT, e]; exact drop_line t') (by simp only [takeT, ep]) (hT.take h1)
  simp only [takeT_takeT] at hA
  have hdl : (t'.dropWhile (· != 10)).length = t'.length - (t'.takeWhile (· != 10)).length := by rw [← drop_while_len, List.length_drop]
  have hsp : spanS [1] (35 :: t') = 0 := span0 t' (by decide)
  refine ⟨(t'.takeWhile (· != 10)).length + 1 + n, by simp; omega, ?_, ?_, ?_⟩
  ·rw [hsp, take0]
   apply At_Q97_1_step
   have hcut : (Lib.cut t.text.left [10]).1 = 35 :: t'.takeWhile (· != 10) := by
    rw [cut_line, e, List.takeWhile_cons, if_pos (by decide)]
   have hR := r_Cut t.text.left [10] (by omega)
   have hTk := r_take hT (n := (35 :: t'.takeWhile (· != 10)).length) (by simpa using h1)
   have hT2 : TI (takeT t.text (35 :: t'.takeWhile (· != 10)).length) := hT.take (by simpa using h1)
   have hW := r_word hT2 [1] (by decide)
   rw [hcut] at hR
   refine ⟨_, r_HasPrefix _ _, fun _ => ⟨_, _, _, hR, _, _, hTk, _, _, hW, ?_⟩, fun h => absurd (by rw [e]; rfl) h⟩
   have hle : (takeT t.text (35 :: t'.takeWhile (· != 10)).length).left = t'.dropWhile (· != 10) := by
    simp only [takeT, e, List.length_cons]; exact drop_line t'
   rw [hle, takeT_takeT]
   exact hA
  ·rw [← List.drop_drop, drop_line, show p + (((t'.takeWhile (· != 10)).length + 1 + n : Nat) : Int) = p + (((t'.takeWhile (· != 10)).length + 1 : Nat) : Int) + (n : Int) by omega]
   exact hL
  ·rw [← List.drop_drop, drop_line]
   exact hs
 | bad c t' p c1 c2 hk =>
  intro t g z e ep hT
  refine ⟨0, Nat.zero_le _, ?_, by simpa using Lx.bad c t' p c1 c2 hk, ⟨c1, c2⟩⟩
  rw [span0 t' c1]
  apply At_Q97_1_step
  refine ⟨_, r_HasPrefix _ _, fun h => ?_, fun _ => ⟨rfl, rfl, rfl⟩⟩
  rw [take0, e] at h
  exfalso
  apply c2
  rw [cls5]
  symm
  simpa [Lib.hasPrefix] using h
 | tok c t' p x n r c1 c2 hk h' _ =>
  intro t g z e ep hT
  refine ⟨0, Nat.zero_le _, ?_, by simpa using Lx.tok c t' p x n r c1 c2 hk h', ⟨c1, c2⟩⟩
  rw [span0 t' c1]
  apply At_Q97_1_step
  refine ⟨_, r_HasPrefix _ _, fun h => ?_, fun _ => ⟨rfl, rfl, rfl⟩⟩
  rw [take0, e] at h
  exfalso
  apply c2
  rw [cls5]
  symm
  simpa [Lib.hasPrefix] using h
theorem r_skip {l : List UInt8} {p : Int} {r : Option (List Token)} (h : Lx l p r) (t : LTokens) (g : Nat) (z : Bool) (e : t.text.left = l) (ep : t.text.pos = p) (hT : TI t.text) :
  ∃ n, n ≤ l.length ∧ R_Q97 t g z (LTokens.mk (takeT t.text n) t.out) g z ∧ Lx (l.drop n) (p + n) r ∧ stands (l.drop n) := by
 obtain ⟨n, hn, hA, hL, hs⟩ := r_skip_loop h t g z e ep hT
 refine ⟨n, hn, Q97_tree _ _ _ _ _ _ ⟨_, _, r_word hT [1] (by decide), ?_⟩, hL, hs⟩
 rw [e]
 exact hA
def lexL : Option (List Token) → List Token
 | none => []
 | some l => l
def lexE : Option (List Token) → Int
 | none => 5
 | some _ => 0
def lexP (out : List Token) : Option (List Token) → List Token
 | none => []
 | some l => out ++ l
theorem r_Lex_loop : ∀ (m : Nat) (l : List UInt8) (p : Int) (r : Option (List Token)), Lx l p r → stands l → l.length ≤ m → ∀ (out : List Token) (g : Nat) (z : Bool), TI ⟨l, p⟩ → (out.length : Int) ≤ p → At_Q60_1 l p out g z (lexP out r) (lexE r) := by
 intro m
 induction m with
 | zero =>
  intro l p r h hs hm out g z hT ho
  have : l = [] := List.length_eq_zero_iff.1 (by omega)
  subst this
  cases h
  have h3 := hT.2.2
  simp only [List.length_nil] at h3
  apply At_Q60_1_step
  exact ⟨fun _ => ⟨⟨by omega, by omega, by decide⟩, rfl, rfl⟩, fun h => absurd rfl h⟩
 | succ m ih =>
  intro l p r h hs hm out g z hT ho
  have h3 := hT.2.2
  cases h with
  | nil =>
   simp only [List.length_nil] at h3
   apply At_Q60_1_step
   exact ⟨fun _ => ⟨⟨by omega, by omega, by decide⟩, rfl, rfl⟩, fun h => absurd rfl h⟩
  | gap c t _ _ hc h => exact absurd hc hs.1
  | remark t _ _ h => exact absurd ((cls5 35).2 rfl) hs.2
  | bad c t _ c1 c2 hk =>
   have hl0 := hT.1
   simp only at hl0 h3
   obtain ⟨t', hn⟩ := r_next (LTokens.mk ⟨c :: t, p⟩ out) g z hT (by simp only; omega) rfl hk
   apply At_Q60_1_step
   exact ⟨fun h => by simp at h, fun _ => ⟨_, _, _, _, hn, fun h => (by cases h), fun _ => ⟨rfl, rfl⟩⟩⟩
  | tok c t _ x n r' c1 c2 hk h' =>
   have hl0 := hT.1
   simp only at hl0 h3
   have hn := r_next (LTokens.mk ⟨c :: t, p⟩ out) g z hT (by simp only; omega) rfl hk
   obtain ⟨n0, n1⟩ := Tok_len hk _ rfl
   simp only at n0 n1
   simp only [NextP] at hn
   have hT2 : TI (takeT ⟨c :: t, p⟩ n) := hT.take n1
   obtain ⟨k, hk1, hS, hL, hst⟩ := r_skip h' (LTokens.mk (takeT ⟨c :: t, p⟩ n) (out ++ [atT x p])) g z rfl rfl hT2
   have hT3 : TI (takeT (takeT ⟨c :: t, p⟩ n) k) := hT2.take hk1
   have hlen : ((c :: t).drop n).length = (c :: t).length - n := List.length_drop
   have hlen2 : (((c :: t).drop n).drop k).length = (c :: t).length - n - k := by rw [List.length_drop, hlen]
   have key := ih _ _ _ hL hst (by omega) (out ++ [atT x p]) g z hT3 (by simp; omega)
   apply At_Q60_1_step
   refine ⟨fun h => by simp at h, fun _ => ⟨_, _, _, _, hn, fun _ => ⟨_, _, _, hS, ?_⟩, fun h => absurd rfl h⟩⟩
   cases r' with
   | none => exact key
   | some l' =>
    have e : lexP (out ++ [atT x p]) (some l') = lexP out ((some l').map (atT x p :: ·)) := by simp [lexP]
    rw [e] at key
    exact key
theorem r_Lex {s : List UInt8} (hs : s.length ≤ 6000) {r : Option (List Token)} (h : Lx s 0 r) : R_Q60 s (lexL r) (lexE r) := by
 have hT : TI ⟨s, 0⟩ := ⟨hs, Int.le_refl _, by simp only; omega⟩
 obtain ⟨k, hk1, hS, hL, hst⟩ := r_skip h (LTokens.mk ⟨s, 0⟩ []) 0 false rfl rfl hT
 have hT2 : TI (takeT ⟨s, 0⟩ k) := hT.take hk1
 have key := r_Lex_loop _ _ _ _ hL hst (Nat.le_refl _) [] 0 false hT2 (by simp)
 have e : lexP [] r = lexL r := by cases r <;> rfl
 rw [e] at key
 apply Q60_tree
 exact ⟨fun h => by omega, fun _ => ⟨_, _, _, hS, key⟩⟩
def quoF : Nat → List UInt8 → List Part → List UInt8 → Option (List Part × Nat)
 | 0, _, _, _ => none
 | _ + 1, [], _, _ => none
 | n + 1, c :: t, l, b =>
  if c = 34 then some (joinP l b, 1)
  else if c.toNat < 32 then none
  else if c = 92 then
   match t with
   | [] => none
   | x :: t => match escS x with | none => none | some y => (quoF n t l (b ++ [y])).map fun q => (q.1, q.2 + 2)
  else if c = 36 ∧ t.head? = some 123 then
   if (refS t.tail).2 = true then (quoF n (t.tail.drop ((refS t.tail).1.length + 1)) (joinP l b ++ [Part.mk true (refS t.tail).1]) []).map fun q => (q.1, q.2 + (3 + (refS t.tail).1.length)) else none
  else (quoF n t l (b ++ [c])).map fun q => (q.1, q.2 + 1)
theorem quoF_ok : ∀ (n : Nat) (t : List UInt8) (l : List Part) (b : List UInt8), t.length < n → Qx t l b (quoF n t l b)
 | 0, t, l, b, h => by omega
 | n + 1, [], l, b, h => .nil l b
 | n + 1, c :: t, l, b, h => by
  simp only [List.length_cons] at h
  unfold quoF
  split
  ·rename_i c1; subst c1; exact .shut t l b
  ·rename_i c1
   split
   ·rename_i c2; exact .low c t l b c1 c2
   ·rename_i c2
    split
    ·rename_i c3
     subst c3
     cases t with
     | nil => exact .esc0 l b
     | cons x t =>
      dsimp only
      cases hx : escS x with
      | none => exact .escbad x t l b hx
      | some y => exact .esc x y t l b _ hx (quoF_ok n t l (b ++ [y]) (by simp only [List.length_cons] at h; omega))
    ·rename_i c3
     split
     ·rename_i c4
      obtain ⟨rfl, h5⟩ := c4
      cases t with
      | nil => cases h5
      | cons x t =>
       obtain rfl : x = 123 := Option.some.inj h5
       simp only [List.length_cons] at h
       split
       ·rename_i hx; exact .ref t l b _ hx (quoF_ok n _ _ _ (by simp; omega))
       ·rename_i hx; exact .refbad t l b (by simpa using hx)
     ·rename_i c4
      exact .plain c t l b _ c1 c2 c3 (fun e e2 => c4 ⟨e, e2⟩) (quoF_ok n t l (b ++ [c]) (by omega))
def tokF : List UInt8 → Option (Token × Nat)
 | [] => none
 | c :: u =>
  if clsS c = 2 then (if ((c :: u).takeWhile (inC [2, 3])).length ≤ 24 then some (Token.mk 3 ((c :: u).takeWhile (inC [2, 3])) 0 [] 0, spanS [2, 3] (c :: u)) else none)
  else if clsS c = 3 then numS (c :: u)
  else if clsS c = 4 then (quoF (u.length + 1) u [] []).map fun q => (Token.mk 2 [] 0 q.1 0, q.2 + 1)
  else if signS (c :: u) = [] then none else some (Token.mk 4 (signS (c :: u)) 0 [] 0, (signS (c :: u)).length)
theorem tokF_ok (c : UInt8) (u : List UInt8) : Tok (c :: u) (tokF (c :: u)) := by
 simp only [tokF]
 split
 ·rename_i h; exact .name c u h
 ·rename_i h2
  split
  ·rename_i h; exact .num c u h
  ·rename_i h3
   split
   ·rename_i h4
    obtain rfl := (cls4 c).1 h4
    exact .text u _ (quoF_ok _ u [] [] (by omega))
   ·rename_i h4; exact .sign c u h2 h3 h4
def lexF : Nat → List UInt8 → Int → Option (List Token)
 | 0, _, _ => none
 | _ + 1, [], p => some [Token.mk 0 [] 0 [] p]
 | n + 1, c :: t, p =>
  if clsS c = 1 then lexF n t (p + 1)
  else if clsS c = 5 then lexF n (t.dropWhile (· != 10)) (p + ((t.takeWhile (· != 10)).length + 1 : Nat))
  else match tokF (c :: t) with
   | none => none
   | some (x, k) => (lexF n ((c :: t).drop k) (p + k)).map (atT x p :: ·)
theorem lexF_ok : ∀ (n : Nat) (t : List UInt8) (p : Int), t.length < n → Lx t p (lexF n t p)
 | 0, t, p, h => by omega
 | n + 1, [], p, h => .nil p
 | n + 1, c :: t, p, h => by
  simp only [List.length_cons] at h
  have ht := tokF_ok c t
  unfold lexF
  split
  ·rename_i c1; exact .gap c t p _ c1 (lexF_ok n t _ (by omega))
  ·rename_i c1
   split
   ·rename_i c2
    obtain rfl := (cls5 c).1 c2
    have := line_len t
    have hdl : (t.dropWhile (· != 10)).length = t.length - (t.takeWhile (· != 10)).length := by rw [← drop_while_len, List.length_drop]
    exact .remark t p _ (lexF_ok n _ _ (by omega))
   ·rename_i c2
    split
    ·rename_i hk
     rw [hk] at ht
     exact .bad c t p c1 c2 ht
    ·rename_i x k hk
     rw [hk] at ht
     have := Tok_len ht _ rfl
     exact .tok c t p x k _ c1 c2 ht (lexF_ok n _ _ (by simp only [List.length_drop, List.length_cons] at this ⊢; omega))
def lexS (s : List UInt8) : Option (List Token) := lexF (s.length + 1) s 0
theorem lexS_ok (s : List UInt8) : Lx s 0 (lexS s) := lexF_ok _ s 0 (Nat.lt_succ_self _)
theorem rep1 (a b : UInt8) : ∀ (n : Nat) (s : List UInt8), s.length ≤ n → Lib.replaceK [a] [b] (s.count a) s = s.map (fun c => if c = a then b else c)
 | 0, s, h => by
  have : s = [] := List.length_eq_zero_iff.1 (by omega)
  subst this
  rfl
 | n + 1, s, h => by
  by_cases hm : a ∈ s
  ·obtain ⟨u, v, rfl, hu⟩ := splitAt_first a s hm
   have h1 : (u ++ a :: v).takeWhile (· != a) = u := takeWhile_stop _ u a v (fun x hx => by simp; intro e; exact hu (e ▸ hx)) (by simp)
   have hi : Lib.index (u ++ a :: v) [a] = (u.length : Nat) := by rw [index1, if_pos hm, h1]
   have hc : (u ++ a :: v).count a = v.count a + 1 := by
    rw [List.count_append, List.count_cons_self, List.count_eq_zero_of_not_mem hu]
    omega
   simp only [List.length_append, List.length_cons] at h
   rw [hc, Lib.replaceK_hit _ _ _ _ _ hi, List.take_left]
   have hd : (u ++ a :: v).drop (u.length + [a].length) = v := drop_mid a u v
   rw [hd, rep1 a b n v (by omega)]
   have hmu : u.map (fun c => if c = a then b else c) = u := by
    conv => rhs; rw [← List.map_id u]
    refine List.map_congr_left fun x hx => ?_
    rw [if_neg (show ¬ x = a from fun e => hu (e ▸ hx))]
    rfl
   simp [hmu]
  ·rw [List.count_eq_zero_of_not_mem hm]
   show s = _
   conv => lhs; rw [← List.map_id s]
   refine List.map_congr_left fun x hx => ?_
   rw [if_neg (show ¬ x = a from fun e => hm (e ▸ hx))]
   rfl
def lblS (c : UInt8) : UInt8 := if c = 45 then 95 else c
theorem r_ReplaceAll (s : List UInt8) (hs : s.length ≤ 1000000) : R_strings_ReplaceAll s [45] [95] (s.map lblS) := by
 intro S
 refine call_ext sp_strings_ReplaceAll S ?_
 have hc : Lib.countB ⟨s.toArray⟩ ⟨([45] : List UInt8).toArray⟩ = s.count 45 := Lib.count_one 45 s
 have hle : s.count 45 ≤ s.length := List.count_le_length
 have hr : Lib.replaceAll s [45] [95] = s.map lblS := by
  unfold Lib.replaceAll Lib.replace Lib.replaceNum
  rw [if_neg (by decide), if_pos (.inl (by decide)), Lib.count_one, rep1 45 95 s.length s (Nat.le_refl _)]
  rfl
 simp only [replaceX, hc, hr]
 rw [if_pos]
 simp only [List.length_cons, List.length_nil]
 omega
def lblC (c : UInt8) : Bool := decide ((97 ≤ c.toNat ∧ c.toNat ≤ 122) ∨ (48 ≤ c.toNat ∧ c.toNat ≤ 57) ∨ c.toNat = 45 ∨ c.toNat = 95)
def labelS : List UInt8 → Bool
 | [] => false
 | c :: u => decide (97 ≤ c.toNat ∧ c.toNat ≤ 122) && u.all lblC && decide (u.length + 1 ≤ 24)
theorem cls3 (c : UInt8) : clsS c = 3 ↔ 48 ≤ c.toNat ∧ c.toNat ≤ 57 := by
 have := inC3 c
 unfold inC at this
 simpa using this
theorem cls2 (c : UInt8) : clsS c = 2 ↔ c.toNat = 95 ∨ (97 ≤ c.toNat ∧ c.toNat ≤ 122) := by
 unfold clsS
 repeat' split
 all_goals (first | omega | (constructor <;> intro h <;> first | omega | exact absurd h (by decide)))
theorem lblC_in (c : UInt8) : inC [2, 3] (lblS c) = lblC c := by
 have h : inC [2, 3] (lblS c) = true ↔ lblC c = true := by
  rw [inC23, cls2, cls3]
  unfold lblS lblC
  rw [decide_eq_true_eq]
  by_cases h : c = 45
  ·rw [if_pos h, h]; decide
  ·have h' : c.toNat ≠ 45 := fun e => h (UInt8.toNat_inj.1 e)
   rw [if_neg h]
   omega
 cases h1 : inC [2, 3] (lblS c) <;> cases h2 : lblC c <;> simp_all
theorem span_all (cl : List Int) : ∀ l : List UInt8, spanS cl l = l.length ↔ ∀ c ∈ l, inC cl c = true
 | [] => by simp [spanS]
 | c :: l => by
  have ih := span_all cl l
  unfold spanS at ih ⊢
  rw [List.takeWhile_cons]
  by_cases h : inC cl c = true
  ·rw [if_pos h]
   simp [h, ih]
  ·rw [if_neg h]
   simp [h]
theorem name_map (c : UInt8) (u : List UInt8) : nameS ((c :: u).map lblS) = decide (clsS (lblS c) = 2 ∧ u.length + 1 ≤ 24 ∧ u.all lblC = true) := by
 unfold nameS
 refine decide_eq_decide.2 ?_
 simp only [List.map_cons, ne_eq, reduceCtorEq, not_false_eq_true, true_and, List.length_cons, List.length_map]
 rw [endS]
 by_cases h : clsS (lblS c) = 2
 ·rw [if_pos h]
  have e : spanS [2, 3] (lblS c :: u.map lblS) = u.length + 1 ↔ ∀ x ∈ lblS c :: u.map lblS, inC [2, 3] x = true := by
   have := span_all [2, 3] (lblS c :: u.map lblS)
   simpa using this
  rw [e]
  simp only [h, true_and, List.mem_cons, List.mem_map, List.all_eq_true]
  constructor
  ·intro ⟨h1, h2⟩
   refine ⟨h1, fun x hx => ?_⟩
   rw [← lblC_in]
   exact h2 _ (.inr ⟨x, hx, rfl⟩)
  ·intro ⟨h1, h2⟩
   refine ⟨h1, fun x hx => ?_⟩
   rcases hx with rfl | ⟨y, hy, rfl⟩
   ·rw [inC23]; exact .inl h
   ·rw [lblC_in]; exact h2 y hy
 ·rw [if_neg h]
  simp [h]
theorem r_lexLabel (s : List UInt8) (hs : s.length ≤ 1000000) : R_Q81 s (labelS s) := by
 apply Q81_tree
 refine ⟨_, r_ReplaceAll s hs, _, r_lexName _ (by simpa using hs), ?_⟩
 cases s with
 | nil => exact ⟨fun h => absurd h (by decide), fun _ => rfl⟩
 | cons c u =>
  rw [name_map]
  refine ⟨fun h => ⟨c, rfl, fun h45 => ?_, fun h45 => ?_⟩, fun h => ?_⟩
  ·simp only [labelS]
   rw [decide_eq_false (by omega)]
   rfl
  ·obtain ⟨h1, h2, h3⟩ := of_decide_eq_true h
   have hc : ¬ c = 45 := fun e => h45 (by rw [e]; rfl)
   unfold lblS at h1
   rw [if_neg hc, cls2] at h1
   simp only [labelS]
   rw [h3, decide_eq_true h2, Bool.and_true, Bool.and_true]
   rw [← decide_not]
   exact decide_eq_decide.2 (by omega)
  ·simp only [labelS]
   symm
   rw [← Bool.not_eq_true]
   intro h2
   apply h
   simp only [Bool.and_eq_true, decide_eq_true_eq] at h2
   refine decide_eq_true ⟨?_, h2.2, h2.1.2⟩
   rw [cls2]
   unfold lblS
   rw [if_neg (fun e => by have := h2.1.1; rw [e] at this; revert this; decide)]
   exact .inr h2.1.1
theorem joinP_mem {l : List Part} {b : List UInt8} {p : Part} (h : p ∈ joinP l b) : p ∈ l ∨ p.Text = b := by
 unfold joinP at h
 rcases List.mem_append.1 h with h | h
 ·exact .inl h
 ·split at h
  ·cases h
  ·simp at h
   subst h
   exact .inr rfl
theorem Qx_parts {t : List UInt8} {l : List Part} {b : List UInt8} {r : Option (List Part × Nat)} (h : Qx t l b r) : ∀ q, r = some q → ∀ p ∈ q.1, p ∈ l ∨ p.Text.length ≤ b.length + t.length := by
 induction h with
 | nil | low | esc0 | escbad | refbad => intro q hq; cases hq
 | shut t l b =>
  intro q hq p hp
  obtain rfl := Option.some.inj hq
  rcases joinP_mem hp with h | h
  ·exact .inl h
  ·right; rw [h]; omega
 | esc x y t l b r hx _ ih =>
  intro q hq p hp
  obtain ⟨q0, h0, rfl⟩ := Option.map_eq_some_iff.1 hq
  rcases ih q0 h0 p hp with h | h
  ·exact .inl h
  ·right; simp at h ⊢; omega
 | ref t l b r hr _ ih =>
  intro q hq p hp
  obtain ⟨q0, h0, rfl⟩ := Option.map_eq_some_iff.1 hq
  have h1 := refS_len hr
  rcases ih q0 h0 p hp with h | h
  ·rcases List.mem_append.1 h with h | h
   ·rcases joinP_mem h with h | h
    ·exact .inl h
    ·right; rw [h]; omega
   ·simp at h
    subst h
    right
    simp
    omega
  ·right; simp at h ⊢; omega
 | plain c t l b r c1 c2 c3 c4 _ ih =>
  intro q hq p hp
  obtain ⟨q0, h0, rfl⟩ := Option.map_eq_some_iff.1 hq
  rcases ih q0 h0 p hp with h | h
  ·exact .inl h
  ·right; simp at h ⊢; omega
theorem takeW_len (p : UInt8 → Bool) (l : List UInt8) : (l.takeWhile p).length ≤ l.length := (List.takeWhile_sublist p).length_le
theorem Tok_good {t : List UInt8} {r : Option (Token × Nat)} (h : Tok t r) : ∀ x n, r = some (x, n) → x.Kind ≠ 0 ∧ x.Text.length ≤ t.length ∧ ∀ p ∈ x.Parts, p.Text.length ≤ t.length := by
 cases h with
 | name c u h =>
  intro x n hx
  split at hx
  ·cases hx
   exact ⟨by simp, takeW_len _ _, by simp⟩
  ·cases hx
 | num c u h =>
  intro x n hx
  unfold numS at hx
  split at hx
  ·cases hx
   exact ⟨by simp, by simp, by simp⟩
  ·cases hx
 | text u r h =>
  intro x n hx
  obtain ⟨q, hq, e⟩ := Option.map_eq_some_iff.1 hx
  cases e
  refine ⟨by simp, by simp, fun p hp => ?_⟩
  rcases Qx_parts h q hq p hp with h | h
  ·cases h
  ·simp at h ⊢; omega
 | sign c u h2 h3 h4 =>
  intro x n hx
  split at hx
  ·cases hx
  ·cases hx
   exact ⟨by simp, signS_len c u, by simp⟩
theorem Lx_good {l : List UInt8} {p : Int} {r : Option (List Token)} (h : Lx l p r) : ∀ L, r = some L → W L ∧ L.length ≤ l.length + 1 ∧ ∀ t ∈ L, t.Text.length ≤ l.length ∧ ∀ q ∈ t.Parts, q.Text.length ≤ l.length := by
 induction h with
 | nil p =>
  intro L hL
  cases hL
  exact ⟨rfl, by simp, fun t ht => by simp at ht; subst ht; simp⟩
 | gap c t p r hc _ ih =>
  intro L hL
  obtain ⟨h1, h2, h3⟩ := ih L hL
  refine ⟨h1, by simp; omega, fun x hx => ?_⟩
  obtain ⟨h4, h5⟩ := h3 x hx
  exact ⟨by simp; omega, fun q hq => by have := h5 q hq; simp; omega⟩
 | remark t p r _ ih =>
  intro L hL
  obtain ⟨h1, h2, h3⟩ := ih L hL
  have hd : (t.dropWhile (· != 10)).length ≤ t.length := (List.dropWhile_sublist _).length_le
  refine ⟨h1, by simp; omega, fun x hx => ?_⟩
  obtain ⟨h4, h5⟩ := h3 x hx
  exact ⟨by simp; omega, fun q hq => by have := h5 q hq; simp; omega⟩
 | bad => intro L hL; cases hL
 | tok c t p x n r h1 h2 hk _ ih =>
  intro L hL
  obtain ⟨L0, h0, rfl⟩ := Option.map_eq_some_iff.1 hL
  obtain ⟨g1, g2, g3⟩ := Tok_good hk x n rfl
  obtain ⟨l1, l2⟩ := Tok_len hk (x, n) rfl
  obtain ⟨i1, i2, i3⟩ := ih L0 h0
  simp only [List.length_drop] at i2 i3
  simp only at l1 l2
  refine ⟨?_, by simp only [List.length_cons] at *; omega, fun y hy => ?_⟩
  ·cases L0 with
   | nil => exact i1.elim
   | cons a L0 => exact ⟨g1, i1⟩
  ·rcases List.mem_cons.1 hy with rfl | hy
   ·exact ⟨g2, g3⟩
   ·obtain ⟨h4, h5⟩ := i3 y hy
    exact ⟨by omega, fun q hq => by have := h5 q hq; omega⟩
theorem TL_of {s : List UInt8} {L : List Token} (hs : s.length ≤ 6000) (h : lexS s = some L) : TL L ∧ W L := by
 obtain ⟨h1, h2, h3⟩ := Lx_good (lexS_ok s) L h
 exact ⟨⟨by omega, fun t ht => by have := (h3 t ht).1; omega, fun t ht p hp => by have := (h3 t ht).2 p hp; omega⟩, h1⟩
def parseS (s : List UInt8) : PR (List Block) := match lexS s with | none => .er 5 | some L => confT labelS L
theorem r_ParseS (s : List UInt8) (hs : s.length ≤ 6000) : match parseS s with
  | .ok l _ _ => R_Q17 s l 0
  | .er e => e ≠ 0 → R_Q17 s [] e
  | .no => False := by
 have hx := r_Lex hs (lexS_ok s)
 unfold parseS
 cases hl : lexS s with
 | none => rw [hl] at hx; exact fun he => r_Parse_no hx he
 | some L =>
  rw [hl] at hx
  obtain ⟨h1, h2⟩ := TL_of hs hl
  exact r_ParseT hx h1 h2 r_lexLabel
theorem r_Parse_ok {s : List UInt8} (hs : s.length ≤ 6000) {l : List Block} {ts : List Token} {out : List Node} (h : parseS s = .ok l ts out) : R_Q17 s l 0 := by
 have := r_ParseS s hs
 rw [h] at this
 exact this
end Go.Proofs.YtfbcnpbhhooapaaGreatDoor.M
namespace Go.Proofs.YtfbcnpbhhooapaaGreatDoor.M
set_option linter.unusedSimpArgs false
set_option linter.unusedVariables false
set_option linter.unusedSectionVars false
open Go Classical
def σ (x : Token) : Token := ⟨x.Kind, x.Text, x.Num, x.Parts, 0⟩
theorem σ_K (t : Token) : (σ t).Kind = t.Kind := rfl
theorem σ_T (t : Token) : (σ t).Text = t.Text := rfl
def PR.mapT {α : Type} : PR α → PR α
 | .ok a ts out => .ok a (ts.map σ) out
 | .er e => .er e
 | .no => .no
theorem isS_σ (s : List UInt8) (ts : List Token) : isS s (ts.map σ) = isS s ts := by cases ts <;> rfl
theorem tail_σ (ts : List Token) : (ts.map σ).tail = ts.tail.map σ := by cases ts <;> rfl
theorem need_σ {α : Type} (s : List UInt8) (ts : List Token) (k k' : List Token → PR α) (h : ∀ ts, k' (ts.map σ) = (k ts).mapT) : needS s (ts.map σ) k' = (needS s ts k).mapT := by
 simp only [needS, isS_σ, tail_σ, h]
 split <;> rfl
theorem open_σ {α : Type} (s : List UInt8) (d : Nat) (ts : List Token) (k k' : List Token → PR α) (h : ∀ ts, k' (ts.map σ) = (k ts).mapT) : openS s d (ts.map σ) k' = (openS s d ts k).mapT := by
 simp only [openS, isS_σ, tail_σ, h]
 split
 ·split <;> rfl
 ·rfl
theorem bind_σ {α β : Type} (p p' : PR α) (f f' : α → List Token → List Node → PR β) (hp : p' = p.mapT) (h : ∀ a ts out, f' a (ts.map σ) out = (f a ts out).mapT) : p'.bind f' = (p.bind f).mapT := by
 subst hp
 cases p <;> simp [PR.mapT, PR.bind, h]
theorem if_σ {α : Type} (c : Prop) [Decidable c] (p p' q q' : PR α) (hp : p' = p.mapT) (hq : q' = q.mapT) : (if c then p' else q') = (if c then p else q).mapT := by
 split <;> assumption
structure StA (n : Nat) : Prop where
 expr : ∀ d ts out, exprS n d (ts.map σ) out = (exprS n d ts out).mapT
 chain : ∀ r d ts out, chainS n r d (ts.map σ) out = (chainS n r d ts out).mapT
 loop : ∀ r d a ts out, loopS n r d a (ts.map σ) out = (loopS n r d a ts out).mapT
 un : ∀ d ts out, unS n d (ts.map σ) out = (unS n d ts out).mapT
 post : ∀ d ts out, postS n d (ts.map σ) out = (postS n d ts out).mapT
 postl : ∀ d a ts out, postL n d a (ts.map σ) out = (postL n d a ts out).mapT
 many : ∀ d e ts out, manyS n d e (ts.map σ) out = (manyS n d e ts out).mapT
 manyl : ∀ d e l ts out, manyL n d e l (ts.map σ) out = (manyL n d e l ts out).mapT
 prim : ∀ d ts out, primS n d (ts.map σ) out = (primS n d ts out).mapT
theorem stA : ∀ n, StA n
 | 0 => by refine ⟨?_, ?_, ?_, ?_, ?_, ?_, ?_, ?_, ?_⟩ <;> intros <;> simp only [exprS, chainS, loopS, unS, postS, postL, manyS, manyL, primS, PR.mapT]
 | n + 1 => by
  have ih := stA n
  refine ⟨fun d ts out => ?_, fun r d ts out => ?_, fun r d a ts out => ?_, fun d ts out => ?_, fun d ts out => ?_, fun d a ts out => ?_, fun d e ts out => ?_, fun d e l ts out => ?_, fun d ts out => ?_⟩
  ·simp only [exprS]
   refine bind_σ _ _ _ _ (ih.chain _ _ _ _) fun a ts out => ?_
   rw [isS_σ]
   refine if_σ _ _ _ _ _ (open_σ _ _ _ _ _ fun ts => bind_σ _ _ _ _ (ih.expr _ _ _) fun b ts out => need_σ _ _ _ _ fun ts => bind_σ _ _ _ _ (ih.expr _ _ _) fun c ts out => rfl) rfl
  ·simp only [chainS]
   exact if_σ _ _ _ _ _ (ih.un _ _ _) (bind_σ _ _ _ _ (ih.chain _ _ _ _) fun a ts out => ih.loop _ _ _ _ _)
  ·cases ts with
   | nil => simp [loopS, primS, PR.mapT]
   | cons t ts =>
    simp only [loopS, List.map_cons, σ_K, σ_T]
    refine if_σ _ _ _ _ _ ?_ rfl
    cases opS r t.Text with
    | none => rfl
    | some kind => exact bind_σ _ _ _ _ (ih.chain _ _ _ _) fun b ts out => if_σ _ _ _ _ _ rfl (ih.loop _ _ _ _ _)
  ·simp only [unS, isS_σ]
   exact if_σ _ _ _ _ _ (open_σ _ _ _ _ _ fun ts => bind_σ _ _ _ _ (ih.un _ _ _) fun a ts out => rfl) (if_σ _ _ _ _ _ (open_σ _ _ _ _ _ fun ts => bind_σ _ _ _ _ (ih.un _ _ _) fun a ts out => rfl) (ih.post _ _ _))
  ·simp only [postS]
   exact bind_σ _ _ _ _ (ih.prim _ _ _) fun a ts out => ih.postl _ _ _ _
  ·simp only [postL, isS_σ]
   exact if_σ _ _ _ _ _ (open_σ _ _ _ _ _ fun ts => bind_σ _ _ _ _ (ih.expr _ _ _) fun b ts out => need_σ _ _ _ _ fun ts => ih.postl _ _ _ _) rfl
  ·simp only [manyS, isS_σ, tail_σ]
   exact if_σ _ _ _ _ _ rfl (bind_σ _ _ _ _ (ih.expr _ _ _) fun a ts out => ih.manyl _ _ _ _ _)
  ·simp only [manyL, isS_σ, tail_σ]
   exact if_σ _ _ _ _ _ (bind_σ _ _ _ _ (ih.expr _ _ _) fun a ts out => ih.manyl _ _ _ _ _) (need_σ _ _ _ _ fun ts => rfl)
  ·cases ts with
   | nil => simp [loopS, primS, PR.mapT]
   | cons t ts =>
    have e := isS_σ [91] (t :: ts)
    rw [List.map_cons] at e
    simp only [primS, List.map_cons, e, isS_σ, tail_σ]
    refine if_σ _ _ _ _ _ (if_σ _ _ _ _ _ rfl (if_σ _ _ _ _ _ rfl (if_σ _ _ _ _ _ ?_ (open_σ _ _ _ _ _ fun ts => bind_σ _ _ _ _ (ih.many _ _ _ _) fun l ts out => rfl)))) (if_σ _ _ _ _ _ rfl (if_σ _ _ _ _ _ rfl (if_σ _ _ _ _ _ ?_ ?_)))
    ·cases ts.tail with
     | nil => rfl
     | cons u ts => exact if_σ _ _ _ _ _ rfl rfl
    ·exact open_σ _ d (t :: ts) _ _ fun ts => bind_σ _ _ _ _ (ih.many _ _ _ _) fun l ts out => rfl
    ·exact open_σ _ d (t :: ts) _ _ fun ts => bind_σ _ _ _ _ (ih.expr _ _ _) fun a ts out => need_σ _ _ _ _ fun ts => rfl
theorem whole_σ (N : Nat) (ts : List Token) : wholeS N (ts.map σ) = (wholeS N ts).mapT := by
 simp only [wholeS, (stA N).expr]
 cases exprS N 0 ts [] <;> rfl
theorem exprT_σ (L : List Token) : exprT (L.map σ) = (exprT L).mapT := by
 simp only [exprT, List.length_map]
 refine bind_σ _ _ _ _ (whole_σ _ _) fun a ts out => ?_
 cases ts with
 | nil => rfl
 | cons t ts => exact if_σ _ _ _ _ _ rfl rfl
def Quiet (r : Token) : Prop := r.Kind = 0 ∨ (r.Kind = 4 ∧ (r.Text = [125] ∨ r.Text = [41]))
inductive Exs (r : Token) (rest : List Token) : List Token → List Token → Prop
 | nil (e : Token) (he : e.Kind = 0) : Exs r rest [e] (r :: rest)
 | cons (x : Token) (ts ts' : List Token) (hx : x.Kind ≠ 0) (h : Exs r rest ts ts') : Exs r rest (x :: ts) (x :: ts')
def Fol {α : Type} (r : Token) (rest : List Token) (d d' : Nat) (p q : PR α) : Prop := ∀ a ts out, p = .ok a ts out → (∃ ts', q = .ok a ts' out ∧ Exs r rest ts ts') ∨ (d < d' ∧ q = .er 6)
section
variable {r : Token} {rest : List Token} {d d' : Nat}
theorem Fol.ok {α : Type} {a : α} {ts ts' : List Token} {out : List Node} (h : Exs r rest ts ts') : Fol r rest d d' (.ok a ts out) (.ok a ts' out) := by
 intro a1 ts1 out1 e
 cases e
 exact .inl ⟨ts', rfl, h⟩
theorem Fol.er {α : Type} {e : Int} {q : PR α} : Fol r rest d d' (.er e) q := fun _ _ _ h => by cases h
theorem Fol.no {α : Type} {q : PR α} : Fol r rest d d' .no q := fun _ _ _ h => by cases h
theorem Fol.bind {α β : Type} {p q : PR α} {f g : α → List Token → List Node → PR β} (hp : Fol r rest d d' p q) (h : ∀ a ts out ts', Exs r rest ts ts' → Fol r rest d d' (f a ts out) (g a ts' out)) : Fol r rest d d' (p.bind f) (q.bind g) := by
 cases p with
 | er e => exact Fol.er
 | no => exact Fol.no
 | ok a ts out =>
  rcases hp a ts out rfl with ⟨ts', rfl, hx⟩ | ⟨h1, rfl⟩
  ·exact h a ts out ts' hx
  ·exact fun _ _ _ _ => .inr ⟨h1, rfl⟩
theorem Fol.up {α : Type} {p q : PR α} (h : Fol r rest (d + 1) (d' + 1) p q) : Fol r rest d d' p q := by
 intro a ts out e
 rcases h a ts out e with h | ⟨h1, h2⟩
 ·exact .inl h
 ·exact .inr ⟨by omega, h2⟩
theorem Exs.is1 {s : List UInt8} {ts ts' : List Token} (h : Exs r rest ts ts') (hi : isS s ts = true) : isS s ts' = true ∧ Exs r rest ts.tail ts'.tail := by
 cases h with
 | nil e he => simp [isS, he] at hi
 | cons x ts ts' hx h => exact ⟨hi, h⟩
theorem Fol.need {α : Type} {s : List UInt8} {ts ts' : List Token} {k k' : List Token → PR α} (h : Exs r rest ts ts') (hk : ∀ ts ts', Exs r rest ts ts' → Fol r rest d d' (k ts) (k' ts')) : Fol r rest d d' (needS s ts k) (needS s ts' k') := by
 simp only [needS]
 by_cases hi : isS s ts = true
 ·obtain ⟨h1, h2⟩ := h.is1 hi
  rw [if_pos hi, if_pos h1]
  exact hk _ _ h2
 ·rw [if_neg hi]
  exact Fol.er
theorem Fol.opn {α : Type} {s : List UInt8} {ts ts' : List Token} {k k' : List Token → PR α} (hd : d ≤ d') (h : Exs r rest ts ts') (hk : ∀ ts ts', Exs r rest ts ts' → Fol r rest (d + 1) (d' + 1) (k ts) (k' ts')) : Fol r rest d d' (openS s d ts k) (openS s d' ts' k') := by
 simp only [openS]
 by_cases hi : isS s ts = true
 ·obtain ⟨h1, h2⟩ := h.is1 hi
  rw [if_pos hi, if_pos h1]
  by_cases h64 : 64 ≤ d
  ·rw [if_pos h64]; exact Fol.er
  ·rw [if_neg h64]
   by_cases h64' : 64 ≤ d'
   ·rw [if_pos h64']
    exact fun _ _ _ _ => .inr ⟨by omega, rfl⟩
   ·rw [if_neg h64']
    exact (hk _ _ h2).up
 ·rw [if_neg hi]
  exact Fol.er
theorem Fol.ite {α : Type} {c : Prop} [Decidable c] {p p' q q' : PR α} (h1 : c → Fol r rest d d' p p') (h2 : ¬ c → Fol r rest d d' q q') : Fol r rest d d' (if c then p else q) (if c then p' else q') := by
 split
 ·exact h1 ‹_›
 ·exact h2 ‹_›
theorem op_quiet {r : Token} (hq : Quiet r) (h4 : r.Kind = 4) (rank : Nat) : opS rank r.Text = none := by
 rcases hq with h | ⟨_, h⟩
 ·rw [h4] at h; exact absurd h (by decide)
 ·have : ∀ s : List UInt8, s = [125] ∨ s = [41] → opS rank s = none := by
   intro s hs
   unfold opS signsS
   rcases hs with rfl | rfl <;> (split <;> simp [idxS])
  exact this _ h
end
def NE {α : Type} (p : PR α) : Prop := ∀ e, p = .er e → e = 3 ∨ e = 5 ∨ e = 6
theorem NE.ok {α : Type} {a : α} {ts : List Token} {out : List Node} : NE (PR.ok a ts out) := fun _ h => by cases h
theorem NE.no {α : Type} : NE (PR.no : PR α) := fun _ h => by cases h
theorem NE.e3 {α : Type} : NE (PR.er 3 : PR α) := fun _ h => by cases h; exact .inl rfl
theorem NE.e5 {α : Type} : NE (PR.er 5 : PR α) := fun _ h => by cases h; exact .inr (.inl rfl)
theorem NE.e6 {α : Type} : NE (PR.er 6 : PR α) := fun _ h => by cases h; exact .inr (.inr rfl)
theorem NE.bind {α β : Type} {p : PR α} {f : α → List Token → List Node → PR β} (h : NE p) (hf : ∀ a ts out, NE (f a ts out)) : NE (p.bind f) := by
 cases p with
 | ok a ts out => exact hf _ _ _
 | er e => intro e' h'; cases h'; exact h _ rfl
 | no => exact NE.no
theorem NE.ite {α : Type} {c : Prop} [Decidable c] {p q : PR α} (hp : NE p) (hq : NE q) : NE (if c then p else q) := by split <;> assumption
theorem NE.need {α : Type} {s : List UInt8} {ts : List Token} {k : List Token → PR α} (h : ∀ ts, NE (k ts)) : NE (needS s ts k) := NE.ite (h _) NE.e5
theorem NE.opn {α : Type} {s : List UInt8} {d : Nat} {ts : List Token} {k : List Token → PR α} (h : ∀ ts, NE (k ts)) : NE (openS s d ts k) := NE.ite (NE.ite NE.e6 (h _)) NE.e5
structure NeA (n : Nat) : Prop where
 expr : ∀ d ts out, NE (exprS n d ts out)
 chain : ∀ r d ts out, NE (chainS n r d ts out)
 loop : ∀ r d a ts out, NE (loopS n r d a ts out)
 un : ∀ d ts out, NE (unS n d ts out)
 post : ∀ d ts out, NE (postS n d ts out)
 postl : ∀ d a ts out, NE (postL n d a ts out)
 many : ∀ d e ts out, NE (manyS n d e ts out)
 manyl : ∀ d e l ts out, NE (manyL n d e l ts out)
 prim : ∀ d ts out, NE (primS n d ts out)
theorem neA : ∀ n, NeA n
 | 0 => by refine ⟨?_, ?_, ?_, ?_, ?_, ?_, ?_, ?_, ?_⟩ <;> intros <;> simp only [exprS, chainS, loopS, unS, postS, postL, manyS, manyL, primS] <;> exact NE.no
 | n + 1 => by
  have ih := neA n
  refine ⟨fun d ts out => ?_, fun r d ts out => ?_, fun r d a ts out => ?_, fun d ts out => ?_, fun d ts out => ?_, fun d a ts out => ?_, fun d e ts out => ?_, fun d e l ts out => ?_, fun d ts out => ?_⟩
  ·simp only [exprS]
   exact (ih.chain _ _ _ _).bind fun a ts out => NE.ite (NE.opn fun ts => (ih.expr _ _ _).bind fun b ts out => NE.need fun ts => (ih.expr _ _ _).bind fun c ts out => NE.ok) NE.ok
  ·simp only [chainS]
   exact NE.ite (ih.un _ _ _) ((ih.chain _ _ _ _).bind fun a ts out => ih.loop _ _ _ _ _)
  ·cases ts with
   | nil => simp only [loopS]; exact NE.no
   | cons t ts =>
    simp only [loopS]
    refine NE.ite ?_ NE.ok
    split
    ·exact NE.ok
    ·exact (ih.chain _ _ _ _).bind fun b ts out => NE.ite NE.ok (ih.loop _ _ _ _ _)
  ·simp only [unS]
   exact NE.ite (NE.opn fun ts => (ih.un _ _ _).bind fun a ts out => NE.ok) (NE.ite (NE.opn fun ts => (ih.un _ _ _).bind fun a ts out => NE.ok) (ih.post _ _ _))
  ·simp only [postS]
   exact (ih.prim _ _ _).bind fun a ts out => ih.postl _ _ _ _
  ·simp only [postL]
   exact NE.ite (NE.opn fun ts => (ih.expr _ _ _).bind fun b ts out => NE.need fun ts => ih.postl _ _ _ _) NE.ok
  ·simp only [manyS]
   exact NE.ite NE.ok ((ih.expr _ _ _).bind fun a ts out => ih.manyl _ _ _ _ _)
  ·simp only [manyL]
   exact NE.ite ((ih.expr _ _ _).bind fun a ts out => ih.manyl _ _ _ _ _) (NE.need fun ts => NE.ok)
  ·cases ts with
   | nil => simp only [primS]; exact NE.no
   | cons t ts =>
    simp only [primS]
    refine NE.ite (NE.ite NE.ok (NE.ite NE.ok (NE.ite ?_ (NE.opn fun ts => (ih.many _ _ _ _).bind fun l ts out => NE.ok)))) (NE.ite NE.ok (NE.ite NE.ok (NE.ite (NE.opn fun ts => (ih.many _ _ _ _).bind fun l ts out => NE.ok) (NE.opn fun ts => (ih.expr _ _ _).bind fun a ts out => NE.need fun ts => NE.ok))))
    split
    ·exact NE.no
    ·exact NE.ite NE.ok NE.e5
theorem NE.whole (N : Nat) (ts : List Token) : NE (wholeS N ts) := by
 have := (neA N).expr 0 ts []
 simp only [wholeS]
 cases h : exprS N 0 ts [] with
 | ok a ts out => exact NE.ok
 | er e => intro e' h'; cases h'; exact this e h
 | no => exact NE.no
theorem NE.exprT (L : List Token) : NE (exprT L) := by
 refine (NE.whole _ _).bind fun a ts out => ?_
 split
 ·exact NE.no
 ·exact NE.ite NE.ok NE.e5
theorem NE.lab (lab : List UInt8 → Bool) (ts : List Token) : NE (labS lab ts) := by
 cases ts with
 | nil => exact NE.no
 | cons t ts =>
  simp only [labS]
  refine NE.ite ?_ NE.e5
  split
  ·exact NE.ite NE.e5 (NE.ite NE.ok NE.e5)
  ·exact NE.e5
theorem NE.attrs (N : Nat) : ∀ (n : Nat) (acc : List Attr) (ts : List Token), NE (attrsS N n acc ts)
 | 0, _, _ => NE.no
 | n + 1, acc, [] => NE.no
 | n + 1, acc, t :: ts => NE.ite NE.ok (NE.ite (NE.ite NE.e3 (NE.need fun ts => (NE.whole _ _).bind fun a ts out => NE.attrs N n _ _)) NE.e5)
theorem NE.body (N : Nat) (ts : List Token) : NE (bodyS N ts) := NE.need fun ts => NE.attrs N N [] ts
theorem NE.plain (lab : List UInt8 → Bool) (N i : Nat) (ts : List Token) : NE (plainS lab N i ts) := NE.ite ((NE.body _ _).bind fun a ts out => NE.ok) ((NE.lab _ _).bind fun a ts out => (NE.body _ _).bind fun a ts out => NE.ok)
theorem NE.blkIn (lab : List UInt8 → Bool) (N : Nat) (ts : List Token) : NE (blkIn lab N ts) := by
 cases ts with
 | nil => exact NE.no
 | cons t ts =>
  simp only [M.blkIn]
  refine NE.ite ?_ NE.e5
  split
  ·exact NE.e5
  ·exact NE.ite NE.e5 (NE.plain _ _ _ _)
theorem NE.blks (lab : List UInt8 → Bool) (N : Nat) : ∀ (n : Nat) (acc : List Block) (ts : List Token), NE (blksS lab N n acc ts)
 | 0, _, _ => NE.no
 | n + 1, acc, ts => NE.ite NE.ok ((NE.blkIn _ _ _).bind fun a ts out => NE.blks lab N n _ _)
theorem NE.blk (lab : List UInt8 → Bool) (N : Nat) (ts : List Token) : NE (blkS lab N ts) := by
 cases ts with
 | nil => exact NE.no
 | cons t ts =>
  simp only [blkS]
  refine NE.ite ?_ NE.e5
  split
  ·exact NE.e5
  ·exact NE.ite ((NE.lab _ _).bind fun a ts out => NE.need fun ts => (NE.blks _ _ _ _ _).bind fun a ts out => NE.ok) (NE.plain _ _ _ _)
def lpT : Token := ⟨4, [40], 0, [], 0⟩
def rpT : Token := ⟨4, [41], 0, [], 0⟩
theorem Quiet.isS {u : Token} (h : Quiet u) {s : List UInt8} (hs : s ≠ [125] ∧ s ≠ [41]) (rest : List Token) : isS s (u :: rest) = false := by
 rw [← Bool.not_eq_true]
 simp only [M.isS, Bool.and_eq_true, decide_eq_true_eq]
 intro hf
 rcases h with h | ⟨_, h⟩
 ·rw [h] at hf; exact absurd hf.1 (by decide)
 ·rcases h with h | h <;> rw [h] at hf
  ·exact hs.1 hf.2.symm
  ·exact hs.2 hf.2.symm
theorem loop_quiet {u : Token} (h : Quiet u) (n k d : Nat) (a : Int) (rest : List Token) (out : List Node) : loopS (n + 1) k d a (u :: rest) out = .ok a (u :: rest) out := by
 simp only [loopS]
 by_cases h4 : u.Kind = 4
 ·rw [if_pos h4, op_quiet h h4]
 ·rw [if_neg h4]
def okOr {α : Type} (p : PR α) (a : α) (ts : List Token) (o : List Node) : Prop := p = .ok a ts o ∨ p = .er 6
theorem brk {u : Token} (hu : Quiet u) {N d : Nat} {T rest : List Token} {out o : List Node} {a : Int} (h : okOr (exprS N (d + 1) T out) a (rpT :: u :: rest) o) : okOr (exprS (N + 10) d (lpT :: T) out) a (u :: rest) o := by
 have hp : okOr (primS (N + 1) d (lpT :: T) out) a (u :: rest) o := by
  have e : primS (N + 1) d (lpT :: T) out = if 64 ≤ d then .er 6 else (exprS N (d + 1) T out).bind fun a ts out => needS [41] ts fun ts => .ok a ts out := by
   simp [primS, lpT, M.isS, openS]
  rw [e]
  by_cases hd : 64 ≤ d
  ·rw [if_pos hd]; exact .inr rfl
  ·rw [if_neg hd]
   rcases h with h | h
   ·rw [h]; exact .inl rfl
   ·rw [h]; exact .inr rfl
 have hpo : okOr (postS (N + 2) d (lpT :: T) out) a (u :: rest) o := by
  simp only [postS]
  rcases hp with h | h
  ·rw [h]
   left
   simp only [PR.bind, postL]
   rw [hu.isS (by decide)]
   rfl
  ·rw [h]; exact .inr rfl
 have hun : okOr (unS (N + 3) d (lpT :: T) out) a (u :: rest) o := by
  have e : unS (N + 3) d (lpT :: T) out = postS (N + 2) d (lpT :: T) out := by simp [unS, lpT, M.isS]
  rw [e]
  exact hpo
 have h5 : okOr (chainS (N + 4) 5 d (lpT :: T) out) a (u :: rest) o := by
  simp only [chainS]
  exact hun
 have up : ∀ m k, k ≠ 5 → okOr (chainS (m + 1) (k + 1) d (lpT :: T) out) a (u :: rest) o → okOr (chainS (m + 2) k d (lpT :: T) out) a (u :: rest) o := by
  intro m k hk h
  rw [chainS, if_neg hk]
  rcases h with h | h
  ·rw [h]
   left
   simp only [PR.bind]
   exact loop_quiet hu _ _ _ _ _ _
  ·rw [h]; exact .inr rfl
 have h0 := up _ 0 (by decide) (up _ 1 (by decide) (up _ 2 (by decide) (up _ 3 (by decide) (up _ 4 (by decide) h5))))
 simp only [exprS]
 rcases h0 with h | h
 ·rw [h]
  left
  simp only [PR.bind]
  rw [hu.isS (by decide)]
  rfl
 ·rw [h]; exact .inr rfl
def tn (s : List UInt8) : Token := ⟨3, s, 0, [], 0⟩
def tg (s : List UInt8) : Token := ⟨4, s, 0, [], 0⟩
end Go.Proofs.YtfbcnpbhhooapaaGreatDoor.M
namespace Go.Proofs.YtfbcnpbhhooapaaGreatDoor.M
set_option linter.unusedSimpArgs false
set_option linter.unusedVariables false
open Go Classical
theorem takeWhile_app {p : UInt8 → Bool} {w R : List UInt8} (h : ∀ x ∈ w, p x = true) (hR : ∀ c, R.head? = some c → p c = false) : (w ++ R).takeWhile p = w := by
 cases R with
 | nil => rw [List.append_nil]; exact takeWhile_all p w h
 | cons c R => exact takeWhile_stop p w c R h (hR c rfl)
def headOk (R0 R : List UInt8) : Prop := R.head? = R0.head? ∨ R.head? = some 32 ∨ R.head? = some 10 ∨ R.head? = some 35
theorem head_dropWhile (p : UInt8 → Bool) : ∀ (l : List UInt8) (c : UInt8), (l.dropWhile p).head? = some c → p c = false
 | [], c, h => by cases h
 | a :: l, c, h => by
  rw [List.dropWhile_cons] at h
  split at h
  ·exact head_dropWhile p l c h
  ·rename_i hp
   obtain rfl := Option.some.inj h
   simpa using hp
theorem headOk_stop {cl : List Int} (h32 : inC cl 32 = false) (h10 : inC cl 10 = false) (h35 : inC cl 35 = false) {l R : List UInt8} (h : headOk (l.dropWhile (inC cl)) R) : ∀ c, R.head? = some c → inC cl c = false := by
 intro c hc
 rcases h with h | h | h | h
 ·exact head_dropWhile _ l c (h ▸ hc)
 all_goals (rw [h] at hc; obtain rfl := Option.some.inj hc; assumption)
theorem refS_of {x y v : List UInt8} (hx : nameS x = true) (hy : nameS y = true) : refS (x ++ 46 :: (y ++ 125 :: v)) = (x ++ 46 :: y, true) := by
 have h125 : (125 : UInt8) ∉ x ++ 46 :: y := by
  intro h
  rcases List.mem_append.1 h with h | h
  ·have := name_in hx _ h; rw [in125] at this; cases this
  ·rcases List.mem_cons.1 h with h | h
   ·exact absurd h (by decide)
   ·have := name_in hy _ h; rw [in125] at this; cases this
 have h46 : (46 : UInt8) ∉ x := by
  intro h
  have := name_in hx _ h; rw [in46] at this; cases this
 have e : x ++ 46 :: (y ++ 125 :: v) = (x ++ 46 :: y) ++ 125 :: v := by simp
 unfold refS dottedS
 rw [e, cut_split 125 _ _ h125]
 simp only
 rw [cut_split 46 _ _ h46]
 simp [hx, hy]
theorem Qx_stable {t : List UInt8} {l : List Part} {b : List UInt8} {r : Option (List Part × Nat)} (h : Qx t l b r) : ∀ q, r = some q → ∀ R, Qx (t.take q.2 ++ R) l b (some q) := by
 induction h with
 | nil | low | esc0 | escbad | refbad => intro q hq; cases hq
 | shut t l b => intro q hq R; obtain rfl := Option.some.inj hq; exact .shut R l b
 | esc x y t l b r hx _ ih =>
  intro q hq R
  obtain ⟨q0, h0, rfl⟩ := Option.map_eq_some_iff.1 hq
  have := Qx.esc x y _ l b _ hx (ih q0 h0 R)
  exact this
 | ref t l b r hr _ ih =>
  intro q hq R
  obtain ⟨q0, h0, rfl⟩ := Option.map_eq_some_iff.1 hq
  obtain ⟨x, y, v, e1, hx, hy, e2⟩ := ref_split hr
  have hv : t.drop ((refS t).1.length + 1) = v := by
   rw [e2, e1, show x ++ 46 :: (y ++ 125 :: v) = (x ++ 46 :: y) ++ 125 :: v by simp]
   exact drop_mid 125 _ v
  have ih := ih q0 h0 R
  rw [hv] at ih
  have hlen : (x ++ 46 :: y).length = (refS t).1.length := by rw [e2]
  have et : t.take (q0.2 + (1 + (refS t).1.length)) = (x ++ 46 :: y) ++ 125 :: v.take q0.2 := by
   rw [← hlen, e1, show x ++ 46 :: (y ++ 125 :: v) = (x ++ 46 :: y) ++ 125 :: v by simp]
   generalize x ++ 46 :: y = z
   rw [List.take_append, List.take_of_length_le (by omega), show q0.2 + (1 + z.length) - z.length = q0.2 + 1 by omega]
   rfl
  show Qx ((36 :: 123 :: t).take (q0.2 + (3 + (refS t).1.length)) ++ R) l b _
  rw [show q0.2 + (3 + (refS t).1.length) = (q0.2 + (1 + (refS t).1.length)) + 1 + 1 by omega, List.take_succ_cons, List.take_succ_cons, et]
  have hS : refS (x ++ 46 :: (y ++ 125 :: (v.take q0.2 ++ R))) = (x ++ 46 :: y, true) := refS_of hx hy
  have key := Qx.ref (x ++ 46 :: (y ++ 125 :: (v.take q0.2 ++ R))) l b (some q0) (by rw [hS]) (by
   rw [hS]
   simp only
   rw [show x ++ 46 :: (y ++ 125 :: (v.take q0.2 ++ R)) = (x ++ 46 :: y) ++ 125 :: (v.take q0.2 ++ R) by simp, drop_mid, ← e2]
   exact ih)
  rw [hS] at key
  simp only [Option.map_some] at key
  rw [hlen] at key
  have e4 : (36 :: 123 :: ((x ++ 46 :: y) ++ 125 :: v.take q0.2)) ++ R = 36 :: 123 :: (x ++ 46 :: (y ++ 125 :: (v.take q0.2 ++ R))) := by simp
  rw [e4]
  rw [show q0.2 + (1 + (refS t).1.length) + 1 + 1 = q0.2 + (3 + (refS t).1.length) by omega]
  exact key
 | plain c t l b r c1 c2 c3 c4 hq0 ih =>
  intro q hq R
  obtain ⟨q0, h0, rfl⟩ := Option.map_eq_some_iff.1 hq
  have hpos := Qx_len hq0 q0 h0
  have hh : (t.take q0.2 ++ R).head? = t.head? := by
   cases t with
   | nil => simp at hpos; omega
   | cons a t =>
    obtain ⟨m, hm⟩ : ∃ m, q0.2 = m + 1 := ⟨q0.2 - 1, by omega⟩
    rw [hm, List.take_succ_cons]
    rfl
  have := Qx.plain c _ l b _ c1 c2 c3 (fun e => by rw [hh]; exact c4 e) (ih q0 h0 R)
  exact this
theorem twos_second {a b : UInt8} (h : [a, b] ∈ twos) : b = 61 ∨ b = 38 ∨ b = 124 := by
 simp only [twos, List.mem_cons, List.cons.injEq, and_true, List.not_mem_nil, or_false] at h
 rcases h with h | h | h | h | h | h <;> simp [h.2]
theorem sign_sep {c r : UInt8} (R : List UInt8) (h : r = 32 ∨ r = 10 ∨ r = 35) : signS (c :: r :: R) = sign1 c := by
 rw [signS, sign2, if_neg]
 intro e
 have := twos_second e
 rcases h with rfl | rfl | rfl <;> simp at this
theorem Tok_stable {z : List UInt8} {x : Token} {n : Nat} (h : Tok z (some (x, n))) (R : List UInt8) (hR : headOk (z.drop n) R) : Tok (z.take n ++ R) (some (x, n)) := by
 obtain ⟨r, hr⟩ : ∃ r, r = some (x, n) := ⟨_, rfl⟩
 rw [← hr] at h
 cases h with
 | name c u h =>
  split at hr
  ·rename_i h24
   obtain ⟨rfl, rfl⟩ := Prod.mk.inj (Option.some.inj hr)
   have hd : (c :: u).drop (spanS [2, 3] (c :: u)) = (c :: u).dropWhile (inC [2, 3]) := drop_while_len _ _
   have ht : (c :: u).take (spanS [2, 3] (c :: u)) = (c :: u).takeWhile (inC [2, 3]) := take_while_len _ _
   rw [hd] at hR
   have hst := headOk_stop (by decide) (by decide) (by decide) hR
   have hc : inC [2, 3] c = true := (inC23 c).2 (.inl h)
   have hw : ((c :: u).takeWhile (inC [2, 3]) ++ R).takeWhile (inC [2, 3]) = (c :: u).takeWhile (inC [2, 3]) := takeWhile_app (fun y hy => List.all_eq_true.1 List.all_takeWhile y hy) hst
   rw [ht]
   obtain ⟨w, ew⟩ : ∃ w, (c :: u).takeWhile (inC [2, 3]) = c :: w := ⟨_, by rw [List.takeWhile_cons, if_pos hc]⟩
   have key := Tok.name c (w ++ R) h
   rw [← List.cons_append, ← ew, hw, if_pos h24] at key
   unfold spanS at key ⊢
   rw [hw] at key
   exact key
  ·cases hr
 | num c u h =>
  have hd : (c :: u).drop (spanS [3] (c :: u)) = (c :: u).dropWhile (inC [3]) := drop_while_len _ _
  have ht : (c :: u).take (spanS [3] (c :: u)) = (c :: u).takeWhile (inC [3]) := take_while_len _ _
  have hr0 := hr
  unfold numS at hr
  split at hr
  ·rename_i hok
   obtain ⟨rfl, rfl⟩ := Prod.mk.inj (Option.some.inj hr)
   unfold spanS at hd ht
   rw [hd] at hR
   have hst := headOk_stop (by decide) (by decide) (by decide) hR
   have hc : inC [3] c = true := by unfold inC; simp [h]
   have hw : ((c :: u).takeWhile (inC [3]) ++ R).takeWhile (inC [3]) = (c :: u).takeWhile (inC [3]) := takeWhile_app (fun y hy => List.all_eq_true.1 List.all_takeWhile y hy) hst
   rw [ht]
   obtain ⟨w, ew⟩ : ∃ w, (c :: u).takeWhile (inC [3]) = c :: w := ⟨_, by rw [List.takeWhile_cons, if_pos hc]⟩
   have key := Tok.num c (w ++ R) h
   unfold numS at key
   rw [← List.cons_append, ← ew, hw, if_pos hok] at key
   exact key
  ·cases hr
 | text u q h =>
  obtain ⟨q0, h0, e⟩ := Option.map_eq_some_iff.1 hr
  obtain ⟨rfl, rfl⟩ := Prod.mk.inj e
  have key := Tok.text _ _ (Qx_stable h q0 h0 R)
  exact key
 | sign c u h2 h3 h4 =>
  split at hr
  ·cases hr
  ·rename_i hne
   obtain ⟨rfl, rfl⟩ := Prod.mk.inj (Option.some.inj hr)
   have goal : ∀ R', (c :: u).take (signS (c :: u)).length ++ R = c :: R' → signS (c :: R') = signS (c :: u) → Tok ((c :: u).take (signS (c :: u)).length ++ R) (some (Token.mk 4 (signS (c :: u)) 0 [] 0, (signS (c :: u)).length)) := by
    intro R' e1 e2
    have key := Tok.sign c R' h2 h3 h4
    rw [e2, if_neg hne] at key
    rw [e1]
    exact key
   have one : sign1 c ≠ [] → sign1 c = [c] := by
    intro h
    unfold sign1 at h ⊢
    split
    ·rfl
    ·rename_i hn; rw [if_neg hn] at h; exact absurd rfl h
   cases u with
   | nil =>
    have e1 : signS [c] = [c] := one hne
    refine goal R (by rw [e1]; rfl) ?_
    rw [e1] at hR
    cases R with
    | nil => rfl
    | cons r R =>
     have hs : r = 32 ∨ r = 10 ∨ r = 35 := by
      rcases hR with h | h | h | h
      ·cases h
      all_goals (have := Option.some.inj h; simp [this])
     rw [sign_sep R hs]
     rfl
   | cons b u =>
    by_cases h2 : [c, b] ∈ twos
    ·have e1 : signS (c :: b :: u) = [c, b] := by rw [signS, sign2, if_pos h2]
     refine goal (b :: R) (by rw [e1]; rfl) ?_
     rw [e1, signS, sign2, if_pos h2]
    ·have e0 : signS (c :: b :: u) = sign1 c := by rw [signS, sign2, if_neg h2]
     have e1 : signS (c :: b :: u) = [c] := by rw [e0]; exact one (e0 ▸ hne)
     refine goal R (by rw [e1]; rfl) ?_
     rw [e1] at hR
     cases R with
     | nil =>
      rcases hR with h | h | h | h <;> cases h
     | cons r R =>
      rcases hR with h | h | h | h
      ·have hb : r = b := Option.some.inj h
       rw [hb, e0, signS, sign2, if_neg h2]
      all_goals (rw [sign_sep R (by have := Option.some.inj h; simp [this]), e0])
def Lxs (t : List UInt8) (L : List Token) : Prop := ∀ p, ∃ L0, Lx t p (some L0) ∧ L0.map σ = L
def eT : Token := ⟨0, [], 0, [], 0⟩
theorem Lxs_nil : Lxs [] [eT] := fun p => ⟨_, .nil p, rfl⟩
theorem Lxs_gap {c : UInt8} (hc : clsS c = 1) {t : List UInt8} {L : List Token} (h : Lxs t L) : Lxs (c :: t) L := fun p => by
 obtain ⟨L0, h1, h2⟩ := h (p + 1)
 exact ⟨L0, .gap c t p _ hc h1, h2⟩
theorem Lxs_tok1 {c : UInt8} {t : List UInt8} {x : Token} {n : Nat} (h1 : clsS c ≠ 1) (h2 : clsS c ≠ 5) (hk : Tok (c :: t) (some (x, n))) {L : List Token} (h : Lxs ((c :: t).drop n) L) : Lxs (c :: t) (σ x :: L) := fun p => by
 obtain ⟨L0, h3, h4⟩ := h (p + n)
 refine ⟨_, .tok c t p x n _ h1 h2 hk h3, ?_⟩
 rw [List.map_cons, h4]
 rfl
theorem Lxs_tok {w : List UInt8} {x : Token} (hs : stands w) (hk : Tok w (some (x, w.length))) {R : List UInt8} (hR : headOk [] R) {L : List Token} (h : Lxs R L) : Lxs (w ++ R) (σ x :: L) := by
 have h1 := Tok_stable hk R (by rw [List.drop_length]; exact hR)
 rw [List.take_length] at h1
 cases w with
 | nil => cases hk
 | cons c u =>
  have h2 : Lxs ((c :: u ++ R).drop (c :: u).length) L := by rw [List.drop_left]; exact h
  exact Lxs_tok1 hs.1 hs.2 h1 h2
theorem r_ExprX {s : List UInt8} (hs : s.length ≤ 6000) {L : List Token} (h : Lxs s L) : match exprT L with
  | .ok l _ _ => R_Q20 s l 0
  | .er e => e ≠ 0 → R_Q20 s [] e
  | .no => False := by
 obtain ⟨L0, h1, h2⟩ := h 0
 obtain ⟨g1, g2, g3⟩ := Lx_good h1 L0 rfl
 have hT : TL L0 := ⟨by omega, fun t ht => by have := (g3 t ht).1; omega, fun t ht p hp => by have := (g3 t ht).2 p hp; omega⟩
 have hx : R_Q60 s L0 0 := r_Lex hs h1
 have key := r_ExprT hx hT g1
 rw [← h2, exprT_σ]
 cases hc : exprT L0 with
 | ok l ts out => rw [hc] at key; exact key
 | er e => rw [hc] at key; exact key
 | no => rw [hc] at key; exact key
theorem r_ExprXok {s : List UInt8} (hs : s.length ≤ 6000) {L : List Token} (h : Lxs s L) {l : List Node} {ts : List Token} {o : List Node} (hc : exprT L = .ok l ts o) : R_Q20 s l 0 := by
 have := r_ExprX hs h
 rw [hc] at this
 exact this
end Go.Proofs.YtfbcnpbhhooapaaGreatDoor.M
namespace Go.Proofs.YtfbcnpbhhooapaaGreatDoor.M
open Go
set_option linter.unusedVariables false
def sc_Q18 : SFunc := ⟨1, 4, .seq (.reg [⟨some 2, none, .v (.mov (.c (.int .i64 0)))⟩]) (.seq (.reg [⟨some 3, none, .v (.mov (.t 0))⟩, ⟨some 2, none, .v (.mov (.t 3))⟩]) .ret), [(.t 2)]⟩
theorem U_Q18 : type_of% (sc_Q18.eq_1) := sc_Q18.eq_1
theorem comp_Q18 : comp Tryz.prog Tryz.f18 = some sc_Q18 := by kernel_rfl
def c_Q15_1 : SC := .seq (.reg [⟨some 7, none, .v (.mov (.t 2))⟩, ⟨some 8, none, .call (.c (.func 18 [])) [(.t 7)]⟩, ⟨some 9, none, .v (.bin .eql (.t 8) (.c (.int .i64 0)))⟩, ⟨some 10, none, .v (.mov (.t 9))⟩, ⟨some 11, some (10, true), .v (.mov (.t 1))⟩, ⟨some 12, some (10, true), .v (.len false (.t 11))⟩, ⟨some 13, some (10, true), .v (.bin .eql (.t 12) (.c (.int .i64 1)))⟩, ⟨some 14, none, .v (.pick (.t 10) (.t 13) (.c (.bool false)))⟩, ⟨some 15, none, .v (.mov (.t 14))⟩, ⟨some 16, some (15, true), .v (.mov (.t 1))⟩, ⟨some 17, some (15, true), .v (.iaddr 4 (.t 16) (.c (.int .i64 0)))⟩, ⟨some 18, some (15, true), .v (.faddr 0 (.t 17))⟩, ⟨some 19, some (15, true), .v (.load none (.t 18))⟩, ⟨some 20, some (15, true), .v (.bin .eql (.t 19) (.c (.int .i64 3)))⟩, ⟨some 21, none, .v (.pick (.t 15) (.t 20) (.c (.bool false)))⟩, ⟨some 22, none, .v (.mov (.t 21))⟩, ⟨some 23, some (22, true), .v (.mov (.t 1))⟩, ⟨some 24, some (22, true), .v (.iaddr 4 (.t 23) (.c (.int .i64 0)))⟩, ⟨some 25, some (22, true), .v (.faddr 1 (.t 24))⟩, ⟨some 26, some (22, true), .v (.load none (.t 25))⟩, ⟨some 27, some (22, true), .v (.bin .eql (.t 26) (.c (.str [97])))⟩, ⟨some 28, none, .v (.pick (.t 22) (.t 27) (.c (.bool false)))⟩, ⟨some 29, none, .v (.mov (.t 28))⟩, ⟨some 30, some (29, true), .v (.mov (.t 1))⟩, ⟨some 31, some (29, true), .v (.iaddr 4 (.t 30) (.c (.int .i64 0)))⟩, ⟨some 32, some (29, true), .v (.faddr 2 (.t 31))⟩, ⟨some 33, some (29, true), .v (.load none (.t 32))⟩, ⟨some 34, some (29, true), .v (.len false (.t 33))⟩, ⟨some 35, some (29, true), .v (.bin .eql (.t 34) (.c (.int .i64 1)))⟩, ⟨some 36, none, .v (.pick (.t 29) (.t 35) (.c (.bool false)))⟩, ⟨some 0, none, .v (.mov (.t 36))⟩]) .ret
def c_Q15_2 : SC := .seq (.reg [⟨some 4, none, .call (.c (.func 17 [])) [(.c (.str [110, 111, 100, 101, 32, 34, 97, 34, 32, 123, 32, 99, 112, 117, 32, 61, 32, 49, 32, 125]))]⟩, ⟨some 3, none, .v (.mov (.t 4))⟩, ⟨some 5, none, .v (.extract 0 (.t 3))⟩, ⟨some 6, none, .v (.extract 1 (.t 3))⟩, ⟨some 1, none, .v (.mov (.t 5))⟩, ⟨some 2, none, .v (.mov (.t 6))⟩]) c_Q15_1
def sc_Q15 : SFunc := ⟨0, 37, .seq (.reg [⟨some 0, none, .v (.mov (.c (.bool false)))⟩]) c_Q15_2, [(.t 0)]⟩
theorem U_Q15 : type_of% (And.intro (ue c_Q15_1.eq_1) <| And.intro (ue c_Q15_2.eq_1) <| sc_Q15.eq_1) := And.intro (ue c_Q15_1.eq_1) <| And.intro (ue c_Q15_2.eq_1) <| sc_Q15.eq_1
theorem comp_Q15 : comp Tryz.prog Tryz.f15 = some sc_Q15 := by kernel_rfl
end Go.Proofs.YtfbcnpbhhooapaaGreatDoor.M
namespace Go.Proofs.YtfbcnpbhhooapaaGreatDoor.M
set_option linter.unusedSimpArgs false
set_option linter.unusedVariables false
open Go Classical
theorem sp_Q18 : SP 18 = some (.code sc_Q18) := SPof_code rfl Tryz.func18 comp_Q18
theorem Q18_tree (e_ : Int) (r : Int) (T :
  e_ = r) : R_Q18 e_ r := by
 intro S
 rw [call_code sp_Q18 _ _ rfl]
 have F := U_Q18
 obtain rfl := T
 exact fi F
theorem sp_Q15 : SP 15 = some (.code sc_Q15) := SPof_code rfl Tryz.func15 comp_Q15
theorem Q15_tree  (r : Bool) (T :
  ∃ (r1 : List Block) (r2 : Int), (R_Q17 [110, 111, 100, 101, 32, 34, 97, 34, 32, 123, 32, 99, 112, 117, 32, 61, 32, 49, 32, 125] r1 r2) ∧
 ∃ (r3 : Int), (R_Q18 r2 r3) ∧
 ((r3 = 0) →
  (((r1.length : Int) = 1) →
   ∃ (v4 : Block), (r1[0]? = some v4) ∧
   ((v4.Kind = 3) →
    ((v4.Label = [97]) →
     (decide ((v4.Attrs.length : Int) = 1)) = r) ∧
    (¬ (v4.Label = [97]) →
     false = r)) ∧
   (¬ (v4.Kind = 3) →
    false = r)) ∧
  (¬ ((r1.length : Int) = 1) →
   false = r)) ∧
 (¬ (r3 = 0) →
  false = r)) : R_Q15  r := by
 intro S
 rw [call_code sp_Q15 _ _ rfl]
 have F := U_Q15
 obtain ⟨r1, r2, q1, r3, q2, T⟩ := T
 simp only [R_Q17, le, List.cons_append, List.nil_append] at q1
 simp only [R_Q18, le, List.cons_append, List.nil_append] at q2
 replace F := aa q1 <| aa q2 <| F
 by_cases c3 : r3 = 0
 · replace T := T.1 c3
   replace F := aa (eq_true c3) <| F
   by_cases c4 : (r1.length : Int) = 1
   · replace T := T.1 c4
     obtain ⟨v4, q5, T⟩ := T
     replace F := aa (eq_true c4) <| aa q5 <| F
     by_cases c6 : v4.Kind = 3
     · replace T := T.1 c6
       replace F := aa (eq_true c6) <| F
       by_cases c7 : v4.Label = [97]
       · replace T := T.1 c7
         obtain rfl := T
         exact fi (aa (eq_true c7) <| F)
       · replace T := T.2 c7
         obtain rfl := T
         exact fi (aa (eq_false c7) <| F)
     · replace T := T.2 c6
       obtain rfl := T
       exact fi (aa (eq_false c6) <| F)
   · replace T := T.2 c4
     obtain rfl := T
     exact fi (aa (eq_false c4) <| F)
 · replace T := T.2 c3
   obtain rfl := T
   exact fi (aa (eq_false c3) <| F)
theorem r_Num1 (e : Int) : R_Q18 e e := Q18_tree _ _ rfl
theorem r_awake2 : R_Q15 true := by
 have h := r_Parse_ok (s := [110, 111, 100, 101, 32, 34, 97, 34, 32, 123, 32, 99, 112, 117, 32, 61, 32, 49, 32, 125]) (l := [⟨3, [97], [⟨[99, 112, 117], [⟨1, 1, [], [], []⟩]⟩], []⟩]) (ts := [⟨0, [], 0, [], 20⟩]) (out := []) (by decide) (by kernel_rfl)
 exact Q15_tree _ ⟨_, _, h, _, r_Num1 _, fun _ => ⟨fun _ => ⟨_, rfl, fun _ => ⟨fun _ => rfl, fun hf => absurd rfl hf⟩, fun hf => absurd rfl hf⟩, fun hf => absurd rfl hf⟩, fun hf => absurd rfl hf⟩
end Go.Proofs.YtfbcnpbhhooapaaGreatDoor.M
namespace Go.Proofs.YtfbcnpbhhooapaaGreatDoor.M
open Go
set_option linter.unusedVariables false
end Go.Proofs.YtfbcnpbhhooapaaGreatDoor.M
namespace Go.Proofs.YtfbcnpbhhooapaaGreatDoor.M
set_option linter.unusedSimpArgs false
set_option linter.unusedVariables false
open Go Classical
end Go.Proofs.YtfbcnpbhhooapaaGreatDoor.M
namespace Go.Proofs.YtfbcnpbhhooapaaGreatDoor.M
set_option linter.unusedSimpArgs false
set_option linter.unusedVariables false
set_option linter.unusedSectionVars false
open Go Classical
def Gt (K : Nat) (ts : List Token) : Prop := ts.length ≤ K ∧ ∀ t ∈ ts, t.Parts.length ≤ K
def Gn (K : Nat) (out : List Node) : Prop := ∀ n ∈ out, n.Kids.length ≤ K ∧ n.Parts.length ≤ K
theorem Gt.tail {K : Nat} {ts : List Token} (h : Gt K ts) : Gt K ts.tail := ⟨by have := h.1; simp; omega, fun t ht => h.2 t (List.mem_of_mem_tail ht)⟩
structure Pq (K : Nat) (lt lm : Nat) (ts : List Token) (out : List Node) : Prop where
 len : ts.length ≤ lt
 sum : ts.length + out.length ≤ lm
 toks : Gt K ts
 nodes : Gn K out
def Po {α : Type} (K : Nat) (lt lm : Nat) (S : α → Nat → Prop) (p : PR α) : Prop := ∀ a ts out, p = .ok a ts out → Pq K lt lm ts out ∧ S a ts.length
section
variable {K lt lm lt' lm' : Nat} {α β : Type}
theorem Po.er {S : α → Nat → Prop} {e : Int} : Po K lt lm S (.er e : PR α) := fun _ _ _ h => by cases h
theorem Po.no {S : α → Nat → Prop} : Po K lt lm S (.no : PR α) := fun _ _ _ h => by cases h
theorem Po.ok {S : α → Nat → Prop} {a : α} {ts : List Token} {out : List Node} (h : Pq K lt lm ts out) (hs : S a ts.length) : Po K lt lm S (.ok a ts out) := fun _ _ _ e => by cases e; exact ⟨h, hs⟩
theorem Po.bind {S : α → Nat → Prop} {S' : β → Nat → Prop} {p : PR α} {f : α → List Token → List Node → PR β} (hp : Po K lt lm S p) (hf : ∀ a ts out, Pq K lt lm ts out → S a ts.length → Po K lt' lm' S' (f a ts out)) : Po K lt' lm' S' (p.bind f) := by
 cases p with
 | ok a ts out => obtain ⟨h1, h2⟩ := hp a ts out rfl; exact hf a ts out h1 h2
 | er e => exact Po.er
 | no => exact Po.no
theorem Po.ite {S : α → Nat → Prop} {c : Prop} [Decidable c] {p q : PR α} (h1 : c → Po K lt lm S p) (h2 : ¬ c → Po K lt lm S q) : Po K lt lm S (if c then p else q) := by
 split
 ·exact h1 ‹_›
 ·exact h2 ‹_›
theorem Po.mono {S S' : α → Nat → Prop} {p : PR α} (h : Po K lt lm S p) (h1 : lt ≤ lt') (h2 : lm ≤ lm') (hS : ∀ a n, n ≤ lt → S a n → S' a n) : Po K lt' lm' S' p := fun a ts out e => by
 obtain ⟨q, s⟩ := h a ts out e
 exact ⟨⟨Nat.le_trans q.len h1, Nat.le_trans q.sum h2, q.toks, q.nodes⟩, hS _ _ q.len s⟩
theorem Pq.shift {ts : List Token} {out : List Node} (h : Pq K lt lm ts out) {s : List UInt8} (hi : isS s ts = true) : 1 ≤ lt ∧ 1 ≤ lm ∧ Pq K (lt - 1) (lm - 1) ts.tail out := by
 cases ts with
 | nil => cases hi
 | cons t ts =>
  have h1 := h.len
  have h2 := h.sum
  simp only [List.length_cons] at h1 h2
  exact ⟨by omega, by omega, by simp only [List.tail_cons]; omega, by simp only [List.tail_cons]; omega, h.toks.tail, h.nodes⟩
theorem Po.need {S : α → Nat → Prop} {s : List UInt8} {ts : List Token} {out : List Node} {k : List Token → PR α} (h : Pq K lt lm ts out) (hk : ∀ ts, 1 ≤ lt → 1 ≤ lm → Pq K (lt - 1) (lm - 1) ts out → Po K lt' lm' S (k ts)) : Po K lt' lm' S (needS s ts k) :=
 Po.ite (fun hi => by obtain ⟨h1, h2, h3⟩ := h.shift hi; exact hk _ h1 h2 h3) fun _ => Po.er
theorem Po.opn {S : α → Nat → Prop} {s : List UInt8} {d : Nat} {ts : List Token} {out : List Node} {k : List Token → PR α} (h : Pq K lt lm ts out) (hk : ∀ ts, 1 ≤ lt → 1 ≤ lm → Pq K (lt - 1) (lm - 1) ts out → Po K lt' lm' S (k ts)) : Po K lt' lm' S (openS s d ts k) :=
 Po.ite (fun hi => Po.ite (fun _ => Po.er) fun _ => by obtain ⟨h1, h2, h3⟩ := h.shift hi; exact hk _ h1 h2 h3) fun _ => Po.er
theorem Pq.mono {ts : List Token} {out : List Node} (h : Pq K lt lm ts out) (h1 : lt ≤ lt') (h2 : lm ≤ lm') : Pq K lt' lm' ts out := ⟨Nat.le_trans h.len h1, Nat.le_trans h.sum h2, h.toks, h.nodes⟩
end
def tnumT (j : Nat) : Token := ⟨1, [], (j : Int), [], 0⟩
def Calm (u : Token) : Prop := Quiet u ∨ u.Kind = 3
theorem Calm.isS {u : Token} (h : Calm u) {s : List UInt8} (hs : s ≠ [125] ∧ s ≠ [41]) (rest : List Token) : isS s (u :: rest) = false := by
 rcases h with h | h
 ·exact h.isS hs rest
 ·rw [← Bool.not_eq_true]
  simp only [M.isS, Bool.and_eq_true, decide_eq_true_eq]
  intro hf
  rw [h] at hf
  exact absurd hf.1 (by decide)
section
variable {lab : List UInt8 → Bool} (h1 : lab [118] = true) (h2 : lab [110] = true) (h3 : lab [109] = true)
include h1 h2 h3
end
section
variable {kinds : List UInt8} {attrs : UInt8} {twice : Bool} {n : Nat} (hn : n = attrs.toNat % 6) (hl : kinds.length ≤ 20)
include hn hl
end
end Go.Proofs.YtfbcnpbhhooapaaGreatDoor.M
namespace Go.Proofs.YtfbcnpbhhooapaaGreatDoor.M
open Go
set_option linter.unusedVariables false
def c_Q8_1 : SC := .seq (.dreg [⟨some 95, none, .v (.faddr 0 (.t 11))⟩, ⟨some 96, none, .v (.load none (.t 95))⟩, ⟨some 97, none, .v (.mov (.t 4))⟩, ⟨some 98, none, .v (.mov (.t 0))⟩, ⟨some 99, none, .v (.mov (.t 7))⟩, ⟨some 100, none, .v (.iaddr 1 (.t 98) (.t 99))⟩, ⟨some 101, none, .v (.load none (.t 100))⟩, ⟨some 102, none, .v (.conv (.int .i64) (.t 101))⟩, ⟨some 103, none, .v (.bin .rem (.t 102) (.c (.int .i64 7)))⟩, ⟨some 104, none, .v (.iaddr 1 (.t 97) (.t 103))⟩, ⟨some 105, none, .v (.load none (.t 104))⟩, ⟨some 106, none, .v (.bin .eql (.t 96) (.t 105))⟩, ⟨some 107, none, .v (.mov (.t 106))⟩, ⟨some 108, some (107, true), .v (.faddr 4 (.t 11))⟩, ⟨some 109, some (107, true), .v (.load none (.t 108))⟩, ⟨some 110, some (107, true), .v (.len false (.t 109))⟩, ⟨some 111, some (107, true), .v (.bin .eql (.t 110) (.c (.int .i64 2)))⟩, ⟨some 112, none, .v (.pick (.t 107) (.t 111) (.c (.bool false)))⟩, ⟨some 113, none, .v (.mov (.t 112))⟩, ⟨some 114, some (113, true), .v (.faddr 4 (.t 11))⟩, ⟨some 115, some (113, true), .v (.load none (.t 114))⟩, ⟨some 116, some (113, true), .v (.iaddr 1 (.t 115) (.c (.int .i64 0)))⟩, ⟨some 117, some (113, true), .v (.load none (.t 116))⟩, ⟨some 118, some (113, true), .v (.mov (.t 7))⟩, ⟨some 119, some (113, true), .v (.bin .mul (.c (.int .i64 2)) (.t 118))⟩, ⟨some 120, some (113, true), .v (.bin .eql (.t 117) (.t 119))⟩, ⟨some 121, none, .v (.pick (.t 113) (.t 120) (.c (.bool false)))⟩, ⟨some 122, none, .v (.mov (.t 121))⟩, ⟨some 123, some (122, true), .v (.faddr 4 (.t 11))⟩, ⟨some 124, some (122, true), .v (.load none (.t 123))⟩, ⟨some 125, some (122, true), .v (.iaddr 1 (.t 124) (.c (.int .i64 1)))⟩, ⟨some 126, some (122, true), .v (.load none (.t 125))⟩, ⟨some 127, some (122, true), .v (.mov (.t 9))⟩, ⟨some 128, some (122, true), .v (.len false (.t 127))⟩, ⟨some 129, some (122, true), .v (.bin .sub (.t 128) (.c (.int .i64 2)))⟩, ⟨some 130, some (122, true), .v (.bin .eql (.t 126) (.t 129))⟩, ⟨some 131, none, .v (.pick (.t 122) (.t 130) (.c (.bool false)))⟩, ⟨some 132, none, .v (.mov (.t 131))⟩, ⟨some 133, some (132, true), .call (.c (.func 15 [])) []⟩, ⟨some 134, none, .v (.pick (.t 132) (.t 133) (.c (.bool false)))⟩, ⟨some 2, none, .v (.mov (.t 134))⟩] [false, false, false, false, false, false, false, false, false, false, false, true, true, true, true, true, true, true, true, true, true, true, true, false, false, true, true, true, false, false, false, false, false, false, false, true, true, true, true, true, true]) .ret
def c_Q8_2 : SC := .seq (.reg [⟨some 89, none, .v (.mov (.t 9))⟩, ⟨some 90, none, .v (.mov (.t 9))⟩, ⟨some 91, none, .v (.len false (.t 90))⟩, ⟨some 92, none, .v (.bin .sub (.t 91) (.c (.int .i64 1)))⟩, ⟨some 93, none, .v (.iaddr 5 (.t 89) (.t 92))⟩, ⟨some 94, none, .v (.load (some 5) (.t 93))⟩, ⟨some 11, none, .alloc [(.int .i64 0), (.int .i64 0), (.str []), (.nils 2), (.nils 1)]⟩, ⟨none, none, .store 5 (.t 11) (.t 94)⟩]) c_Q8_1
def c_Q8_3 : SC := .seq (.seq (.reg [⟨some 72, none, .v (.mov (.t 10))⟩, ⟨some 73, none, .call (.c (.func 18 [])) [(.t 72)]⟩, ⟨some 74, none, .v (.bin .neq (.t 73) (.c (.int .i64 0)))⟩, ⟨some 75, none, .v (.mov (.t 74))⟩, ⟨some 76, some (75, false), .v (.mov (.t 9))⟩, ⟨some 77, some (75, false), .v (.len false (.t 76))⟩, ⟨some 78, some (75, false), .v (.mov (.t 0))⟩, ⟨some 79, some (75, false), .v (.len false (.t 78))⟩, ⟨some 80, some (75, false), .v (.bin .mul (.c (.int .i64 2)) (.t 79))⟩, ⟨some 81, some (75, false), .v (.bin .add (.t 80) (.c (.int .i64 1)))⟩, ⟨some 82, some (75, false), .v (.bin .neq (.t 77) (.t 81))⟩, ⟨some 83, none, .v (.pick (.t 75) (.c (.bool true)) (.t 82))⟩, ⟨some 84, none, .v (.mov (.t 83))⟩, ⟨some 85, some (84, false), .v (.mov (.t 9))⟩, ⟨some 86, some (84, false), .call (.c (.func 26 [])) [(.t 85)]⟩, ⟨some 87, some (84, false), .v (.un .not (.t 86))⟩, ⟨some 88, none, .v (.pick (.t 84) (.c (.bool true)) (.t 87))⟩]) (.cond (.t 88) (.seq (.reg [⟨some 2, none, .v (.mov (.c (.bool false)))⟩]) .ret) .skip)) c_Q8_2
def c_Q8_4 : SC := .seq (.reg [⟨some 68, none, .v (.mov (.t 6))⟩, ⟨some 69, none, .call (.c (.func 20 [])) [(.t 68)]⟩, ⟨some 67, none, .v (.mov (.t 69))⟩, ⟨some 70, none, .v (.extract 0 (.t 67))⟩, ⟨some 71, none, .v (.extract 1 (.t 67))⟩, ⟨some 9, none, .v (.mov (.t 70))⟩, ⟨some 10, none, .v (.mov (.t 71))⟩]) c_Q8_3
def c_Q8_5 : SC := .reg [⟨some 28, none, .v (.mov (.t 8))⟩, ⟨some 29, none, .v (.bin .add (.t 28) (.c (.int .i64 1)))⟩, ⟨some 8, none, .v (.mov (.t 29))⟩]
def c_Q8_6 : SC := .seq (.dreg [⟨some 47, none, .v (.mov (.t 5))⟩, ⟨some 48, none, .v (.mov (.t 0))⟩, ⟨some 49, none, .v (.mov (.t 8))⟩, ⟨some 50, none, .v (.iaddr 1 (.t 48) (.t 49))⟩, ⟨some 51, none, .v (.load none (.t 50))⟩, ⟨some 52, none, .v (.conv (.int .i64) (.t 51))⟩, ⟨some 53, none, .v (.bin .rem (.t 52) (.c (.int .i64 7)))⟩, ⟨some 54, none, .v (.iaddr 1 (.t 47) (.t 53))⟩, ⟨some 55, none, .v (.load none (.t 54))⟩, ⟨some 56, none, .v (.mov (.t 5))⟩, ⟨some 57, none, .v (.mov (.t 0))⟩, ⟨some 58, none, .v (.mov (.t 7))⟩, ⟨some 59, none, .v (.iaddr 1 (.t 57) (.t 58))⟩, ⟨some 60, none, .v (.load none (.t 59))⟩, ⟨some 61, none, .v (.conv (.int .i64) (.t 60))⟩, ⟨some 62, none, .v (.bin .rem (.t 61) (.c (.int .i64 7)))⟩, ⟨some 63, none, .v (.iaddr 1 (.t 56) (.t 62))⟩, ⟨some 64, none, .v (.load none (.t 63))⟩, ⟨some 65, none, .v (.bin .leq (.t 55) (.t 64))⟩] [false, false, false, false, false, false, false, false, false, false, false, false, false, false, false, false, false, false, true]) (.cond (.t 65) (.reg [⟨some 66, none, .v (.mov (.t 8))⟩, ⟨some 7, none, .v (.mov (.t 66))⟩]) .skip)
def c_Q8_7 : SC := .seq (.block 1 (.seq (.dreg [⟨some 30, none, .v (.mov (.t 6))⟩, ⟨some 31, none, .v (.bin .add (.t 30) (.c (.str [32])))⟩, ⟨some 32, none, .v (.mov (.t 3))⟩, ⟨some 33, none, .v (.mov (.t 0))⟩, ⟨some 34, none, .v (.mov (.t 8))⟩, ⟨some 35, none, .v (.iaddr 1 (.t 33) (.t 34))⟩, ⟨some 36, none, .v (.load none (.t 35))⟩, ⟨some 37, none, .v (.conv (.int .i64) (.t 36))⟩, ⟨some 38, none, .v (.bin .rem (.t 37) (.c (.int .i64 7)))⟩, ⟨some 39, none, .v (.iaddr 1 (.t 32) (.t 38))⟩, ⟨some 40, none, .v (.load none (.t 39))⟩, ⟨some 41, none, .v (.bin .add (.t 31) (.t 40))⟩, ⟨some 42, none, .v (.bin .add (.t 41) (.c (.str [32])))⟩, ⟨some 43, none, .v (.mov (.t 8))⟩, ⟨some 44, none, .v (.bin .add (.t 43) (.c (.int .i64 1)))⟩, ⟨some 45, none, .call (.c (.func 16 [])) [(.t 44)]⟩, ⟨some 46, none, .v (.bin .add (.t 42) (.t 45))⟩, ⟨some 6, none, .v (.mov (.t 46))⟩] [false, false, false, false, false, false, false, false, false, false, false, false, false, false, false, false, true, true]) c_Q8_6)) c_Q8_5
def b_Q8_1 : SC := .seq (.seq (.reg [⟨some 24, none, .v (.mov (.t 8))⟩, ⟨some 25, none, .v (.mov (.t 0))⟩, ⟨some 26, none, .v (.len false (.t 25))⟩, ⟨some 27, none, .v (.bin .lss (.t 24) (.t 26))⟩]) (.cond (.t 27) .skip (.exit 0))) c_Q8_7
def c_Q8_8 : SC := .block 0 (.loop b_Q8_1)
def c_Q8_9 : SC := .seq (.seq (.reg [⟨some 8, none, .v (.mov (.c (.int .i64 0)))⟩]) c_Q8_8) c_Q8_4
def c_Q8_10 : SC := .seq (.reg [⟨some 7, none, .v (.mov (.c (.int .i64 0)))⟩]) c_Q8_9
def c_Q8_11 : SC := .seq (.reg [⟨some 6, none, .v (.mov (.c (.str [48])))⟩]) c_Q8_10
def c_Q8_12 : SC := .seq (.seq (.reg [⟨some 15, none, .v (.mov (.t 0))⟩, ⟨some 16, none, .v (.len false (.t 15))⟩, ⟨some 17, none, .v (.bin .eql (.t 16) (.c (.int .i64 0)))⟩, ⟨some 18, none, .v (.mov (.t 17))⟩, ⟨some 19, some (18, false), .v (.mov (.t 0))⟩, ⟨some 20, some (18, false), .v (.len false (.t 19))⟩, ⟨some 21, some (18, false), .v (.bin .gtr (.t 20) (.c (.int .i64 20)))⟩, ⟨some 22, none, .v (.pick (.t 18) (.c (.bool true)) (.t 21))⟩]) (.cond (.t 22) (.seq (.reg [⟨some 23, none, .call (.c (.func 15 [])) []⟩, ⟨some 2, none, .v (.mov (.t 23))⟩]) .ret) .skip)) c_Q8_11
def c_Q8_13 : SC := .seq (.reg [⟨some 14, none, .bslice 1 7 [(.int .i64 0)] [(0, (.c (.int .i64 0))), (1, (.c (.int .i64 1))), (2, (.c (.int .i64 3))), (3, (.c (.int .i64 3))), (4, (.c (.int .i64 4))), (5, (.c (.int .i64 4))), (6, (.c (.int .i64 4)))]⟩, ⟨some 5, none, .v (.mov (.t 14))⟩]) c_Q8_12
def c_Q8_14 : SC := .seq (.reg [⟨some 13, none, .bslice 1 7 [(.int .i64 0)] [(0, (.c (.int .i64 11))), (1, (.c (.int .i64 12))), (2, (.c (.int .i64 19))), (3, (.c (.int .i64 20))), (4, (.c (.int .i64 21))), (5, (.c (.int .i64 22))), (6, (.c (.int .i64 23)))]⟩, ⟨some 4, none, .v (.mov (.t 13))⟩]) c_Q8_13
def c_Q8_15 : SC := .seq (.reg [⟨some 12, none, .bslice 1 7 [(.str [])] [(0, (.c (.str [124, 124]))), (1, (.c (.str [38, 38]))), (2, (.c (.str [43]))), (3, (.c (.str [45]))), (4, (.c (.str [42]))), (5, (.c (.str [47]))), (6, (.c (.str [37])))]⟩, ⟨some 3, none, .v (.mov (.t 12))⟩]) c_Q8_14
def sc_Q8 : SFunc := ⟨1, 135, .seq (.reg [⟨some 2, none, .v (.mov (.c (.bool false)))⟩]) c_Q8_15, [(.t 2)]⟩
noncomputable def k_Q8_1 (SP : Prg) (x : EO) : CO := fin [(.t 2)] (thC SP (inBlk 0 (x)) c_Q8_4)
theorem U_Q8 : type_of% (And.intro (ue c_Q8_1.eq_1) <| And.intro (ue c_Q8_2.eq_1) <| And.intro (ue c_Q8_3.eq_1) <| And.intro (ue c_Q8_4.eq_1) <| And.intro (ue c_Q8_5.eq_1) <| And.intro (ue c_Q8_6.eq_1) <| And.intro (ue c_Q8_7.eq_1) <| And.intro (ue b_Q8_1.eq_1) <| And.intro (ue c_Q8_8.eq_1) <| And.intro (ue c_Q8_9.eq_1) <| And.intro (ue c_Q8_10.eq_1) <| And.intro (ue c_Q8_11.eq_1) <| And.intro (ue c_Q8_12.eq_1) <| And.intro (ue c_Q8_13.eq_1) <| And.intro (ue c_Q8_14.eq_1) <| And.intro (ue c_Q8_15.eq_1) <| sc_Q8.eq_1) := And.intro (ue c_Q8_1.eq_1) <| And.intro (ue c_Q8_2.eq_1) <| And.intro (ue c_Q8_3.eq_1) <| And.intro (ue c_Q8_4.eq_1) <| And.intro (ue c_Q8_5.eq_1) <| And.intro (ue c_Q8_6.eq_1) <| And.intro (ue c_Q8_7.eq_1) <| And.intro (ue b_Q8_1.eq_1) <| And.intro (ue c_Q8_8.eq_1) <| And.intro (ue c_Q8_9.eq_1) <| And.intro (ue c_Q8_10.eq_1) <| And.intro (ue c_Q8_11.eq_1) <| And.intro (ue c_Q8_12.eq_1) <| And.intro (ue c_Q8_13.eq_1) <| And.intro (ue c_Q8_14.eq_1) <| And.intro (ue c_Q8_15.eq_1) <| sc_Q8.eq_1
theorem comp_Q8 : comp Tryz.prog Tryz.f8 = some sc_Q8 := by kernel_rfl
end Go.Proofs.YtfbcnpbhhooapaaGreatDoor.M
namespace Go.Proofs.YtfbcnpbhhooapaaGreatDoor.M
set_option linter.unusedSimpArgs false
set_option linter.unusedVariables false
open Go Classical
theorem sp_Q8 : SP 8 = some (.code sc_Q8) := SPof_code rfl Tryz.func8 comp_Q8
def At_Q8_1 (ops : List UInt8) (s3 : List UInt8) (i4 : Int) (i5 : Int) (r : Bool) : Prop := ∀ (S : Sto) (e : Nat → PV) (f : Fr), e 0 = .list 1 (ops.map eB) false ∧ e 3 = .list 1 ([[124, 124], [38, 38], [43], [45], [42], [47], [37]].map eS) true ∧ e 4 = .list 1 ([11, 12, 19, 20, 21, 22, 23].map eI) true ∧ e 5 = .list 1 ([0, 1, 3, 3, 4, 4, 4].map eI) true ∧ e 6 = .str s3 ∧ e 7 = .int .i64 i4 ∧ e 8 = .int .i64 i5 → k_Q8_1 SP (E SP (.loop b_Q8_1) ⟨e, f :: S⟩) = .ok (.v (.bool r)) S
theorem At_Q8_1_step (ops : List UInt8) (s3 : List UInt8) (i4 : Int) (i5 : Int) (r : Bool) (T :
  ((i5 < (ops.length : Int)) →
  (s3.length + 1 ≤ maxInt) ∧
  (0 ≤ i5) ∧
  ∃ (v6 : UInt8), (ops[i5.toNat]? = some v6) ∧
  (I64 ((v6.toNat : Int))) ∧
  (0 ≤ ((v6.toNat : Int).tmod 7)) ∧
  ∃ (v7 : List UInt8), (([[124, 124], [38, 38], [43], [45], [42], [47], [37]] : List (List UInt8))[((v6.toNat : Int).tmod 7).toNat]? = some v7) ∧
  (s3.length + 1 + v7.length ≤ maxInt) ∧
  (s3.length + 1 + v7.length + 1 ≤ maxInt) ∧
  (I64 (i5 + 1)) ∧
  ∃ (r8 : List UInt8), (R_Q16 (i5 + 1) r8) ∧
  (s3.length + 1 + v7.length + 1 + r8.length ≤ maxInt) ∧
  (I64 ((v6.toNat : Int))) ∧
  (0 ≤ ((v6.toNat : Int).tmod 7)) ∧
  ∃ (v9 : Int), (([0, 1, 3, 3, 4, 4, 4] : List Int)[((v6.toNat : Int).tmod 7).toNat]? = some v9) ∧
  (0 ≤ i4) ∧
  ∃ (v10 : UInt8), (ops[i4.toNat]? = some v10) ∧
  (I64 ((v10.toNat : Int))) ∧
  (0 ≤ ((v10.toNat : Int).tmod 7)) ∧
  ∃ (v11 : Int), (([0, 1, 3, 3, 4, 4, 4] : List Int)[((v10.toNat : Int).tmod 7).toNat]? = some v11) ∧
  ((v9 ≤ v11) →
   (I64 (i5 + 1)) ∧
   At_Q8_1 ops ((((s3 ++ [32]) ++ v7) ++ [32]) ++ r8) i5 (i5 + 1) r) ∧
  (¬ (v9 ≤ v11) →
   (I64 (i5 + 1)) ∧
   At_Q8_1 ops ((((s3 ++ [32]) ++ v7) ++ [32]) ++ r8) i4 (i5 + 1) r)) ∧
 (¬ (i5 < (ops.length : Int)) →
  ∃ (r12 : List Node) (r13 : Int), (R_Q20 s3 r12 r13) ∧
  ∃ (r14 : Int), (R_Q18 r13 r14) ∧
  ((r14 = 0) →
   (I64 (2 * (ops.length : Int))) ∧
   (I64 ((2 * (ops.length : Int)) + 1)) ∧
   (((r12.length : Int) = ((2 * (ops.length : Int)) + 1)) →
    ∃ (r15 : Bool), (R_Q26 r12 r15) ∧
    ((r15 = true) →
     (I64 ((r12.length : Int) - 1)) ∧
     (0 ≤ ((r12.length : Int) - 1)) ∧
     ∃ (v16 : Node), (r12[((r12.length : Int) - 1).toNat]? = some v16) ∧
     (0 ≤ i4) ∧
     ∃ (v17 : UInt8), (ops[i4.toNat]? = some v17) ∧
     (I64 ((v17.toNat : Int))) ∧
     (0 ≤ ((v17.toNat : Int).tmod 7)) ∧
     ∃ (v18 : Int), (([11, 12, 19, 20, 21, 22, 23] : List Int)[((v17.toNat : Int).tmod 7).toNat]? = some v18) ∧
     ((v16.Kind = v18) →
      (((v16.Kids.length : Int) = 2) →
       ∃ (v19 : Int), (v16.Kids[0]? = some v19) ∧
       (I64 (2 * i4)) ∧
       ((v19 = (2 * i4)) →
        ∃ (v20 : Int), (v16.Kids[1]? = some v20) ∧
        (I64 ((r12.length : Int) - 2)) ∧
        ((v20 = ((r12.length : Int) - 2)) →
         ∃ (r21 : Bool), (R_Q15 r21) ∧
         r21 = r) ∧
        (¬ (v20 = ((r12.length : Int) - 2)) →
         false = r)) ∧
       (¬ (v19 = (2 * i4)) →
        false = r)) ∧
      (¬ ((v16.Kids.length : Int) = 2) →
       false = r)) ∧
     (¬ (v16.Kind = v18) →
      false = r)) ∧
    (¬ (r15 = true) →
     false = r)) ∧
   (¬ ((r12.length : Int) = ((2 * (ops.length : Int)) + 1)) →
    false = r)) ∧
  (¬ (r14 = 0) →
   false = r))) : At_Q8_1 ops s3 i4 i5 r := by
 intro S e f h
 unfold k_Q8_1
 rw [E_loop]
 have F := U_Q8
 replace F := aa h <| F
 by_cases c1 : i5 < (ops.length : Int)
 · replace T := T.1 c1
   obtain ⟨p2, p3, v6, q4, p5, p6, v7, q7, p8, p9, p10, r8, q11, p12, p13, p14, v9, q15, p16, v10, q17, p18, p19, v11, q20, T⟩ := T
   replace q7 := congrArg (Option.map eS) q7
   rw [← List.getElem?_map] at q7
   simp only [le, List.map_append, Option.map_some] at q7
   simp only [R_Q16, le, List.cons_append, List.nil_append] at q11
   replace q15 := congrArg (Option.map eI) q15
   rw [← List.getElem?_map] at q15
   simp only [le, List.map_append, Option.map_some] at q15
   replace q20 := congrArg (Option.map eI) q20
   rw [← List.getElem?_map] at q20
   simp only [le, List.map_append, Option.map_some] at q20
   replace F := aa (eq_true c1) <| aa p2 <| aa p3 <| aa q4 <| aa p5.wrap <| aa p6 <| aa q7 <| aa p8 <| aa p9 <| aa p10.wrap <| aa q11 <| aa p12 <| aa p13.wrap <| aa p14 <| aa q15 <| aa p16 <| aa q17 <| aa p18.wrap <| aa p19 <| aa q20 <| F
   by_cases c21 : v9 ≤ v11
   · replace T := T.1 c21
     obtain ⟨p22, T⟩ := T
     replace F := aa (eq_true c21) <| aa p22.wrap <| F
     exact lo F T
   · replace T := T.2 c21
     obtain ⟨p23, T⟩ := T
     replace F := aa (eq_false c21) <| aa p23.wrap <| F
     exact lo F T
 · replace T := T.2 c1
   obtain ⟨r12, r13, q24, r14, q25, T⟩ := T
   simp only [R_Q20, le, List.cons_append, List.nil_append] at q24
   simp only [R_Q18, le, List.cons_append, List.nil_append] at q25
   replace F := aa (eq_false c1) <| aa q24 <| aa q25 <| F
   by_cases c26 : r14 = 0
   · replace T := T.1 c26
     obtain ⟨p27, p28, T⟩ := T
     replace F := aa (eq_true c26) <| aa p27.wrap <| aa p28.wrap <| F
     by_cases c29 : (r12.length : Int) = ((2 * (ops.length : Int)) + 1)
     · replace T := T.1 c29
       obtain ⟨r15, q30, T⟩ := T
       simp only [R_Q26, le, List.cons_append, List.nil_append] at q30
       replace F := aa (eq_true c29) <| aa q30 <| F
       by_cases c31 : r15 = true
       · replace T := T.1 c31
         obtain ⟨p32, p33, v16, q34, p35, v17, q36, p37, p38, v18, q39, T⟩ := T
         replace q39 := congrArg (Option.map eI) q39
         rw [← List.getElem?_map] at q39
         simp only [le, List.map_append, Option.map_some] at q39
         replace F := aa c31 <| aa p32.wrap <| aa p33 <| aa q34 <| aa p35 <| aa q36 <| aa p37.wrap <| aa p38 <| aa q39 <| F
         by_cases c40 : v16.Kind = v18
         · replace T := T.1 c40
           replace F := aa (eq_true c40) <| F
           by_cases c41 : (v16.Kids.length : Int) = 2
           · replace T := T.1 c41
             obtain ⟨v19, q42, p43, T⟩ := T
             replace F := aa (eq_true c41) <| aa q42 <| aa p43.wrap <| F
             by_cases c44 : v19 = (2 * i4)
             · replace T := T.1 c44
               obtain ⟨v20, q45, p46, T⟩ := T
               replace F := aa (eq_true c44) <| aa q45 <| aa p46.wrap <| F
               by_cases c47 : v20 = ((r12.length : Int) - 2)
               · replace T := T.1 c47
                 obtain ⟨r21, q48, rfl⟩ := T
                 simp only [R_Q15, le, List.cons_append, List.nil_append] at q48
                 exact fi (aa (eq_true c47) <| aa q48 <| F)
               · replace T := T.2 c47
                 obtain rfl := T
                 exact fi (aa (eq_false c47) <| F)
             · replace T := T.2 c44
               obtain rfl := T
               exact fi (aa (eq_false c44) <| F)
           · replace T := T.2 c41
             obtain rfl := T
             exact fi (aa (eq_false c41) <| F)
         · replace T := T.2 c40
           obtain rfl := T
           exact fi (aa (eq_false c40) <| F)
       · replace T := T.2 c31
         replace c31 := Bool.eq_false_iff.2 c31
         obtain rfl := T
         exact fi (aa c31 <| F)
     · replace T := T.2 c29
       obtain rfl := T
       exact fi (aa (eq_false c29) <| F)
   · replace T := T.2 c26
     obtain rfl := T
     exact fi (aa (eq_false c26) <| F)
theorem Q8_tree (ops : List UInt8) (r : Bool) (T :
  (((ops.length : Int) = 0) →
  ∃ (r1 : Bool), (R_Q15 r1) ∧
  r1 = r) ∧
 (¬ ((ops.length : Int) = 0) →
  ((20 < (ops.length : Int)) →
   ∃ (r2 : Bool), (R_Q15 r2) ∧
   r2 = r) ∧
  (¬ (20 < (ops.length : Int)) →
   At_Q8_1 ops [48] 0 0 r))) : R_Q8 ops r := by
 intro S
 rw [call_code sp_Q8 _ _ rfl]
 have F := U_Q8
 by_cases c1 : (ops.length : Int) = 0
 · replace T := T.1 c1
   obtain ⟨r1, q2, rfl⟩ := T
   simp only [R_Q15, le, List.cons_append, List.nil_append] at q2
   exact fi (aa (eq_true c1) <| aa q2 <| F)
 · replace T := T.2 c1
   replace F := aa (eq_false c1) <| F
   by_cases c3 : 20 < (ops.length : Int)
   · replace T := T.1 c3
     obtain ⟨r2, q4, rfl⟩ := T
     simp only [R_Q15, le, List.cons_append, List.nil_append] at q4
     exact fi (aa (eq_true c3) <| aa q4 <| F)
   · replace T := T.2 c3
     replace F := aa (eq_false c3) <| F
     exact lo F T
end Go.Proofs.YtfbcnpbhhooapaaGreatDoor.M
namespace Go.Proofs.YtfbcnpbhhooapaaGreatDoor.M
set_option linter.unusedSimpArgs false
set_option linter.unusedVariables false
set_option linter.unusedSectionVars false
open Go Classical
def rkO : Nat → Nat
 | 0 => 0
 | 1 => 1
 | 2 => 3
 | 3 => 3
 | _ => 4
def sgO : Nat → List UInt8
 | 0 => [124, 124]
 | 1 => [38, 38]
 | 2 => [43]
 | 3 => [45]
 | 4 => [42]
 | 5 => [47]
 | _ => [37]
def kdO : Nat → Int
 | 0 => 11
 | 1 => 12
 | 2 => 19
 | 3 => 20
 | 4 => 21
 | 5 => 22
 | _ => 23
theorem nat7 {c : Nat} (h : c < 7) : c = 0 ∨ c = 1 ∨ c = 2 ∨ c = 3 ∨ c = 4 ∨ c = 5 ∨ c = 6 := by omega
theorem rkO_le (c : Nat) : rkO c ≤ 4 ∧ rkO c ≠ 2 := by unfold rkO; split <;> omega
theorem opS_O {c r : Nat} (hc : c < 7) (hr : r < 5) : opS r (sgO c) = if rkO c = r then some (kdO c) else none := by
 have h5 : r = 0 ∨ r = 1 ∨ r = 2 ∨ r = 3 ∨ r = 4 := by omega
 rcases nat7 hc with rfl | rfl | rfl | rfl | rfl | rfl | rfl <;> rcases h5 with rfl | rfl | rfl | rfl | rfl <;> rfl
def toks : List (Nat × Nat) → List Token → List Token
 | [], rest => rest
 | (c, j) :: l, rest => tg (sgO c) :: tnumT j :: toks l rest
structure MinAt (q : List Nat) (k : Nat) (c : Nat) : Prop where
 at_ : q[k]? = some c
 low : ∀ (i d : Nat), q[i]? = some d → rkO c ≤ rkO d
 last : ∀ (i d : Nat), k < i → q[i]? = some d → rkO c < rkO d
theorem MinAt.uniq {q : List Nat} {k k' c c' : Nat} (h : MinAt q k c) (h' : MinAt q k' c') : k = k' ∧ c = c' := by
 have e : k = k' := by
  rcases Nat.lt_trichotomy k k' with h1 | h1 | h1
  ·have a := h.last k' c' h1 h'.at_
   have b := h'.low k c h.at_
   omega
  ·exact h1
  ·have a := h'.last k c h1 h.at_
   have b := h.low k' c' h'.at_
   omega
 subst e
 exact ⟨rfl, Option.some.inj (h.at_.symm.trans h'.at_)⟩
structure Seg (b : Nat) (q : List Nat) (nodes : List Node) : Prop where
 len : nodes.length = 2 * q.length + 1
 stack : ∀ st more, stk b st (nodes ++ more) = stk (b + 2 * q.length + 1) (((b + 2 * q.length : Nat) : Int) :: st) more
 nb : ∀ n ∈ nodes, NB n
 top : q ≠ [] → ∃ k c, MinAt q k c ∧ nodes[2 * q.length]? = some (nd (kdO c) [] [((b + 2 * k : Nat) : Int), ((b + 2 * q.length : Nat) : Int) - 1])
theorem seg_leaf (b j : Nat) : Seg b [] [⟨1, (j : Int), [], [], []⟩] where
 len := rfl
 stack := fun st more => by
  rw [List.cons_append, List.nil_append, stk, if_pos]
  ·rfl
  ·refine ⟨?_, rfl⟩
   simp [nodeOk, kdS, plS]
 nb := fun n hn => by
  rw [List.mem_singleton] at hn
  subst hn
  exact ⟨by simp, ⟨by simp, by simp⟩, by simp⟩
 top := fun h => absurd rfl h
theorem kdO_ok (c : Nat) (kids : List Int) (h : kids.length = 2) : nodeOk (nd (kdO c) [] kids) = true := by
 have : kdS (kdO c) = 2 ∧ plS (nd (kdO c) [] kids) = true := by
  unfold kdO nd plS
  split <;> exact ⟨by decide, by simp⟩
 simp only [nodeOk, this.2, Bool.and_true, Bool.or_eq_true, decide_eq_true_eq]
 left
 show kdS (kdO c) = _
 rw [this.1]
 show (2 : Int) = ((kids.length : Nat) : Int)
 rw [h]
 rfl
theorem seg_join {b : Nat} {q1 q2 : List Nat} {n1 n2 : List Node} {c : Nat} (h1 : Seg b q1 n1) (h2 : Seg (b + 2 * q1.length + 1) q2 n2) (hl : ∀ (i d : Nat), q1[i]? = some d → rkO c ≤ rkO d) (hr : ∀ (i d : Nat), q2[i]? = some d → rkO c < rkO d) :
  Seg b (q1 ++ c :: q2) (n1 ++ (n2 ++ [nd (kdO c) [] [((b + 2 * q1.length : Nat) : Int), ((b + 2 * q1.length + 1 + 2 * q2.length : Nat) : Int)]])) where
 len := by simp only [List.length_append, h1.len, h2.len, List.length_cons, List.length_nil]; omega
 stack := fun st more => by
  rw [List.append_assoc, h1.stack, List.append_assoc, h2.stack, List.cons_append, List.nil_append, stk, if_pos]
  ·have e1 : b + 2 * q1.length + 1 + 2 * q2.length + 1 = b + 2 * (q1 ++ c :: q2).length := by simp only [List.length_append, List.length_cons]; omega
   rw [e1]
   rfl
  ·exact ⟨kdO_ok c _ rfl, rfl⟩
 nb := fun n hn => by
  rcases List.mem_append.1 hn with hn | hn
  ·exact h1.nb n hn
  ·rcases List.mem_append.1 hn with hn | hn
   ·exact h2.nb n hn
   ·rw [List.mem_singleton] at hn
    subst hn
    exact ⟨by simp [nd], ⟨by simp [nd], by simp [nd]⟩, by simp [nd]⟩
 top := fun _ => by
  refine ⟨q1.length, c, ⟨by simp, fun i d hd => ?_, fun i d hk hd => ?_⟩, ?_⟩
  ·by_cases hi : i < q1.length
   ·rw [List.getElem?_append_left hi] at hd
    exact hl i d hd
   ·rw [List.getElem?_append_right (by omega)] at hd
    cases hj : i - q1.length with
    | zero => rw [hj] at hd; cases hd; exact Nat.le_refl _
    | succ j => rw [hj] at hd; exact Nat.le_of_lt (hr j d hd)
  ·rw [List.getElem?_append_right (by omega)] at hd
   cases hj : i - q1.length with
   | zero => omega
   | succ j => rw [hj] at hd; exact hr j d hd
  ·have e2 : 2 * (q1 ++ c :: q2).length = n1.length + (n2.length + 0) := by
    rw [h1.len, h2.len]
    simp only [List.length_append, List.length_cons]
    omega
   rw [e2, List.getElem?_append_right (by omega), Nat.add_sub_cancel_left, List.getElem?_append_right (by omega), Nat.add_sub_cancel_left]
   have e3 : ((b + 2 * q1.length + 1 + 2 * q2.length : Nat) : Int) = ((b + (n1.length + (n2.length + 0)) : Nat) : Int) - 1 := by
    rw [h1.len, h2.len]
    omega
   rw [e3]
   rfl
section
variable {u : Token} (hu : Quiet u) (rest : List Token) (d : Nat)
include hu
def low (r : Nat) : List (Nat × Nat) → Prop
 | [] => True
 | (c, _) :: _ => rkO c < r
theorem num_un (n j : Nat) (hn : 4 ≤ n) (its : List (Nat × Nat)) (hc : ∀ p ∈ its, p.1 < 7) (out : List Node) : unS n d (tnumT j :: toks its (u :: rest)) out = .ok (out.length : Nat) (toks its (u :: rest)) (out ++ [⟨1, (j : Int), [], [], []⟩]) := by
 obtain ⟨m, rfl⟩ : ∃ m, n = m + 4 := ⟨n - 4, by omega⟩
 have h1 : unS (m + 4) d (tnumT j :: toks its (u :: rest)) out = postS (m + 3) d (tnumT j :: toks its (u :: rest)) out := by simp [unS, tnumT, M.isS]
 have h2 : primS (m + 2) d (tnumT j :: toks its (u :: rest)) out = .ok (out.length : Nat) (toks its (u :: rest)) (out ++ [⟨1, (j : Int), [], [], []⟩]) := by simp [primS, tnumT]
 have h3 : isS [91] (toks its (u :: rest)) = false := by
  cases its with
  | nil => exact hu.isS (by decide) rest
  | cons p its =>
   obtain ⟨c, j'⟩ := p
   have hc' : c < 7 := hc (c, j') (by simp)
   rcases nat7 hc' with rfl | rfl | rfl | rfl | rfl | rfl | rfl <;> rfl
 rw [h1, postS, h2]
 simp only [PR.bind]
 rw [postL, h3]
 rfl
theorem chain_O : ∀ (w r : Nat), r + w = 5 → ∀ (its : List (Nat × Nat)), (∀ p ∈ its, p.1 < 7) → ∀ (n j : Nat), 7 * (its.length + 1) + (6 - r) ≤ n → ∀ (out : List Node),
  ∃ p nodes, p ≤ its.length ∧ (∀ (i d : Nat), ((its.take p).map (·.1))[i]? = some d → r ≤ rkO d) ∧ low r (its.drop p) ∧ Seg out.length ((its.take p).map (·.1)) nodes ∧
   chainS n r d (tnumT j :: toks its (u :: rest)) out = .ok ((out.length + 2 * p : Nat) : Int) (toks (its.drop p) (u :: rest)) (out ++ nodes) := by
 intro w
 induction w with
 | zero =>
  intro r hr its hc n j hn out
  obtain rfl : r = 5 := by omega
  obtain ⟨m, rfl⟩ : ∃ m, n = m + 1 := ⟨n - 1, by omega⟩
  refine ⟨0, _, Nat.zero_le _, fun i d h => by simp at h, ?_, seg_leaf out.length j, ?_⟩
  ·cases its with
   | nil => trivial
   | cons p its => exact Nat.lt_succ_of_le (rkO_le p.1).1
  ·rw [chainS, if_pos rfl]
   exact num_un hu rest d m j (by omega) its hc out
 | succ w ih =>
  intro r hr its hc n j hn out
  obtain ⟨m, rfl⟩ : ∃ m, n = m + 1 := ⟨n - 1, by omega⟩
  have ihr := ih (r + 1) (by omega)
  have loop : ∀ (k : Nat) (left : List (Nat × Nat)), left.length ≤ k → (∀ p ∈ left, p.1 < 7) → ∀ (done : List (Nat × Nat)) (nodes : List Node) (n' : Nat), 7 * (left.length + 1) ≤ n' → (∀ (i d : Nat), (done.map (·.1))[i]? = some d → r ≤ rkO d) → Seg out.length (done.map (·.1)) nodes → low (r + 1) left →
    ∃ p nodes', p ≤ left.length ∧ (∀ (i d : Nat), ((done ++ left.take p).map (·.1))[i]? = some d → r ≤ rkO d) ∧ low r (left.drop p) ∧ Seg out.length ((done ++ left.take p).map (·.1)) nodes' ∧
     loopS n' r d ((out.length + 2 * done.length : Nat) : Int) (toks left (u :: rest)) (out ++ nodes) = .ok ((out.length + 2 * (done.length + p) : Nat) : Int) (toks (left.drop p) (u :: rest)) (out ++ nodes') := by
   intro k
   induction k with
   | zero =>
    intro left hk hcl done nodes n' hn' hd hs hlow
    obtain rfl : left = [] := List.length_eq_zero_iff.1 (by omega)
    obtain ⟨m', rfl⟩ : ∃ m', n' = m' + 1 := ⟨n' - 1, by omega⟩
    refine ⟨0, nodes, Nat.le_refl _, by simpa using hd, trivial, by simpa using hs, ?_⟩
    exact loop_quiet hu _ _ _ _ _ _
   | succ k ihk =>
    intro left hk hcl done nodes n' hn' hd hs hlow
    obtain ⟨m', rfl⟩ : ∃ m', n' = m' + 1 := ⟨n' - 1, by omega⟩
    cases left with
    | nil =>
     refine ⟨0, nodes, Nat.le_refl _, by simpa using hd, trivial, by simpa using hs, ?_⟩
     exact loop_quiet hu _ _ _ _ _ _
    | cons it left =>
     obtain ⟨c, jj⟩ := it
     have hc7 : c < 7 := hcl (c, jj) (by simp)
     have hcl' : ∀ p ∈ left, p.1 < 7 := fun p hp => hcl p (by simp [hp])
     simp only [List.length_cons] at hk hn'
     have e0 : loopS (m' + 1) r d ((out.length + 2 * done.length : Nat) : Int) (toks ((c, jj) :: left) (u :: rest)) (out ++ nodes) = match opS r (sgO c) with
       | none => .ok ((out.length + 2 * done.length : Nat) : Int) (toks ((c, jj) :: left) (u :: rest)) (out ++ nodes)
       | some kind => (chainS m' (r + 1) d (tnumT jj :: toks left (u :: rest)) (out ++ nodes)).bind fun b ts out' => if r = 2 then .ok (out'.length : Nat) ts (out' ++ [nd kind [] [((out.length + 2 * done.length : Nat) : Int), b]]) else loopS m' r d (out'.length : Nat) ts (out' ++ [nd kind [] [((out.length + 2 * done.length : Nat) : Int), b]]) := by
      rw [toks, loopS]
      rfl
     by_cases hrk : rkO c = r
     ·-- it is of this rank
      have hr2 : r ≠ 2 := fun e => (rkO_le c).2 (hrk.trans e)
      obtain ⟨p2, nodes2, hp2, hd2, hlow2, hs2, e2⟩ := ihr left hcl' m' jj (by omega) (out ++ nodes)
      have hlen : (out ++ nodes).length = out.length + 2 * (done.map (·.1)).length + 1 := by rw [List.length_append, hs.len]; omega
      rw [hlen] at hs2
      have hj := seg_join hs hs2 (c := c) (fun i d h => by rw [hrk]; exact hd i d h) (fun i d h => by rw [hrk]; exact Nat.lt_of_succ_le (hd2 i d h))
      have hq : (done.map (·.1)) ++ c :: ((left.take p2).map (·.1)) = (done ++ (c, jj) :: left.take p2).map (·.1) := by simp
      rw [hq] at hj
      have hd' : ∀ (i d : Nat), ((done ++ (c, jj) :: left.take p2).map (·.1))[i]? = some d → r ≤ rkO d := fun i d h => by
       rw [← hq] at h
       by_cases hi : i < (done.map (·.1)).length
       ·rw [List.getElem?_append_left hi] at h
        exact hd i d h
       ·rw [List.getElem?_append_right (by omega)] at h
        cases hj : i - (done.map (·.1)).length with
        | zero => rw [hj] at h; cases h; omega
        | succ j' =>
         rw [hj] at h
         exact Nat.le_of_succ_le (hd2 j' d h)
      obtain ⟨p3, nodes3, hp3, hd3, hlow3, hs3, e3⟩ := ihk (left.drop p2) (by rw [List.length_drop]; omega) (fun p hp => hcl' p (List.mem_of_mem_drop hp)) (done ++ (c, jj) :: left.take p2) _ m' (by rw [List.length_drop]; omega) hd' hj hlow2
      have hcat : (done ++ (c, jj) :: left.take p2) ++ (left.drop p2).take p3 = done ++ ((c, jj) :: left).take (1 + p2 + p3) := by
       rw [show 1 + p2 + p3 = (p2 + p3) + 1 by omega, List.take_succ_cons, List.take_add]
       simp
      have hdr : (left.drop p2).drop p3 = ((c, jj) :: left).drop (1 + p2 + p3) := by
       rw [List.drop_drop, show 1 + p2 + p3 = (p2 + p3) + 1 by omega, List.drop_succ_cons]
      rw [hcat] at hd3 hs3
      rw [hdr] at hlow3 e3
      have hdl : (done ++ (c, jj) :: left.take p2).length = done.length + 1 + p2 := by
       rw [List.length_append, List.length_cons, List.length_take, Nat.min_eq_left hp2]
       omega
      refine ⟨1 + p2 + p3, nodes3, by rw [List.length_drop] at hp3; simp only [List.length_cons]; omega, hd3, hlow3, hs3, ?_⟩
      rw [e0, opS_O hc7 (by omega), if_pos hrk]
      simp only [e2, PR.bind]
      rw [if_neg hr2]
      have hol : ((out ++ nodes) ++ nodes2).length = out.length + 2 * (done.length + 1 + p2) := by
       rw [List.length_append, hlen, hs2.len, List.length_map, List.length_map, List.length_take, Nat.min_eq_left hp2]
       omega
      have hb : (out ++ nodes).length + 2 * p2 = out.length + 2 * (done.map (·.1)).length + 1 + 2 * ((left.take p2).map (·.1)).length := by
       rw [hlen, List.length_map, List.length_map, List.length_take, Nat.min_eq_left hp2]
      rw [hol, hb]
      rw [hdl] at e3
      have hnn : ((out ++ nodes) ++ nodes2) ++ [nd (kdO c) [] [((out.length + 2 * done.length : Nat) : Int), ((out.length + 2 * (done.map (·.1)).length + 1 + 2 * ((left.take p2).map (·.1)).length : Nat) : Int)]] = out ++ (nodes ++ (nodes2 ++ [nd (kdO c) [] [((out.length + 2 * (done.map (·.1)).length : Nat) : Int), ((out.length + 2 * (done.map (·.1)).length + 1 + 2 * ((left.take p2).map (·.1)).length : Nat) : Int)]])) := by
       rw [List.length_map]
       simp only [List.append_assoc]
      rw [hnn, e3, show done.length + 1 + p2 + p3 = done.length + (1 + p2 + p3) by omega]
     ·-- it is of a smaller one
      have hlt : rkO c < r := by
       have : rkO c < r + 1 := hlow
       omega
      refine ⟨0, nodes, Nat.zero_le _, by simpa using hd, hlt, by simpa using hs, ?_⟩
      rw [e0, opS_O hc7 (by omega), if_neg hrk]
      rfl
  obtain ⟨p1, nodes1, hp1, hd1, hlow1, hs1, e1⟩ := ihr its hc m j (by omega) out
  obtain ⟨p2, nodes2, hp2, hd2, hlow2, hs2, e2⟩ := loop (its.drop p1).length (its.drop p1) (Nat.le_refl _) (fun p hp => hc p (List.mem_of_mem_drop hp)) (its.take p1) nodes1 m (by rw [List.length_drop]; omega) (fun i d h => Nat.le_of_succ_le (hd1 i d h)) hs1 hlow1
  have hcat : its.take p1 ++ (its.drop p1).take p2 = its.take (p1 + p2) := by rw [List.take_add]
  have hl1 : (its.take p1).length = p1 := by rw [List.length_take, Nat.min_eq_left hp1]
  rw [hcat] at hd2 hs2
  rw [List.drop_drop] at hlow2 e2
  rw [hl1] at e2
  refine ⟨p1 + p2, nodes2, by rw [List.length_drop] at hp2; omega, hd2, hlow2, hs2, ?_⟩
  rw [chainS, if_neg (by omega), e1]
  simp only [PR.bind]
  exact e2
end
theorem exprT_O (its : List (Nat × Nat)) (hc : ∀ p ∈ its, p.1 < 7) (j : Nat) : ∃ nodes, Seg 0 (its.map (·.1)) nodes ∧ ∃ ts o, exprT (tnumT j :: toks its [eT]) = .ok nodes ts o := by
 have hq : Quiet eT := .inl rfl
 have hlen : ∀ l : List (Nat × Nat), (toks l [eT]).length = 2 * l.length + 1 := by
  intro l
  induction l with
  | nil => rfl
  | cons p l ih =>
   obtain ⟨c, jj⟩ := p
   rw [toks, List.length_cons, List.length_cons, ih, List.length_cons]
   omega
 have hN : (tnumT j :: toks its [eT]).length = 2 * its.length + 2 := by rw [List.length_cons, hlen]
 obtain ⟨m, hm⟩ : ∃ m, 20 * (2 * its.length + 2) + 10 = m + 1 := ⟨_, rfl⟩
 obtain ⟨p, nodes, hp, hd, hlow, hs, e⟩ := chain_O hq [] 0 5 0 (by omega) its hc m j (by omega) []
 have hpl : p = its.length := by
  by_cases h : p = its.length
  ·exact h
  ·exfalso
   have hlt : p < its.length := by omega
   rw [List.drop_eq_getElem_cons hlt] at hlow
   exact Nat.not_lt_zero _ hlow
 rw [hpl, List.take_of_length_le (Nat.le_refl _)] at hs
 rw [hpl, List.drop_of_length_le (Nat.le_refl _)] at e
 refine ⟨nodes, hs, ?_⟩
 simp only [exprT, wholeS, hN, hm]
 rw [exprS, e]
 simp only [PR.bind]
 exact ⟨[eT], [], rfl⟩
def dgO (n : Nat) : List UInt8 := if n < 10 then [UInt8.ofNat (48 + n)] else [UInt8.ofNat (48 + n / 10), UInt8.ofNat (48 + n % 10)]
theorem itoa_dgO {n : Nat} (h : n < 100) : Lib.itoa (n : Int) = dgO n := by
 unfold Lib.itoa dgO
 rw [if_neg (by omega), Int.toNat_natCast]
 by_cases h10 : n < 10
 ·rw [if_pos h10, Lib.decDigits_one h10]
 ·rw [if_neg h10, Lib.decDigits, dif_neg h10, Lib.decDigits_one (by omega)]
  rfl
theorem nat21 {n : Nat} (h : n ≤ 20) : n = 0 ∨ n = 1 ∨ n = 2 ∨ n = 3 ∨ n = 4 ∨ n = 5 ∨ n = 6 ∨ n = 7 ∨ n = 8 ∨ n = 9 ∨ n = 10 ∨ n = 11 ∨ n = 12 ∨ n = 13 ∨ n = 14 ∨ n = 15 ∨ n = 16 ∨ n = 17 ∨ n = 18 ∨ n = 19 ∨ n = 20 := by omega
theorem Tok_dgO {n : Nat} (h : n ≤ 20) : Tok (dgO n) (some (tnumT n, (dgO n).length)) ∧ stands (dgO n) := by
 rcases nat21 h with rfl | rfl | rfl | rfl | rfl | rfl | rfl | rfl | rfl | rfl | rfl | rfl | rfl | rfl | rfl | rfl | rfl | rfl | rfl | rfl | rfl <;> exact ⟨Tok.num _ _ (by decide), by decide, by decide⟩
theorem Tok_sgO {c : Nat} (h : c < 7) : Tok (sgO c) (some (tg (sgO c), (sgO c).length)) ∧ stands (sgO c) := by
 rcases nat7 h with rfl | rfl | rfl | rfl | rfl | rfl | rfl <;> exact ⟨Tok.sign _ _ (by decide) (by decide) (by decide), by decide, by decide⟩
def txtO : List (Nat × Nat) → List UInt8
 | [] => []
 | (c, j) :: l => 32 :: (sgO c ++ 32 :: (dgO j ++ txtO l))
theorem txtO_head : ∀ l, headOk [] (txtO l)
 | [] => .inl rfl
 | _ :: _ => .inr (.inl rfl)
theorem Lxs_O : ∀ (l : List (Nat × Nat)), (∀ p ∈ l, p.1 < 7 ∧ p.2 ≤ 20) → Lxs (txtO l) (toks l [eT])
 | [], _ => Lxs_nil
 | (c, j) :: l, h => by
  have ih := Lxs_O l fun p hp => h p (by simp [hp])
  obtain ⟨h1, h2⟩ := h (c, j) (by simp)
  obtain ⟨a1, a2⟩ := Tok_dgO h2
  obtain ⟨b1, b2⟩ := Tok_sgO h1
  exact Lxs_gap (by decide) (Lxs_tok b2 b1 (.inr (.inl rfl)) (Lxs_gap (by decide) (Lxs_tok a2 a1 (txtO_head l) ih)))
theorem txtO_append (a b : List (Nat × Nat)) : txtO (a ++ b) = txtO a ++ txtO b := by
 induction a with
 | nil => rfl
 | cons p a ih =>
  obtain ⟨c, j⟩ := p
  simp [txtO, ih]
theorem sgO_len (c : Nat) : (sgO c).length ≤ 2 := by unfold sgO; split <;> simp
theorem dgO_len (n : Nat) : (dgO n).length ≤ 2 := by unfold dgO; split <;> simp
theorem txtO_len (l : List (Nat × Nat)) : (txtO l).length ≤ 6 * l.length := by
 induction l with
 | nil => simp [txtO]
 | cons p l ih =>
  obtain ⟨c, j⟩ := p
  have := sgO_len c
  have := dgO_len j
  simp only [txtO, List.length_cons, List.length_append]
  omega
def itsO (ops : List UInt8) (i : Nat) : List (Nat × Nat) := (List.range i).map fun q => (((ops[q]?).getD 0).toNat % 7, q + 1)
theorem itsO_ok (ops : List UInt8) (i : Nat) (hi : i ≤ 20) : ∀ p ∈ itsO ops i, p.1 < 7 ∧ p.2 ≤ 20 := fun p hp => by
 obtain ⟨q, hq, rfl⟩ := List.mem_map.1 hp
 rw [List.mem_range] at hq
 exact ⟨Nat.mod_lt _ (by decide), by simp only; omega⟩
theorem itsO_succ (ops : List UInt8) (i : Nat) : itsO ops (i + 1) = itsO ops i ++ [(((ops[i]?).getD 0).toNat % 7, i + 1)] := by simp [itsO, List.range_succ]
theorem itsO_get (ops : List UInt8) {i q : Nat} (h : q < i) : ((itsO ops i).map (·.1))[q]? = some (((ops[q]?).getD 0).toNat % 7) := by simp [itsO, h]
theorem tmod7 (n : Nat) : (n : Int).tmod 7 = ((n % 7 : Nat) : Int) := by rw [Int.tmod_eq_emod_of_nonneg (by omega)]; simp
theorem tab_sg {c : Nat} (h : c < 7) : ([[124, 124], [38, 38], [43], [45], [42], [47], [37]] : List (List UInt8))[((c : Nat) : Int).toNat]? = some (sgO c) := by
 rcases nat7 h with rfl | rfl | rfl | rfl | rfl | rfl | rfl <;> rfl
theorem tab_rk {c : Nat} (h : c < 7) : ([0, 1, 3, 3, 4, 4, 4] : List Int)[((c : Nat) : Int).toNat]? = some ((rkO c : Nat) : Int) := by
 rcases nat7 h with rfl | rfl | rfl | rfl | rfl | rfl | rfl <;> rfl
theorem tab_kd {c : Nat} (h : c < 7) : ([11, 12, 19, 20, 21, 22, 23] : List Int)[((c : Nat) : Int).toNat]? = some (kdO c) := by
 rcases nat7 h with rfl | rfl | rfl | rfl | rfl | rfl | rfl <;> rfl
def kO (ops : List UInt8) : Nat → Nat
 | 0 => 0
 | i + 1 => if rkO (((ops[i]?).getD 0).toNat % 7) ≤ rkO (((ops[kO ops i]?).getD 0).toNat % 7) then i else kO ops i
theorem kO_le (ops : List UInt8) : ∀ i, kO ops i ≤ i
 | 0 => Nat.le_refl _
 | i + 1 => by
  have := kO_le ops i
  rw [kO]
  split <;> omega
theorem kO_lt (ops : List UInt8) : ∀ i, kO ops (i + 1) ≤ i
 | 0 => by rw [kO, kO]; simp
 | i + 1 => by
  have := kO_lt ops i
  rw [kO]
  split <;> omega
theorem kO_min (ops : List UInt8) : ∀ i, MinAt ((itsO ops (i + 1)).map (·.1)) (kO ops (i + 1)) (((ops[kO ops (i + 1)]?).getD 0).toNat % 7)
 | 0 => by
  have e : kO ops 1 = 0 := Nat.le_zero.1 (kO_lt ops 0)
  rw [e]
  refine ⟨itsO_get ops (by omega), fun i d h => ?_, fun i d hi h => ?_⟩
  ·have hlt := (List.getElem?_eq_some_iff.1 h).1
   simp [itsO] at hlt
   subst hlt
   rw [itsO_get ops (by omega)] at h
   cases h
   exact Nat.le_refl _
  ·have hlt := (List.getElem?_eq_some_iff.1 h).1
   simp [itsO] at hlt
   omega
 | i + 1 => by
  have ih := kO_min ops i
  have hk := kO_lt ops i
  have hget : ∀ (q d : Nat), ((itsO ops (i + 1 + 1)).map (·.1))[q]? = some d → (q < i + 1 ∧ ((itsO ops (i + 1)).map (·.1))[q]? = some d) ∨ (q = i + 1 ∧ d = ((ops[i + 1]?).getD 0).toNat % 7) := fun q d h => by
   have hlt := (List.getElem?_eq_some_iff.1 h).1
   have hlt' : q < i + 1 + 1 := by simpa [itsO] using hlt
   rw [itsO_get ops hlt'] at h
   by_cases hq : q < i + 1
   ·left
    exact ⟨hq, by rw [itsO_get ops hq]; exact h⟩
   ·have e : q = i + 1 := by omega
    right
    subst e
    exact ⟨rfl, (Option.some.inj h).symm⟩
  rw [kO]
  split
  ·rename_i hle
   refine ⟨itsO_get ops (by omega), fun q d h => ?_, fun q d hq h => ?_⟩
   ·rcases hget q d h with ⟨_, h'⟩ | ⟨_, rfl⟩
    ·exact Nat.le_trans hle (ih.low q d h')
    ·exact Nat.le_refl _
   ·rcases hget q d h with ⟨h1, _⟩ | ⟨h1, _⟩ <;> omega
  ·rename_i hle
   refine ⟨itsO_get ops (by omega), fun q d h => ?_, fun q d hq h => ?_⟩
   ·rcases hget q d h with ⟨_, h'⟩ | ⟨_, rfl⟩
    ·exact ih.low q d h'
    ·omega
   ·rcases hget q d h with ⟨h1, h'⟩ | ⟨_, rfl⟩
    ·exact ih.last q d hq h'
    ·omega
theorem order_end (ops : List UInt8) (h0 : 0 < ops.length) (h20 : ops.length ≤ 20) : At_Q8_1 ops (48 :: txtO (itsO ops ops.length)) (kO ops ops.length : Nat) (ops.length : Nat) true := by
 have hok := itsO_ok ops ops.length h20
 have hitl : (itsO ops ops.length).length = ops.length := by simp [itsO]
 have htl := txtO_len (itsO ops ops.length)
 rw [hitl] at htl
 obtain ⟨nodes, hs, ts, o, e⟩ := exprT_O (itsO ops ops.length) (fun p hp => (hok p hp).1) 0
 have hx : Lxs (48 :: txtO (itsO ops ops.length)) (tnumT 0 :: toks (itsO ops ops.length) [eT]) := by
  obtain ⟨a1, a2⟩ := Tok_dgO (n := 0) (by omega)
  exact Lxs_tok (w := dgO 0) a2 a1 (txtO_head _) (Lxs_O _ hok)
 have hE := r_ExprXok (by simp only [List.length_cons]; omega) hx e
 have hl : nodes.length = 2 * ops.length + 1 := by rw [hs.len, List.length_map, hitl]
 have hT := r_Tree nodes (by omega) hs.nb
 have ht : treeS nodes = true := by
  have := hs.stack [] []
  rw [List.append_nil] at this
  rw [tree_stk, this]
  rfl
 rw [ht] at hT
 obtain ⟨n1, hn1⟩ : ∃ n1, ops.length = n1 + 1 := ⟨ops.length - 1, by omega⟩
 obtain ⟨k, c, hm, htop⟩ := hs.top (by intro e; have := congrArg List.length e; rw [List.length_map, hitl] at this; simp only [List.length_nil] at this; omega)
 have hmin := kO_min ops n1
 rw [← hn1] at hmin
 obtain ⟨ek, ec⟩ := hm.uniq hmin
 rw [List.length_map, hitl] at htop
 have hkl := kO_lt ops n1
 rw [← hn1] at hkl
 have hklt : kO ops ops.length < ops.length := by omega
 have hgk : ops[((kO ops ops.length : Nat) : Int).toNat]? = some ops[kO ops ops.length] := by rw [Int.toNat_natCast]; exact List.getElem?_eq_getElem hklt
 have ec' : c = ops[kO ops ops.length].toNat % 7 := by rw [ec, List.getElem?_eq_getElem hklt]; rfl
 have hv : ops[kO ops ops.length].toNat < 256 := ops[kO ops ops.length].toNat_lt
 apply At_Q8_1_step
 refine ⟨fun hf => by omega, fun _ => ⟨nodes, 0, hE, 0, r_Num1 _, fun _ => ⟨⟨by omega, by omega⟩, ⟨by omega, by omega⟩, fun _ => ⟨true, hT, fun _ => ⟨⟨by omega, by omega⟩, by omega, nd (kdO c) [] [((0 + 2 * k : Nat) : Int), ((0 + 2 * ops.length : Nat) : Int) - 1], ?_, by omega, _, hgk, ⟨by omega, by omega⟩, ?_, kdO c, ?_, fun _ => ⟨fun _ => ⟨_, rfl, ⟨by omega, by omega⟩, fun _ => ⟨_, rfl, ⟨by omega, by omega⟩, fun _ => ⟨true, r_awake2, rfl⟩, fun hf => ?_⟩, fun hf => ?_⟩, fun hf => absurd rfl hf⟩, fun hf => absurd rfl hf⟩, fun hf => absurd rfl hf⟩, fun hf => by omega⟩, fun hf => absurd rfl hf⟩⟩
 ·rw [show ((nodes.length : Int) - 1).toNat = 2 * ops.length by omega]
  exact htop
 ·rw [tmod7]; omega
 ·rw [tmod7, ec']
  exact tab_kd (Nat.mod_lt _ (by decide))
 ·exfalso; apply hf; rw [hl]; omega
 ·exfalso; apply hf; rw [ek]; omega
theorem order_loop (ops : List UInt8) (h0 : 0 < ops.length) (h20 : ops.length ≤ 20) : ∀ (m i : Nat), i + m = ops.length → At_Q8_1 ops (48 :: txtO (itsO ops i)) (kO ops i : Nat) (i : Nat) true
 | 0, i, hi => by
  obtain rfl : i = ops.length := by omega
  exact order_end ops h0 h20
 | m + 1, i, hi => by
  have ih := order_loop ops h0 h20 m (i + 1) (by omega)
  have hlt : i < ops.length := by omega
  have hk := kO_le ops i
  have hklt : kO ops i < ops.length := by omega
  have hg : ops[((i : Nat) : Int).toNat]? = some ops[i] := by rw [Int.toNat_natCast]; exact List.getElem?_eq_getElem hlt
  have hgk : ops[((kO ops i : Nat) : Int).toNat]? = some ops[kO ops i] := by rw [Int.toNat_natCast]; exact List.getElem?_eq_getElem hklt
  have hv : ops[i].toNat < 256 := ops[i].toNat_lt
  have hvk : ops[kO ops i].toNat < 256 := ops[kO ops i].toNat_lt
  have htl := txtO_len (itsO ops i)
  rw [show (itsO ops i).length = i by simp [itsO]] at htl
  have hsl := sgO_len (ops[i].toNat % 7)
  have hdl := dgO_len (i + 1)
  have hd := r_Digits ((i : Int) + 1) ⟨by omega, by omega⟩
  rw [show ((i : Int) + 1) = ((i + 1 : Nat) : Int) by omega, itoa_dgO (by omega)] at hd
  have c7 : ops[i].toNat % 7 < 7 := Nat.mod_lt _ (by decide)
  have c7k : ops[kO ops i].toNat % 7 < 7 := Nat.mod_lt _ (by decide)
  have e1 : ((((48 :: txtO (itsO ops i)) ++ [32]) ++ sgO (ops[i].toNat % 7)) ++ [32]) ++ dgO (i + 1) = 48 :: txtO (itsO ops (i + 1)) := by
   rw [itsO_succ, txtO_append, List.getElem?_eq_getElem hlt]
   simp [txtO]
  have ek : kO ops (i + 1) = if rkO (ops[i].toNat % 7) ≤ rkO (ops[kO ops i].toNat % 7) then i else kO ops i := by
   rw [kO, List.getElem?_eq_getElem hlt, List.getElem?_eq_getElem hklt]
   rfl
  have hd' : R_Q16 ((i : Int) + 1) (dgO (i + 1)) := by rw [show ((i : Int) + 1) = ((i + 1 : Nat) : Int) by omega]; exact hd
  have next : ∀ q : Nat, q = kO ops (i + 1) → At_Q8_1 ops (((((48 :: txtO (itsO ops i)) ++ [32]) ++ sgO (ops[i].toNat % 7)) ++ [32]) ++ dgO (i + 1)) (q : Nat) ((i : Int) + 1) true := fun q hq => by
   rw [e1, hq]
   exact ih
  apply At_Q8_1_step
  refine ⟨fun _ => ⟨by simp only [List.length_cons, maxInt]; omega, by omega, _, hg, ⟨by omega, by omega⟩, by rw [tmod7]; omega, _, by rw [tmod7]; exact tab_sg c7, by simp only [List.length_cons, maxInt]; omega, by simp only [List.length_cons, maxInt]; omega, ⟨by omega, by omega⟩, _, hd', by simp only [List.length_cons, maxInt]; omega, ⟨by omega, by omega⟩, by rw [tmod7]; omega, _, by rw [tmod7]; exact tab_rk c7, by omega, _, hgk, ⟨by omega, by omega⟩, by rw [tmod7]; omega, _, by rw [tmod7]; exact tab_rk c7k, fun h => ⟨⟨by omega, by omega⟩, next i ?_⟩, fun h => ⟨⟨by omega, by omega⟩, next (kO ops i) ?_⟩⟩, fun hf => by omega⟩
  ·rw [ek, if_pos (by omega)]
  ·rw [ek, if_neg (by omega)]
theorem r_ParseOrder (ops : List UInt8) : R_Q8 ops true := by
 refine Q8_tree _ _ ⟨fun _ => ⟨true, r_awake2, rfl⟩, fun h0 => ⟨fun _ => ⟨true, r_awake2, rfl⟩, fun h20 => ?_⟩⟩
 have := order_loop ops (by omega) (by omega) ops.length 0 (by omega)
 exact this
end Go.Proofs.YtfbcnpbhhooapaaGreatDoor.M
