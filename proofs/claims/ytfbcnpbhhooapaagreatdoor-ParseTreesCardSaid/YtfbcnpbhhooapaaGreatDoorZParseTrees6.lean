/- Parts of a proof, one behind another: Wp5, Wl6, Wl7, Wl8, Wl9, Wl10, WlD, Wl11, Wl12, Wl13, Wl14, WlL, Wp6, Sc7, Lt7, Wp7, Wt5, Wt6, Shelf, XE, SpecParseTrees. -/
import Derived.Test.YtfbcnpbhhooapaaGreatDoorZParseTrees5
import Derived.Lib.ItoaLen
import Derived.Test.YtfbcnpbhhooapaaGreatDoorProg
import Derived.KernelRfl
import Derived.Shelf.Strings.Builder1
import Derived.Shelf.Strings.Builder2
import Derived.Shelf.Small.Strs
import Derived.Shelf.Small.Wraps
import Derived.Shelf.Strings.BuilderF
import Derived.Shelf.Strings.BuilderK
import Derived.Shelf.Utf8.RuneCount
import Derived.Shelf.Strings.Builder2Cap
import Derived.Shelf.Strconv.Atoi
import Derived.Shelf.Strconv.Itoa0
import Derived.Shelf.Strconv.Itoa1
import Derived.Shelf.LaysM
import Derived.Shelf.Strconv.Itoa2
import Derived.Shelf.Strconv.Itoa3
import Derived.Shelf.Strconv.AtoiErrFast
import Derived.Shelf.Strconv.ParseIntEmpty
import Derived.Shelf.Strconv.AtoiFail
import Derived.Shelf.Strconv.Clone
import Derived.Shelf.Strconv.SyntaxError
import Derived.Shelf.LaysC
import Derived.Shelf.Strconv.ToError
import Derived.Shelf.Strconv.AtoiErr
import Derived.Shelf.Strconv.Lower
import Derived.Shelf.Strconv.ParseUint10
import Derived.Shelf.Strconv.ParseUint10Empty
import Derived.Shelf.Strconv.ParseUint10Any
import Derived.Shelf.Strconv.ParseInt10
import Derived.Shelf.Strconv.AtoiLong
import Derived.Shelf.Strconv.AtoiInnerAll
import Derived.Shelf.Strconv.RangeError
import Derived.Shelf.Strconv.ToErrorRange
import Derived.Shelf.Strconv.AtoiAll
import Derived.Shelf.Strconv.ErrVarAll
import Derived.Shelf.Strings.Search1
import Derived.Shelf.Strings.Search2
import Derived.Shelf.Strings.Search3
import Derived.Shelf.Strings.Cut
import Derived.Shelf.Strings.Count
import Derived.Shelf.Strings.Shaped
import Derived.Shelf.Strings.Prefix
import Derived.Shelf.Strings.Split
import Derived.Shelf.Strings.Replace
import Derived.Shelf.Strings.SplitShaped
import Derived.Shelf.Unicode.Decode
import Derived.Shelf.Strings.RuneCount
import Derived.Shelf.Bits.Mul64
import Derived.Shelf.Strings.Repeat
import Derived.Shelf.Unicode.DecodeSlow
import Derived.Shelf.Unicode.DecodeAny
import Derived.Ground.Names2Prog
import Derived.Shelf.Slices.Clone
import Derived.Ground.SlgnProg
import Derived.Shelf.SlicesE.Clone
set_option maxHeartbeats 4000000
namespace Go.Proofs.YtfbcnpbhhooapaaGreatDoor.M
set_option linter.unusedSimpArgs false
set_option linter.unusedVariables false
open Go Classical
theorem r_blk {L ts : List Token} (hT : TL L) (hs : ts <:+ L) (hw : W ts) {lab : List UInt8 → Bool} (hl : ∀ s, s.length ≤ 1000000 → R_Q81 s (lab s)) {N : Nat} (hN : 20 * L.length + 10 ≤ N) : OkP L ts 1 (fun b g z => R_Q39 b g z false) (blkS lab N ts) := by
 cases ts with
 | nil => exact hw.elim
 | cons t ts =>
  simp only [blkS]
  by_cases hk : t.Kind = 3
  ·rw [if_pos hk]
   cases hi : idxS t.Text wordsS 0 with
   | none => exact r_blkNo hs false (.inr (.inl hi))
   | some i =>
    simp only
    by_cases h4 : i = 4
    ·subst h4
     rw [if_pos rfl]
     have hk0 : t.Kind ≠ 0 := by rw [hk]; decide
     have hs1 := suf_tail hs
     have hw1 := hw.tail hk0
     have hlc : (t :: ts).length = ts.length + 1 := rfl
     have hll := suf_len hs
     have hLl := hT.len
     have hI : I64 ((pt L (t :: ts)).pos + 1) := by simp only [pt, I64]; omega
     have e1 : ∀ out, PBlocks.mk (PExprs.mk (PTokens.mk (pt L (t :: ts)).l ((pt L (t :: ts)).pos + 1)) (pb L (t :: ts) out).exprs.out (pb L (t :: ts) out).exprs.deep) = pb L ts out := fun out => by rw [pt_next hs]; rfl
     have hix : R_slices_Index_string_string wordsS t.Text ((4 : Nat) : Int) := by have := r_IndexS wordsS t.Text (by decide); rw [hi] at this; exact this
     have n0 : ¬ (1 + ((4 : Nat) : Int)) = 0 := by decide
     have hI1 : I64 (1 + ((4 : Nat) : Int)) := ⟨by decide, by decide⟩
     have h2 := r_lab hT hs1 hw1 hl
     cases hc : labS lab ts with
     | no => rw [hc] at h2; exact h2.elim
     | er e =>
      rw [hc] at h2
      intro out g z
      obtain ⟨a, x', g', z', q⟩ := h2 out g z
      exact ⟨⟨0, [], [], []⟩, x', g', z', Q39_tree _ _ _ _ _ _ _ _ _ ⟨t, _, r_now hs, _, r_words, _, hix, hI1, fun _ => ⟨fun hf => absurd hf n0, fun _ => ⟨fun _ => ⟨fun hf => (by cases hf), fun _ => ⟨hI, some e, a, x', g', z', (e1 out).symm ▸ q, rfl, rfl, rfl, rfl⟩⟩, fun hf => absurd rfl hf⟩⟩, fun hf => absurd hk hf⟩⟩
     | ok l ts1 out1 =>
      rw [hc] at h2
      obtain ⟨s1, w1, l1, q1⟩ := h2
      simp only [PR.bind, needS]
      by_cases he : isS [123] ts1 = true
      ·rw [if_pos he]
       have hlen := len_shift he
       have h3 := r_blks hT hl hN ((4 : Nat) : Int) l [] 1 1 N [] ts1.tail (suf_shift s1) (w1.shift he) (by omega) (by simp; omega)
       cases hb : blksS lab N N [] ts1.tail with
       | no => rw [hb] at h3; exact h3.elim
       | er e =>
        rw [hb] at h3
        intro out g z
        obtain ⟨out1, g1, z1, q1⟩ := q1 out g z
        obtain ⟨a, x', g', z', q⟩ := h3 out1 g1 z1
        exact ⟨_, x', g', z', Q39_tree _ _ _ _ _ _ _ _ _ ⟨t, _, r_now hs, _, r_words, _, hix, hI1, fun _ => ⟨fun hf => absurd hf n0, fun _ => ⟨fun _ => ⟨fun hf => (by cases hf), fun _ => ⟨hI, none, l, _, _, _, (e1 out).symm ▸ q1, none, _, r_need1 s1 hT.len he, q⟩⟩, fun hf => absurd rfl hf⟩⟩, fun hf => absurd hk hf⟩⟩
       | ok bs ts2 out2 =>
        rw [hb] at h3
        obtain ⟨s2, w2, l2, q2⟩ := h3
        refine ⟨s2, w2, by omega, fun out g z => ?_⟩
        obtain ⟨out1, g1, z1, q1⟩ := q1 out g z
        obtain ⟨out', g', z', q2⟩ := q2 out1 g1 z1
        exact ⟨out', g', z', Q39_tree _ _ _ _ _ _ _ _ _ ⟨t, _, r_now hs, _, r_words, _, hix, hI1, fun _ => ⟨fun hf => absurd hf n0, fun _ => ⟨fun _ => ⟨fun hf => (by cases hf), fun _ => ⟨hI, none, l, _, _, _, (e1 out).symm ▸ q1, none, _, r_need1 s1 hT.len he, q2⟩⟩, fun hf => absurd rfl hf⟩⟩, fun hf => absurd hk hf⟩⟩
      ·rw [if_neg he]
       intro out g z
       obtain ⟨out1, g1, z1, q1⟩ := q1 out g z
       exact ⟨⟨0, [], [], []⟩, _, _, _, Q39_tree _ _ _ _ _ _ _ _ _ ⟨t, _, r_now hs, _, r_words, _, hix, hI1, fun _ => ⟨fun hf => absurd hf n0, fun _ => ⟨fun _ => ⟨fun hf => (by cases hf), fun _ => ⟨hI, none, l, _, _, _, (e1 out).symm ▸ q1, some 5, _, r_need0 s1 w1.ne (by simpa using he), rfl, rfl, rfl, rfl⟩⟩, fun hf => absurd rfl hf⟩⟩, fun hf => absurd hk hf⟩⟩
    ·rw [if_neg h4]
     exact r_blkPlain hT hs hw hl hN false hk hi h4 (by have := idxS_lt _ _ _ _ hi; simp [wordsS] at this; omega)
  ·rw [if_neg hk]
   exact r_blkNo hs false (.inl hk)
theorem r_conf {L : List Token} (hT : TL L) {lab : List UInt8 → Bool} (hl : ∀ s, s.length ≤ 1000000 → R_Q81 s (lab s)) {N : Nat} (hN : 20 * L.length + 10 ≤ N) : ∀ (n : Nat) (acc : List Block) (ts : List Token), ts <:+ L → W ts → ts.length < n → acc.length + ts.length ≤ 1000000 →
  match confS lab N n acc ts with
  | .ok l _ _ => ∀ out g z, ∃ b' bg bz, At_Q37_1 (pb L ts out) g z acc 0 false none b' bg bz l 0 false
  | .er e => ∀ out g z, ∃ b' bg bz l, At_Q37_1 (pb L ts out) g z acc 0 false (some e) b' bg bz l 0 false
  | .no => False
 | 0, _, _, _, _, h, _ => absurd h (Nat.not_lt_zero _)
 | n + 1, acc, [], hs, hw, hn, hal => hw.elim
 | n + 1, acc, t :: ts, hs, hw, hn, hal => by
  have hlc : (t :: ts).length = ts.length + 1 := rfl
  simp only [confS]
  by_cases hk : t.Kind = 0
  ·rw [if_pos hk]
   exact fun out g z => ⟨_, _, _, At_Q37_1_step _ _ _ _ _ _ _ _ _ _ _ _ _ ⟨t, _, r_now hs, fun _ => ⟨rfl, rfl, rfl, rfl, rfl, rfl, rfl⟩, fun hf => absurd hk hf⟩⟩
  rw [if_neg hk]
  have h1 := r_blk hT hs hw hl hN
  have hbig : bigRow (acc.length + 1) 72 := by simp only [bigRow]; omega
  cases hc : blkS lab N (t :: ts) with
  | no => rw [hc] at h1; exact h1.elim
  | er e =>
   rw [hc] at h1
   intro out g z
   obtain ⟨a, x', g', z', q⟩ := h1 out g z
   exact ⟨x', g', z', acc, At_Q37_1_step _ _ _ _ _ _ _ _ _ _ _ _ _ ⟨t, _, r_now hs, fun hf => absurd hf hk, fun _ => ⟨some e, a, x', g', z', q, rfl, rfl, rfl, rfl, rfl, rfl, rfl⟩⟩⟩
  | ok a ts1 out1 =>
   rw [hc] at h1
   obtain ⟨s1, w1, l1, q1⟩ := h1
   simp only [PR.bind]
   have h2 := r_conf hT hl hN n (acc ++ [a]) ts1 s1 w1 (by omega) (by simp; omega)
   cases hb : confS lab N n (acc ++ [a]) ts1 with
   | no => rw [hb] at h2; exact h2.elim
   | er e =>
    rw [hb] at h2
    intro out g z
    obtain ⟨out1, g1, z1, q1⟩ := q1 out g z
    obtain ⟨b', bg, bz, l, q⟩ := h2 out1 g1 z1
    exact ⟨b', bg, bz, l, At_Q37_1_step _ _ _ _ _ _ _ _ _ _ _ _ _ ⟨t, _, r_now hs, fun hf => absurd hf hk, fun _ => ⟨none, a, _, _, _, q1, hbig, by omega, rfl, ⟨0, [], [], []⟩, by simp, by rw [set_lastP]; exact q⟩⟩⟩
   | ok l ts2 out2 =>
    rw [hb] at h2
    intro out g z
    obtain ⟨out1, g1, z1, q1⟩ := q1 out g z
    obtain ⟨b', bg, bz, q⟩ := h2 out1 g1 z1
    exact ⟨b', bg, bz, At_Q37_1_step _ _ _ _ _ _ _ _ _ _ _ _ _ ⟨t, _, r_now hs, fun hf => absurd hf hk, fun _ => ⟨none, a, _, _, _, q1, hbig, by omega, rfl, ⟨0, [], [], []⟩, by simp, by rw [set_lastP]; exact q⟩⟩⟩
theorem pb0_eq (L : List Token) : pb0 L = pb L L [] := by simp [pb0, pb, pe, pt]
def confT (lab : List UInt8 → Bool) (L : List Token) : PR (List Block) := confS lab (20 * L.length + 10) (L.length + 1) [] L
theorem r_ParseT {s : List UInt8} {L : List Token} (hx : R_Q60 s L 0) (hT : TL L) (hw : W L) {lab : List UInt8 → Bool} (hl : ∀ s, s.length ≤ 1000000 → R_Q81 s (lab s)) :
  match confT lab L with
  | .ok l _ _ => R_Q17 s l 0
  | .er e => e ≠ 0 → R_Q17 s [] e
  | .no => False := by
 have h := r_conf hT hl (Nat.le_refl _) (L.length + 1) [] L (List.suffix_refl L) hw (by omega) (by have := hT.len; simp; omega)
 unfold confT
 cases hc : confS lab (20 * L.length + 10) (L.length + 1) [] L with
 | no => rw [hc] at h; exact h.elim
 | er e =>
  rw [hc] at h
  intro he
  obtain ⟨b', bg, bz, l, q⟩ := h [] 0 false
  have := r_Parse_of hx (o := some e) (by rw [pb0_eq]; exact Q37_tree _ _ _ _ _ _ _ _ _ _ _ _ _ q)
  rw [Option.getD_some, if_neg he] at this
  exact this
 | ok l ts out =>
  rw [hc] at h
  obtain ⟨b', bg, bz, q⟩ := h [] 0 false
  exact r_Parse_of hx (o := none) (by rw [pb0_eq]; exact Q37_tree _ _ _ _ _ _ _ _ _ _ _ _ _ q)
theorem dotted_split {s : List UInt8} (h : dottedS s = true) : ∃ x y, s = x ++ 46 :: y ∧ nameS x = true ∧ nameS y = true := by
 unfold dottedS at h
 by_cases hm : (46 : UInt8) ∈ s
 ·obtain ⟨u, v, rfl, hu⟩ := splitAt_first 46 s hm
  rw [cut_split 46 u v hu] at h
  simp only [Bool.and_eq_true] at h
  exact ⟨u, v, rfl, h.1.2, h.2⟩
 ·rw [cut_none 46 s hm] at h
  cases h
theorem ref_split {t : List UInt8} (h : (refS t).2 = true) : ∃ x y v, t = x ++ 46 :: (y ++ 125 :: v) ∧ nameS x = true ∧ nameS y = true ∧ (refS t).1 = x ++ 46 :: y := by
 unfold refS at h ⊢
 by_cases hm : (125 : UInt8) ∈ t
 ·obtain ⟨u, v, rfl, hu⟩ := splitAt_first 125 t hm
  rw [cut_split 125 u v hu] at h ⊢
  obtain ⟨x, y, rfl, hx, hy⟩ := dotted_split (by simpa using h)
  exact ⟨x, y, v, by simp, hx, hy, rfl⟩
 ·rw [cut_none 125 t hm] at h
  cases h
theorem drop_mid (b : UInt8) (x w : List UInt8) : (x ++ b :: w).drop (x.length + 1) = w := by rw [List.drop_append]; simp
def ones : List Int := [123, 125, 91, 93, 40, 41, 61, 44, 46, 43, 45, 42, 47, 37, 60, 62, 33, 63, 58]
def twos : List (List UInt8) := [[61, 61], [33, 61], [60, 61], [62, 61], [38, 38], [124, 124]]
def sign1 (a : UInt8) : List UInt8 := if ((a.toNat : Nat) : Int) ∈ ones then [a] else []
def sign2 (a b : UInt8) : List UInt8 := if [a, b] ∈ twos then [a, b] else sign1 a
def signS : List UInt8 → List UInt8
 | [] => []
 | [a] => sign1 a
 | a :: b :: _ => sign2 a b
def TI (t : LText) : Prop := t.left.length ≤ 6000 ∧ 0 ≤ t.pos ∧ t.pos + (t.left.length : Nat) ≤ 6000
def takeT (t : LText) (n : Nat) : LText := ⟨t.left.drop n, t.pos + n⟩
theorem TI.take {t : LText} (h : TI t) {n : Nat} (hn : n ≤ t.left.length) : TI (takeT t n) := by
 obtain ⟨h1, h2, h3⟩ := h
 refine ⟨?_, ?_, ?_⟩ <;> simp only [takeT, List.length_drop] <;> omega
theorem r_take {t : LText} (h : TI t) {n : Nat} (hn : n ≤ t.left.length) : R_Q135 t n (t.left.take n) (takeT t n) := by
 apply Q135_tree
 obtain ⟨h1, h2, h3⟩ := h
 rw [Int.toNat_natCast]
 refine ⟨by omega, hn, by omega, hn, ⟨by omega, by omega⟩, rfl, ?_⟩
 rw [List.take_of_length_le (by simp)]
 rfl
theorem r_word {t : LText} (h : TI t) (cl : List Int) (hc : cl.length < 1000000) : R_Q134 t cl (t.left.takeWhile (inC cl)) (takeT t (spanS cl t.left)) := by
 apply Q134_tree
 have h1 := h.1
 refine ⟨_, r_span t.left cl hc (by omega), _, _, r_take h (spanS_le cl t.left), ?_, rfl⟩
 exact take_while_len _ _
theorem r_name (t : LTokens) (g : Nat) (z : Bool) (h : TI t.text) : R_Q138 t g z (Token.mk 3 (t.text.left.takeWhile (inC [2, 3])) 0 [] 0) (nameS (t.text.left.takeWhile (inC [2, 3]))) (LTokens.mk (takeT t.text (spanS [2, 3] t.text.left)) t.out) g z := by
 apply Q138_tree
 have h1 := h.1
 have h2 := spanS_le [2, 3] t.text.left
 exact ⟨_, _, r_word h [2, 3] (by decide), _, r_lexName _ (by unfold spanS at h2; omega), rfl, rfl, rfl, rfl, rfl⟩
theorem has_ones (a : UInt8) : Lib.contains [123, 125, 91, 93, 40, 41, 61, 44, 46, 43, 45, 42, 47, 37, 60, 62, 33, 63, 58] [a] = decide (((a.toNat : Nat) : Int) ∈ ones) := by
 unfold Lib.contains
 rw [index1]
 refine decide_eq_decide.2 ?_
 have e : a ∈ ([123, 125, 91, 93, 40, 41, 61, 44, 46, 43, 45, 42, 47, 37, 60, 62, 33, 63, 58] : List UInt8) ↔ ((a.toNat : Nat) : Int) ∈ ones := by
  simp only [ones, List.mem_cons, List.not_mem_nil, or_false, ← UInt8.toNat_inj, UInt8.reduceToNat]
  omega
 rw [← e]
 split
 ·rename_i h; simp only [h, iff_true]; omega
 ·rename_i h; simp only [h, iff_false]; omega
theorem r_sign (t : LTokens) (g : Nat) (z : Bool) (h : TI t.text) (hne : t.text.left ≠ []) : R_Q136 t g z (if signS t.text.left = [] then Token.mk 0 [] 0 [] 0 else Token.mk 4 (signS t.text.left) 0 [] 0) (decide (signS t.text.left ≠ [])) (if signS t.text.left = [] then t else LTokens.mk (takeT t.text (signS t.text.left).length) t.out) g z := by
 apply Q136_tree
 obtain ⟨⟨left, pos⟩, out⟩ := t
 have h1 := h.1
 simp only at h1 hne ⊢
 match left, hne, h1, h with
 | [a], hne, h1, h =>
  have hn : ¬ [a] ∈ twos := by unfold twos; simp
  have e0 : (if (([a].length : Nat) : Int) < 2 then (([a].length : Nat) : Int) else 2).toNat = 1 := by simp
  rw [e0]
  simp only [List.take_succ_cons, List.take_zero, List.length_cons, List.length_nil]
  refine ⟨by simp, by omega, _, r_containsS twos [a] (by decide), fun hq => absurd (of_decide_eq_true hq) hn, fun _ => ⟨by omega, _, r_SContains _ [a] (by simp), fun hq => ?_, fun hq => ?_⟩⟩
  ·rw [has_ones] at hq
   have hq := of_decide_eq_true hq
   have hs : signS [a] = [a] := by simp [signS, sign1, hq]
   rw [hs]
   exact ⟨_, _, r_take h (n := 1) (by simp), by simp⟩
  ·rw [has_ones] at hq
   have hq : ¬ ((a.toNat : Nat) : Int) ∈ ones := fun e => hq (decide_eq_true e)
   have hs : signS [a] = [] := by simp [signS, sign1, hq]
   rw [hs]
   simp
 | a :: b :: u, hne, h1, h =>
  have e0 : (if (((a :: b :: u).length : Nat) : Int) < 2 then (((a :: b :: u).length : Nat) : Int) else 2) = 2 := by
   rw [if_neg]; simp only [List.length_cons]; omega
  have e00 : (2 : Int).toNat = 2 := rfl
  rw [e0, e00]
  simp only [List.take_succ_cons, List.take_zero, List.length_cons, List.length_nil]
  refine ⟨by simp, by omega, _, r_containsS twos [a, b] (by decide), fun hq => ?_, fun hn => ⟨by omega, _, r_SContains _ [a] (by simp), fun hq => ?_, fun hq => ?_⟩⟩
  ·have hq := of_decide_eq_true hq
   have hs : signS (a :: b :: u) = [a, b] := by simp [signS, sign2, hq]
   rw [hs]
   exact ⟨_, _, r_take h (n := 2) (by simp), by simp⟩
  ·have hn : ¬ [a, b] ∈ twos := fun e => hn (decide_eq_true e)
   rw [has_ones] at hq
   have hq := of_decide_eq_true hq
   have hs : signS (a :: b :: u) = [a] := by simp [signS, sign2, sign1, hn, hq]
   rw [hs]
   exact ⟨_, _, r_take h (n := 1) (by simp), by simp⟩
  ·have hn : ¬ [a, b] ∈ twos := fun e => hn (decide_eq_true e)
   rw [has_ones] at hq
   have hq : ¬ ((a.toNat : Nat) : Int) ∈ ones := fun e => hq (decide_eq_true e)
   have hs : signS (a :: b :: u) = [] := by simp [signS, sign2, sign1, hn, hq]
   rw [hs]
   simp
def escS (x : UInt8) : Option UInt8 := if x = 34 ∨ x = 92 ∨ x = 36 then some x else if x = 110 then some 10 else none
theorem r_IndexByte (s : List UInt8) (c : UInt8) : R_strings_IndexByte s c (Lib.indexByte s c) := fun S => call_ext sp_strings_IndexByte S (by simp [indexX])
theorem r_escaped (y x : UInt8) (u : List UInt8) : R_Q164 (y :: x :: u) ((escS x).getD 0) (escS x).isSome := by
 apply Q164_tree
 refine ⟨fun h => absurd h (by simp; omega), fun _ => ⟨x, rfl, _, r_IndexByte _ x, ?_⟩⟩
 unfold escS
 by_cases h1 : x = 34
 ·subst h1
  exact ⟨fun h => absurd h (by decide), fun _ => ⟨by decide, 34, rfl, rfl, rfl⟩⟩
 ·by_cases h2 : x = 92
  ·subst h2
   exact ⟨fun h => absurd h (by decide), fun _ => ⟨by decide, 92, rfl, rfl, rfl⟩⟩
  ·by_cases h3 : x = 36
   ·subst h3
    exact ⟨fun h => absurd h (by decide), fun _ => ⟨by decide, 36, rfl, rfl, rfl⟩⟩
   ·by_cases h4 : x = 110
    ·subst h4
     exact ⟨fun h => absurd h (by decide), fun _ => ⟨by decide, 10, rfl, rfl, rfl⟩⟩
    ·have e : Lib.indexByte [34, 92, 36, 110] x = -1 := by
      have := Lib.indexByte_ge [34, 92, 36, 110] x
      simp [Lib.indexByte, Ne.symm h1, Ne.symm h2, Ne.symm h3, Ne.symm h4]
     rw [e]
     simp [h1, h2, h3, h4]
def joinP (l : List Part) (b : List UInt8) : List Part := l ++ (if b = [] then [] else [Part.mk false b])
def okP (l : List Part) : Prop := l = [] ∨ ∃ l0 q, l = l0 ++ [Part.mk true q]
theorem set_last {α : Type} (l : List α) (x y : α) : (l ++ [x]).set l.length y = l ++ [y] := by simp
theorem r_plain (l : List Part) (b : List UInt8) (c : UInt8) (g : Nat) (hl : okP l) (h1 : l.length ≤ 10000) (h2 : b.length ≤ 10000) : R_Q165 (joinP l b) g false c (joinP l (b ++ [c])) g false := by
 apply Q165_tree
 have hb : b ++ [c] ≠ [] := by simp
 by_cases e : b = []
 ·subst e
  have e1 : joinP l [] = l := by simp [joinP]
  have e2 : joinP l ([] ++ [c]) = l ++ [Part.mk false [c]] := by simp [joinP]
  have e3 : (((l.length : Nat) : Int) + 1 - 1).toNat = l.length := by omega
  have big : bigRow (l.length + 1) 24 := ⟨by omega, by omega, by decide⟩
  rw [e1, e2, e3]
  refine ⟨fun h => ⟨big, ⟨by omega, by omega⟩, ⟨by omega, by omega⟩, by omega, by omega, Part.mk false [], by simp, by simp [maxInt], by omega, by omega, rfl, ?_, rfl, rfl⟩, fun h => ?_⟩
  ·rw [set_last]; rfl
  ·rcases hl with rfl | ⟨l0, q, rfl⟩
   ·exact absurd rfl h
   ·have e4 : ((((l0 ++ [Part.mk true q]).length : Nat) : Int) - 1).toNat = l0.length := by simp
    have hlen : (l0 ++ [Part.mk true q]).length = l0.length + 1 := by simp
    rw [e4]
    refine ⟨⟨by omega, by omega⟩, by omega, by omega, Part.mk true q, by simp, fun _ => ⟨big, ⟨by omega, by omega⟩, ⟨by omega, by omega⟩, by omega, by omega, Part.mk false [], by simp, by simp [maxInt], by omega, by omega, rfl, ?_, rfl, rfl⟩, fun h => absurd rfl h⟩
    rw [set_last]; rfl
 ·have e1 : joinP l b = l ++ [Part.mk false b] := by simp [joinP, e]
  have e2 : joinP l (b ++ [c]) = l ++ [Part.mk false (b ++ [c])] := by simp [joinP]
  have hlen : (l ++ [Part.mk false b]).length = l.length + 1 := by simp
  have e3 : ((((l ++ [Part.mk false b]).length : Nat) : Int) - 1).toNat = l.length := by omega
  rw [e1, e2]
  refine ⟨fun h => by omega, fun h => ?_⟩
  rw [e3]
  refine ⟨⟨by omega, by omega⟩, by omega, by omega, Part.mk false b, by simp, fun h => by simp at h, fun _ => ⟨⟨by omega, by omega⟩, by omega, by omega, by simp only [maxInt]; omega, by omega, by omega, rfl, ?_, rfl, rfl⟩⟩
  rw [set_last]
inductive Qx : List UInt8 → List Part → List UInt8 → Option (List Part × Nat) → Prop
 | nil (l b) : Qx [] l b none
 | shut (t l b) : Qx (34 :: t) l b (some (joinP l b, 1))
 | low (c t l b) (h1 : c ≠ 34) (h2 : c.toNat < 32) : Qx (c :: t) l b none
 | esc (x y t l b r) (h1 : escS x = some y) (h : Qx t l (b ++ [y]) r) : Qx (92 :: x :: t) l b (r.map fun q => (q.1, q.2 + 2))
 | esc0 (l b) : Qx [92] l b none
 | escbad (x t l b) (h1 : escS x = none) : Qx (92 :: x :: t) l b none
 | ref (t l b r) (h1 : (refS t).2 = true) (h : Qx (t.drop ((refS t).1.length + 1)) (joinP l b ++ [Part.mk true (refS t).1]) [] r) : Qx (36 :: 123 :: t) l b (r.map fun q => (q.1, q.2 + (3 + (refS t).1.length)))
 | refbad (t l b) (h1 : (refS t).2 = false) : Qx (36 :: 123 :: t) l b none
 | plain (c t l b r) (h1 : c ≠ 34) (h2 : ¬ c.toNat < 32) (h3 : c ≠ 92) (h4 : c = 36 → t.head? ≠ some 123) (h : Qx t l (b ++ [c]) r) : Qx (c :: t) l b (r.map fun q => (q.1, q.2 + 1))
theorem refS_len {t : List UInt8} (h : (refS t).2 = true) : (refS t).1.length + 1 ≤ t.length := by
 obtain ⟨x, y, v, e, _, _, e2⟩ := ref_split h
 rw [e2, e]
 simp
 omega
theorem cls4 (c : UInt8) : clsS c = 4 ↔ c = 34 := by
 have e : c = 34 ↔ c.toNat = 34 := by rw [← UInt8.toNat_inj]; rfl
 rw [e]
 unfold clsS
 repeat' split
 all_goals (first | omega | (constructor <;> intro h <;> first | omega | exact absurd h (by decide)))
theorem takeT_takeT (t : LText) (a b : Nat) : takeT (takeT t a) b = takeT t (a + b) := by
 unfold takeT
 simp only [LText.mk.injEq, List.drop_drop]
 exact ⟨trivial, by omega⟩
theorem head_left {t : LText} {c : UInt8} {u : List UInt8} (h : t.left = c :: u) : ¬ t.left = [] ∧ t.left[0]? = some c := by rw [h]; simp
def QOut (gp : Nat) (lt : LTokens) (g : Nat) (z : Bool) (l : List Part) (b : List UInt8) : Option (List Part × Nat) → Prop
 | none => ∃ t' : LTokens, t'.out = lt.out ∧ At_Q140_1 0 [] 0 0 [] 0 (joinP l b) gp false lt g z (Token.mk 0 [] 0 [] 0) false t' g z
 | some (ps, n) => n ≤ lt.text.left.length ∧ At_Q140_1 0 [] 0 0 [] 0 (joinP l b) gp false lt g z (Token.mk 2 [] 0 ps 0) true (LTokens.mk (takeT lt.text n) lt.out) g z
theorem joinP_len (l : List Part) (b : List UInt8) : (joinP l b).length ≤ l.length + 1 := by
 unfold joinP
 split <;> simp
theorem joinP_ref (l : List Part) (q : List UInt8) : joinP (l ++ [Part.mk true q]) [] = l ++ [Part.mk true q] := by simp [joinP]
theorem QOut.next {gp : Nat} {lt : LTokens} {g : Nat} {z : Bool} {l : List Part} {b : List UInt8} {l2 : List Part} {b2 : List UInt8} {m : Nat} (hm : m ≤ lt.text.left.length)
  (step : ∀ ra rb t' , At_Q140_1 0 [] 0 0 [] 0 (joinP l2 b2) gp false (LTokens.mk (takeT lt.text m) lt.out) g z ra rb t' g z → At_Q140_1 0 [] 0 0 [] 0 (joinP l b) gp false lt g z ra rb t' g z) {r : Option (List Part × Nat)}
  (h : QOut gp (LTokens.mk (takeT lt.text m) lt.out) g z l2 b2 r) : QOut gp lt g z l b (r.map fun q => (q.1, q.2 + m)) := by
 cases r with
 | none => obtain ⟨t', ho, h⟩ := h; exact ⟨t', ho, step _ _ _ h⟩
 | some q =>
  obtain ⟨ps, n⟩ := q
  obtain ⟨h1, h2⟩ := h
  simp only [takeT, List.length_drop] at h1
  refine ⟨by omega, ?_⟩
  have := step _ _ _ h2
  simp only [takeT_takeT] at this
  rw [Nat.add_comm] at this
  exact this
theorem r_quoted_loop {t : List UInt8} {l : List Part} {b : List UInt8} {r : Option (List Part × Nat)} (h : Qx t l b r) : ∀ (gp : Nat) (lt : LTokens) (g : Nat) (z : Bool), lt.text.left = t → TI lt.text → okP l → l.length + t.length ≤ 7000 → b.length + t.length ≤ 7000 → QOut gp lt g z l b r := by
 induction h with
 | nil l b =>
  intro gp lt g z e hT hl h1 h2
  refine ⟨lt, rfl, ?_⟩
  apply At_Q140_1_step
  exact ⟨fun _ => ⟨rfl, rfl, rfl, rfl, rfl⟩, fun h => absurd e h⟩
 | shut t l b =>
  intro gp lt g z e hT hl h1 h2
  obtain ⟨e1, e2⟩ := head_left e
  have hlen : 1 ≤ lt.text.left.length := by rw [e]; simp
  refine ⟨hlen, ?_⟩
  apply At_Q140_1_step
  exact ⟨fun h => absurd h e1, fun _ => ⟨34, e2, _, r_class 34, fun _ => ⟨_, _, r_take hT hlen, rfl, rfl, rfl, rfl, rfl⟩, fun h => absurd ((cls4 34).2 rfl) h⟩⟩
 | low c t l b c1 c2 =>
  intro gp lt g z e hT hl h1 h2
  obtain ⟨e1, e2⟩ := head_left e
  refine ⟨lt, rfl, ?_⟩
  apply At_Q140_1_step
  exact ⟨fun h => absurd h e1, fun _ => ⟨c, e2, _, r_class c, fun h => absurd ((cls4 c).1 h) c1, fun _ => ⟨fun _ => ⟨rfl, rfl, rfl, rfl, rfl⟩, fun h => absurd (by omega) h⟩⟩⟩
 | esc x y t l b r hx _ ih =>
  intro gp lt g z e hT hl h1 h2
  obtain ⟨e1, e2⟩ := head_left e
  simp only [List.length_cons] at h1 h2
  have hlen : 2 ≤ lt.text.left.length := by rw [e]; simp
  refine QOut.next (m := 2) hlen (fun ra rb t' hA => ?_) (ih gp _ g z (by simp only [takeT, e]; rfl) (hT.take hlen) hl (by omega) (by simp; omega))
  apply At_Q140_1_step
  refine ⟨fun h => absurd h e1, fun _ => ⟨92, e2, _, r_class 92, fun h => absurd ((cls4 92).1 h) (by decide), fun _ => ⟨fun h => absurd h (by decide), fun _ => ⟨fun _ => ?_, fun h => absurd (by decide) h⟩⟩⟩⟩
  rw [e]
  refine ⟨_, _, r_escaped 92 x t, fun _ => ⟨_, _, _, ?_, _, _, r_take hT hlen, hA⟩, fun h => absurd (by rw [hx]; rfl) h⟩
  rw [hx]
  exact r_plain l b y gp hl (by omega) (by omega)
 | esc0 l b =>
  intro gp lt g z e hT hl h1 h2
  obtain ⟨e1, e2⟩ := head_left e
  refine ⟨lt, rfl, ?_⟩
  apply At_Q140_1_step
  refine ⟨fun h => absurd h e1, fun _ => ⟨92, e2, _, r_class 92, fun h => absurd ((cls4 92).1 h) (by decide), fun _ => ⟨fun h => absurd h (by decide), fun _ => ⟨fun _ => ?_, fun h => absurd (by decide) h⟩⟩⟩⟩
  rw [e]
  refine ⟨0, false, ?_, fun h => (by cases h), fun _ => ⟨rfl, rfl, rfl, rfl, rfl⟩⟩
  apply Q164_tree
  exact ⟨fun _ => ⟨rfl, rfl⟩, fun h => absurd (by decide) h⟩
 | escbad x t l b hx =>
  intro gp lt g z e hT hl h1 h2
  obtain ⟨e1, e2⟩ := head_left e
  refine ⟨lt, rfl, ?_⟩
  apply At_Q140_1_step
  refine ⟨fun h => absurd h e1, fun _ => ⟨92, e2, _, r_class 92, fun h => absurd ((cls4 92).1 h) (by decide), fun _ => ⟨fun h => absurd h (by decide), fun _ => ⟨fun _ => ?_, fun h => absurd (by decide) h⟩⟩⟩⟩
  rw [e]
  exact ⟨_, _, r_escaped 92 x t, fun h => (by rw [hx] at h; cases h), fun _ => ⟨rfl, rfl, rfl, rfl, rfl⟩⟩
 | ref t l b r hr _ ih =>
  intro gp lt g z e hT hl h1 h2
  obtain ⟨e1, e2⟩ := head_left e
  simp only [List.length_cons] at h1 h2
  have hrl := refS_len hr
  have hj := joinP_len l b
  have hlen : 3 + (refS t).1.length ≤ lt.text.left.length := by rw [e]; simp only [List.length_cons]; omega
  have hT1 := hT.1
  refine QOut.next (m := 3 + (refS t).1.length) hlen (fun ra rb t' hA => ?_) (ih gp _ g z ?_ (hT.take hlen) (.inr ⟨_, _, rfl⟩) ?_ ?_)
  ·apply At_Q140_1_step
   have hR : R_Q166 lt.text.left (refS t).1 (refS t).2 := by
    have := r_reference lt.text.left (by omega) (by omega)
    rw [e] at this ⊢
    exact this
   have hTake : R_Q135 lt.text (3 + (((refS t).1.length : Nat) : Int)) (lt.text.left.take (3 + (refS t).1.length)) (takeT lt.text (3 + (refS t).1.length)) := by
    have := r_take hT hlen
    rw [Int.natCast_add] at this
    exact this
   rw [joinP_ref] at hA
   exact ⟨fun h => absurd h e1, fun _ => ⟨36, e2, _, r_class 36, fun h => absurd ((cls4 36).1 h) (by decide), fun _ => ⟨fun h => absurd h (by decide), fun _ => ⟨fun h => absurd h (by decide), fun _ => ⟨_, r_HasPrefix _ _, fun _ => ⟨_, _, hR, fun _ => ⟨⟨by omega, by omega, by decide⟩, ⟨by omega, by omega⟩, _, _, hTake, hA⟩, fun h => absurd hr h⟩, fun h => absurd (by rw [e]; simp [Lib.hasPrefix]) h⟩⟩⟩⟩⟩
  ·simp only [takeT, e]
   rw [show 3 + (refS t).1.length = ((refS t).1.length + 1) + 1 + 1 by omega]
   rfl
  ·simp; omega
  ·simp; omega
 | refbad t l b hr =>
  intro gp lt g z e hT hl h1 h2
  obtain ⟨e1, e2⟩ := head_left e
  have hT1 := hT.1
  refine ⟨lt, rfl, ?_⟩
  apply At_Q140_1_step
  have hR : R_Q166 lt.text.left (refS t).1 (refS t).2 := by
   have := r_reference lt.text.left (by rw [e]; simp) (by omega)
   rw [e] at this ⊢
   exact this
  exact ⟨fun h => absurd h e1, fun _ => ⟨36, e2, _, r_class 36, fun h => absurd ((cls4 36).1 h) (by decide), fun _ => ⟨fun h => absurd h (by decide), fun _ => ⟨fun h => absurd h (by decide), fun _ => ⟨_, r_HasPrefix _ _, fun _ => ⟨_, _, hR, fun h => (by rw [hr] at h; cases h), fun _ => ⟨rfl, rfl, rfl, rfl, rfl⟩⟩, fun h => absurd (by rw [e]; simp [Lib.hasPrefix]) h⟩⟩⟩⟩⟩
 | plain c t l b r c1 c2 c3 c4 _ ih =>
  intro gp lt g z e hT hl h1 h2
  obtain ⟨e1, e2⟩ := head_left e
  simp only [List.length_cons] at h1 h2
  have hlen : 1 ≤ lt.text.left.length := by rw [e]; simp
  have hp : ¬ Lib.hasPrefix lt.text.left [36, 123] = true := by
   rw [e]
   unfold Lib.hasPrefix
   intro h
   cases t with
   | nil => simp at h
   | cons x t =>
    simp at h
    exact c4 h.1.symm (by rw [← h.2]; rfl)
  have hc3 : ¬ ((c.toNat : Nat) : Int) = 92 := fun h => c3 (by apply UInt8.toNat_inj.1; exact Int.ofNat.inj h)
  refine QOut.next (m := 1) hlen (fun ra rb t' hA => ?_) (ih gp _ g z (by simp only [takeT, e]; rfl) (hT.take hlen) hl (by omega) (by simp; omega))
  apply At_Q140_1_step
  exact ⟨fun h => absurd h e1, fun _ => ⟨c, e2, _, r_class c, fun h => absurd ((cls4 c).1 h) c1, fun _ => ⟨fun h => absurd h (by omega), fun _ => ⟨fun h => absurd h hc3, fun _ => ⟨_, r_HasPrefix _ _, fun h => absurd h hp, fun _ => ⟨_, _, _, r_plain l b c gp hl (by omega) (by omega), _, _, r_take hT hlen, hA⟩⟩⟩⟩⟩⟩
theorem r_Itoa (n : Int) (h : I64 n) : R_strconv_Itoa n (Lib.itoa n) := fun S => call_ext sp_strconv_Itoa S (if_pos h)
def Dg (l : List UInt8) : Prop := ∀ c ∈ l, 48 ≤ c.toNat ∧ c.toNat ≤ 57
theorem inC3 (c : UInt8) : inC [3] c = true ↔ 48 ≤ c.toNat ∧ c.toNat ≤ 57 := by
 unfold inC clsS
 simp only [List.mem_singleton, decide_eq_true_eq]
 repeat' split
 all_goals (first | omega | (constructor <;> intro h <;> first | omega | exact absurd h (by decide)))
theorem Dg_take (t : List UInt8) : Dg (t.takeWhile (inC [3])) := fun c hc => (inC3 c).1 (List.all_eq_true.1 List.all_takeWhile c hc)
def digV (acc : Nat) (l : List UInt8) : Nat := l.foldl (fun a c => a * 10 + (c.toNat - 48)) acc
theorem digV_cons (acc : Nat) (c : UInt8) (r : List UInt8) : digV acc (c :: r) = digV (acc * 10 + (c.toNat - 48)) r := by
 unfold digV
 rw [List.foldl_cons]
theorem digV_nil (acc : Nat) : digV acc [] = acc := by
 unfold digV
 rw [List.foldl_nil]
theorem digV_ge : ∀ (l : List UInt8) (acc : Nat), acc ≤ digV acc l
 | [], acc => by rw [digV_nil]; exact Nat.le_refl _
 | c :: r, acc => by
  rw [digV_cons]
  have := digV_ge r (acc * 10 + (c.toNat - 48))
  omega
theorem parse_num (l : List UInt8) : ∀ (acc : Nat), Dg l → acc < 18446744073709551616 → Lib.parseUint10 acc l = if digV acc l < 18446744073709551616 then .ok (digV acc l) else .range := by
 induction l with
 | nil => intro acc _ h; rw [digV_nil, if_pos h, Lib.parseUint10]
 | cons c r ih =>
  intro acc hd h
  have hc := hd c (by simp)
  have hge := digV_ge r (acc * 10 + (c.toNat - 48))
  rw [digV_cons]
  unfold Lib.parseUint10
  rw [if_pos hc]
  by_cases h1 : 1844674407370955162 ≤ acc
  ·rw [if_pos h1, if_neg (by omega)]
  ·rw [if_neg h1]
   by_cases h2 : 18446744073709551616 ≤ acc * 10 + (c.toNat - 48)
   ·rw [if_pos h2, if_neg (by omega)]
   ·rw [if_neg h2]
    exact ih _ (fun x hx => hd x (by simp [hx])) (by omega)
theorem atoi_num {l : List UInt8} (hd : Dg l) (hne : l ≠ []) : Lib.atoiAll l = if digV 0 l < 9223372036854775808 then .ok (digV 0 l : Int) else .range := by
 cases l with
 | nil => exact absurd rfl hne
 | cons c r =>
  have hc := hd c (by simp)
  rw [Lib.atoiAll_plain c r (by omega) (by omega), Lib.parseMag, if_neg (by simp), parse_num _ 0 hd (by omega)]
  by_cases h : digV 0 (c :: r) < 18446744073709551616
  ·rw [if_pos h]
   by_cases h2 : digV 0 (c :: r) < 9223372036854775808
   ·simp only [Lib.signless, if_pos h2, if_neg (show ¬ 9223372036854775808 ≤ digV 0 (c :: r) by omega)]
   ·simp only [Lib.signless, if_neg h2, if_pos (show 9223372036854775808 ≤ digV 0 (c :: r) by omega)]
  ·rw [if_neg h, if_neg (show ¬ digV 0 (c :: r) < 9223372036854775808 by omega)]
   rfl
theorem dec_step {a d : Nat} (ha : 0 < a) (hd : d < 10) : Lib.decDigits (a * 10 + d) = Lib.decDigits a ++ [UInt8.ofNat (48 + d)] := by
 rw [Lib.decDigits, dif_neg (by omega), show (a * 10 + d) / 10 = a by omega, show (a * 10 + d) % 10 = d by omega]
theorem dec_num : ∀ (l : List UInt8) (acc : Nat), 0 < acc → Dg l → Lib.decDigits (digV acc l) = Lib.decDigits acc ++ l
 | [], acc, _, _ => by rw [digV_nil, List.append_nil]
 | c :: r, acc, h, hd => by
  have hc := hd c (by simp)
  rw [digV_cons, dec_num r _ (by omega) (fun x hx => hd x (by simp [hx])), dec_step h (by omega)]
  have : UInt8.ofNat (48 + (c.toNat - 48)) = c := by
   rw [show 48 + (c.toNat - 48) = c.toNat by omega]; simp
  rw [this]
  simp
theorem dec_first {c : UInt8} {r : List UInt8} (hd : Dg (c :: r)) (h : c.toNat ≠ 48) : Lib.decDigits (digV 0 (c :: r)) = c :: r := by
 have hc := hd c (by simp)
 rw [digV_cons, dec_num r _ (by omega) (fun x hx => hd x (by simp [hx])), Nat.zero_mul, Nat.zero_add, Lib.decDigits_one (by omega)]
 have : UInt8.ofNat (48 + (c.toNat - 48)) = c := by
  rw [show 48 + (c.toNat - 48) = c.toNat by omega]; simp
 rw [this]
 rfl
theorem dec_len : ∀ (r : List UInt8), Dg r → r ≠ [] → (Lib.decDigits (digV 0 r)).length ≤ r.length
 | [], _, h => absurd rfl h
 | c :: r, hd, _ => by
  by_cases h : c.toNat = 48
  ·rw [digV_cons, h]
   cases r with
   | nil => simp [digV_nil, Lib.decDigits_one (show 0 < 10 by omega)]
   | cons b r =>
    have := dec_len (b :: r) (fun x hx => hd x (by simp at hx ⊢; exact .inr hx)) (by simp)
    simp only [Nat.zero_mul, Nat.sub_self, Nat.add_zero, List.length_cons] at this ⊢
    omega
  ·rw [dec_first hd h]
   exact Nat.le_refl _
def numOk (d : List UInt8) : Prop := digV 0 d < 9223372036854775808 ∧ (d.head? = some 48 → d.length = 1)
instance (d : List UInt8) : Decidable (numOk d) := by unfold numOk; infer_instance
theorem itoa_num {d : List UInt8} (hd : Dg d) (hne : d ≠ []) : Lib.itoa ((digV 0 d : Nat) : Int) = d ↔ (d.head? = some 48 → d.length = 1) := by
 have e : Lib.itoa ((digV 0 d : Nat) : Int) = Lib.decDigits (digV 0 d) := by
  unfold Lib.itoa
  rw [if_neg (by omega)]
  rfl
 rw [e]
 cases d with
 | nil => exact absurd rfl hne
 | cons c r =>
  by_cases h : c.toNat = 48
  ·have hc : c = 48 := UInt8.toNat_inj.1 h
   subst hc
   simp only [List.head?_cons, List.length_cons, forall_const]
   cases r with
   | nil =>
    have h0 : digV 0 [48] = 0 := by rw [digV_cons, digV_nil]; rfl
    rw [h0, Lib.decDigits_one (show 0 < 10 by omega)]
    simp
   | cons b r =>
    have := dec_len (b :: r) (fun x hx => hd x (by simp at hx ⊢; exact .inr hx)) (by simp)
    constructor
    ·intro h2
     have h3 : digV 0 (48 :: b :: r) = digV 0 (b :: r) := by rw [digV_cons]; rfl
     rw [← h3, h2] at this
     simp at this
     omega
    ·intro h2
     simp at h2
  ·rw [dec_first hd h]
   simp only [List.head?_cons, Option.some.injEq, true_iff]
   intro e
   exact absurd (by rw [e]; rfl) h
def numS (t : List UInt8) : Option (Token × Nat) := if numOk (t.takeWhile (inC [3])) then some (Token.mk 1 [] (digV 0 (t.takeWhile (inC [3])) : Nat) [] 0, (t.takeWhile (inC [3])).length) else none
theorem r_Atoi {l : List UInt8} (hd : Dg l) (hne : l ≠ []) (hl : l.length ≤ 1000000) : ∃ v : Int, R_strconv_Atoi l v (decide (¬ digV 0 l < 9223372036854775808)) ∧ (digV 0 l < 9223372036854775808 → v = (digV 0 l : Nat)) := by
 have ha := atoi_num hd hne
 by_cases h : digV 0 l < 9223372036854775808
 ·rw [if_pos h] at ha
  exact ⟨_, fun S => call_ext sp_strconv_Atoi S (by simp only [atoiX, ha]; rw [if_pos (by omega)]; simp [h]), fun _ => rfl⟩
 ·rw [if_neg h] at ha
  exact ⟨Lib.atoiSat l, fun S => call_ext sp_strconv_Atoi S (by simp only [atoiX, ha]; rw [if_pos (by omega)]; simp [h]), fun e => absurd e h⟩
theorem r_number (t : LTokens) (g : Nat) (z : Bool) (h : TI t.text) (hne : t.text.left.takeWhile (inC [3]) ≠ []) : match numS t.text.left with
  | none => ∃ (x : Token) (t' : LTokens), t'.out = t.out ∧ R_Q139 t g z x false t' g z
  | some (x, n) => R_Q139 t g z x true (LTokens.mk (takeT t.text n) t.out) g z := by
 have h1 := h.1
 have hd := Dg_take t.text.left
 have hw := r_word h [3] (by decide)
 have hl := spanS_le [3] t.text.left
 unfold spanS at hw hl
 unfold numS
 generalize t.text.left.takeWhile (inC [3]) = d at *
 obtain ⟨v, ha, hv⟩ := r_Atoi hd hne (by omega)
 by_cases hb : digV 0 d < 9223372036854775808
 ·obtain rfl := hv hb
  have hi := itoa_num hd hne
  by_cases h0 : d.head? = some 48 → d.length = 1
  ·rw [if_pos ⟨hb, h0⟩]
   apply Q139_tree
   refine ⟨_, _, hw, _, _, ha, fun e => ?_, fun _ => ⟨_, r_Itoa _ ⟨by omega, by omega⟩, rfl, ?_, rfl, rfl, rfl⟩⟩
   ·simp [hb] at e
   ·exact decide_eq_true (hi.2 h0)
  ·rw [if_neg (fun e => h0 e.2)]
   refine ⟨_, LTokens.mk (takeT t.text d.length) t.out, rfl, Q139_tree _ _ _ _ _ _ _ _ ⟨_, _, hw, _, _, ha, fun e => ?_, fun _ => ⟨_, r_Itoa _ ⟨by omega, by omega⟩, rfl, ?_, rfl, rfl, rfl⟩⟩⟩
   ·simp [hb] at e
   ·exact decide_eq_false (fun e => h0 (hi.1 e))
 ·rw [if_neg (fun e => hb e.1)]
  exact ⟨_, LTokens.mk (takeT t.text d.length) t.out, rfl, Q139_tree _ _ _ _ _ _ _ _ ⟨_, _, hw, _, _, ha, fun _ => ⟨rfl, rfl, rfl, rfl, rfl⟩, fun e => absurd (decide_eq_true hb) e⟩⟩
def atT (x : Token) (i : Int) : Token := ⟨x.Kind, x.Text, x.Num, x.Parts, i⟩
theorem r_quoted (t : LTokens) (g : Nat) (z : Bool) (h : TI t.text) {u : List UInt8} (e : t.text.left = 34 :: u) {r : Option (List Part × Nat)} (hq : Qx u [] [] r) : match r with
  | none => ∃ t' : LTokens, t'.out = t.out ∧ R_Q140 t g z (Token.mk 0 [] 0 [] 0) false t' g z
  | some (ps, n) => n + 1 ≤ t.text.left.length ∧ R_Q140 t g z (Token.mk 2 [] 0 ps 0) true (LTokens.mk (takeT t.text (n + 1)) t.out) g z := by
 have hlen : 1 ≤ t.text.left.length := by rw [e]; simp
 have h1 := h.1
 have hu : u.length ≤ 6000 := by rw [e] at h1; simp at h1; omega
 have hl : (takeT t.text 1).left = u := by simp only [takeT, e]; rfl
 have key := r_quoted_loop hq 0 (LTokens.mk (takeT t.text 1) t.out) g z hl (h.take hlen) (.inl rfl) (by simp; omega) (by simp; omega)
 cases r with
 | none =>
  obtain ⟨t', ho, hA⟩ := key
  exact ⟨t', ho, Q140_tree _ _ _ _ _ _ _ _ ⟨_, _, r_take h hlen, hA⟩⟩
 | some q =>
  obtain ⟨ps, n⟩ := q
  obtain ⟨hn, hA⟩ := key
  simp only [takeT_takeT] at hA
  simp only at hn
  rw [hl] at hn
  refine ⟨by rw [e]; simp; omega, Q140_tree _ _ _ _ _ _ _ _ ⟨_, _, r_take h hlen, ?_⟩⟩
  rw [Nat.add_comm n 1]
  exact hA
def TOut (s : List UInt8) (i k : Nat) (l : List Part) (b : List UInt8) : Option (List Part × Nat) → Prop
 | none => At_ref1_text_1 s i k 0 [] 0 0 [] 0 l b (Token.mk 0 [] 0 [] 0) 0
 | some (ps, n) => At_ref1_text_1 s i k 0 [] 0 0 [] 0 l b (Token.mk 2 [] 0 ps i) ((k : Int) + n - i)
theorem TOut.next {s : List UInt8} {i k : Nat} {l l2 : List Part} {b b2 : List UInt8} {m : Nat} (step : ∀ ra rb, At_ref1_text_1 s i ((k + m : Nat) : Int) 0 [] 0 0 [] 0 l2 b2 ra rb → At_ref1_text_1 s i k 0 [] 0 0 [] 0 l b ra rb) {r : Option (List Part × Nat)} (h : TOut s i (k + m) l2 b2 r) : TOut s i k l b (r.map fun q => (q.1, q.2 + m)) := by
 cases r with
 | none => exact step _ _ h
 | some q =>
  obtain ⟨ps, n⟩ := q
  have := step _ _ h
  simp only [TOut, Option.map_some]
  rw [show (k : Int) + ((n + m : Nat) : Int) - (i : Int) = ((k + m : Nat) : Int) + (n : Int) - (i : Int) by omega]
  exact this
theorem cls5 (c : UInt8) : clsS c = 5 ↔ c = 35 := by
 have e : c = 35 ↔ c.toNat = 35 := by rw [← UInt8.toNat_inj]; rfl
 rw [e]
 unfold clsS
 repeat' split
 all_goals (first | omega | (constructor <;> intro h <;> first | omega | exact absurd h (by decide)))
inductive Tok : List UInt8 → Option (Token × Nat) → Prop
 | name (c : UInt8) (u : List UInt8) (h : clsS c = 2) : Tok (c :: u) (if ((c :: u).takeWhile (inC [2, 3])).length ≤ 24 then some (Token.mk 3 ((c :: u).takeWhile (inC [2, 3])) 0 [] 0, spanS [2, 3] (c :: u)) else none)
 | num (c : UInt8) (u : List UInt8) (h : clsS c = 3) : Tok (c :: u) (numS (c :: u))
 | text (u : List UInt8) (r : Option (List Part × Nat)) (h : Qx u [] [] r) : Tok (34 :: u) (r.map fun q => (Token.mk 2 [] 0 q.1 0, q.2 + 1))
 | sign (c : UInt8) (u : List UInt8) (h2 : clsS c ≠ 2) (h3 : clsS c ≠ 3) (h4 : clsS c ≠ 4) : Tok (c :: u) (if signS (c :: u) = [] then none else some (Token.mk 4 (signS (c :: u)) 0 [] 0, (signS (c :: u)).length))
theorem Qx_len {t : List UInt8} {l : List Part} {b : List UInt8} {r : Option (List Part × Nat)} (h : Qx t l b r) : ∀ q, r = some q → 0 < q.2 ∧ q.2 ≤ t.length := by
 induction h with
 | nil | low | esc0 | escbad | refbad => intro q hq; cases hq
 | shut t l b => intro q hq; obtain rfl := Option.some.inj hq; simp
 | esc x y t l b r hx _ ih =>
  intro q hq
  obtain ⟨q0, h0, rfl⟩ := Option.map_eq_some_iff.1 hq
  have := ih q0 h0
  simp only [List.length_cons]
  omega
 | ref t l b r hr _ ih =>
  intro q hq
  obtain ⟨q0, h0, rfl⟩ := Option.map_eq_some_iff.1 hq
  have := ih q0 h0
  have h1 := refS_len hr
  simp only [List.length_cons, List.length_drop] at this ⊢
  omega
 | plain c t l b r c1 c2 c3 c4 _ ih =>
  intro q hq
  obtain ⟨q0, h0, rfl⟩ := Option.map_eq_some_iff.1 hq
  have := ih q0 h0
  simp only [List.length_cons]
  omega
theorem span_pos {cl : List Int} {c : UInt8} (u : List UInt8) (h : inC cl c = true) : 0 < spanS cl (c :: u) := by
 unfold spanS
 rw [List.takeWhile_cons, if_pos h]
 simp
theorem signS_len (c : UInt8) (u : List UInt8) : (signS (c :: u)).length ≤ (c :: u).length := by
 cases u with
 | nil => simp only [signS, sign1]; split <;> simp
 | cons b u => simp only [signS, sign2, sign1]; repeat' split <;> simp
theorem Tok_len {t : List UInt8} {r : Option (Token × Nat)} (h : Tok t r) : ∀ q, r = some q → 0 < q.2 ∧ q.2 ≤ t.length := by
 cases h with
 | name c u h =>
  intro q hq
  split at hq
  ·obtain rfl := Option.some.inj hq
   exact ⟨span_pos u ((inC23 c).2 (.inl h)), spanS_le _ _⟩
  ·cases hq
 | num c u h =>
  intro q hq
  unfold numS at hq
  split at hq
  ·obtain rfl := Option.some.inj hq
   exact ⟨span_pos (cl := [3]) u (by unfold inC; simp [h]), spanS_le [3] _⟩
  ·cases hq
 | text u r h =>
  intro q hq
  obtain ⟨q0, h0, rfl⟩ := Option.map_eq_some_iff.1 hq
  have := Qx_len h q0 h0
  simp only [List.length_cons]
  omega
 | sign c u h2 h3 h4 =>
  intro q hq
  split at hq
  ·cases hq
  ·rename_i hne
   obtain rfl := Option.some.inj hq
   exact ⟨List.length_pos_iff.2 hne, signS_len c u⟩
theorem takeWhile_idem (p : UInt8 → Bool) : ∀ l : List UInt8, (l.takeWhile p).takeWhile p = l.takeWhile p
 | [] => rfl
 | c :: l => by
  rw [List.takeWhile_cons]
  split
  ·rename_i h
   rw [List.takeWhile_cons, if_pos h, takeWhile_idem p l]
  ·rfl
theorem name_word {c : UInt8} (u : List UInt8) (h : clsS c = 2) : nameS ((c :: u).takeWhile (inC [2, 3])) = decide (((c :: u).takeWhile (inC [2, 3])).length ≤ 24) := by
 have hc : inC [2, 3] c = true := (inC23 c).2 (.inl h)
 have hi := takeWhile_idem (inC [2, 3]) (c :: u)
 rw [List.takeWhile_cons, if_pos hc] at hi ⊢
 unfold nameS
 refine decide_eq_decide.2 ⟨fun e => e.2.1, fun e => ⟨by simp, e, ?_⟩⟩
 rw [endS, if_pos h, spanS, hi]
theorem dig_ne {c : UInt8} (u : List UInt8) (h : clsS c = 3) : (c :: u).takeWhile (inC [3]) ≠ [] := by
 rw [List.takeWhile_cons, if_pos (by unfold inC; simp [h])]
 simp
def NextP (t : LTokens) (g : Nat) (z : Bool) : Option (Token × Nat) → Prop
 | none => ∃ t', R_Q98 t g z false t' g z
 | some (x, n) => R_Q98 t g z true (LTokens.mk (takeT t.text n) (t.out ++ [atT x t.text.pos])) g z
theorem r_next (t : LTokens) (g : Nat) (z : Bool) (h : TI t.text) (ho : t.out.length ≤ 6000) {r : Option (Token × Nat)} {l : List UInt8} (hl : t.text.left = l) (hk : Tok l r) : NextP t g z r := by
 have big : bigRow (t.out.length + 1) 64 := ⟨by omega, by omega, by decide⟩
 cases hk with
 | name c u hc =>
  have hn := r_name t g z h
  rw [hl, name_word u hc] at hn
  have hd : t.text.left[0]? = some c := by rw [hl]; rfl
  by_cases hlen : ((c :: u).takeWhile (inC [2, 3])).length ≤ 24
  rotate_left
  ·rw [if_neg hlen]
   ·rw [decide_eq_false hlen] at hn
    exact ⟨_, Q98_tree _ _ _ _ _ _ _ ⟨c, hd, _, r_class c, fun _ => ⟨_, _, _, _, _, hn, big, rfl, rfl, rfl, rfl⟩, fun e => absurd hc e⟩⟩
  ·rw [if_pos hlen]
   ·rw [decide_eq_true hlen] at hn
    exact Q98_tree _ _ _ _ _ _ _ ⟨c, hd, _, r_class c, fun _ => ⟨_, _, _, _, _, hn, big, rfl, rfl, rfl, rfl⟩, fun e => absurd hc e⟩
 | num c u hc =>
  have hd : t.text.left[0]? = some c := by rw [hl]; rfl
  have hn := r_number t g z h (by rw [hl]; exact dig_ne u hc)
  rw [hl] at hn
  have h2 : clsS c ≠ 2 := by omega
  revert hn
  generalize numS (c :: u) = q
  intro hn
  rcases q with _ | ⟨x, n⟩
  ·obtain ⟨x, t', ho', hn⟩ := hn
   exact ⟨_, Q98_tree _ _ _ _ _ _ _ ⟨c, hd, _, r_class c, fun e => absurd e h2, fun _ => ⟨fun _ => ⟨_, _, _, _, _, hn, by rw [ho']; exact big, rfl, rfl, rfl, rfl⟩, fun e => absurd hc e⟩⟩⟩
  ·exact Q98_tree _ _ _ _ _ _ _ ⟨c, hd, _, r_class c, fun e => absurd e h2, fun _ => ⟨fun _ => ⟨_, _, _, _, _, hn, big, rfl, rfl, rfl, rfl⟩, fun e => absurd hc e⟩⟩
 | text u q hq =>
  have hd : t.text.left[0]? = some 34 := by rw [hl]; rfl
  have hn := r_quoted t g z h hl hq
  have h4 : clsS 34 = 4 := (cls4 34).2 rfl
  cases q with
  | none =>
   obtain ⟨t', ho', hn⟩ := hn
   exact ⟨_, Q98_tree _ _ _ _ _ _ _ ⟨34, hd, _, r_class 34, fun e => by omega, fun _ => ⟨fun e => by omega, fun _ => ⟨fun _ => ⟨_, _, _, _, _, hn, by rw [ho']; exact big, rfl, rfl, rfl, rfl⟩, fun e => absurd h4 e⟩⟩⟩⟩
  | some p =>
   obtain ⟨ps, n⟩ := p
   exact Q98_tree _ _ _ _ _ _ _ ⟨34, hd, _, r_class 34, fun e => by omega, fun _ => ⟨fun e => by omega, fun _ => ⟨fun _ => ⟨_, _, _, _, _, hn.2, big, rfl, rfl, rfl, rfl⟩, fun e => absurd h4 e⟩⟩⟩
 | sign c u h2 h3 h4 =>
  have hd : t.text.left[0]? = some c := by rw [hl]; rfl
  have hn := r_sign t g z h (by rw [hl]; simp)
  rw [hl] at hn
  by_cases he : signS (c :: u) = []
  ·rw [if_pos he]
   ·rw [if_pos he, if_pos he, decide_eq_false (fun e => e he)] at hn
    exact ⟨_, Q98_tree _ _ _ _ _ _ _ ⟨c, hd, _, r_class c, fun e => absurd e h2, fun _ => ⟨fun e => absurd e h3, fun _ => ⟨fun e => absurd e h4, fun _ => ⟨_, _, _, _, _, hn, big, rfl, rfl, rfl, rfl⟩⟩⟩⟩⟩
  ·rw [if_neg he]
   ·rw [if_neg he, if_neg he, decide_eq_true he] at hn
    exact Q98_tree _ _ _ _ _ _ _ ⟨c, hd, _, r_class c, fun e => absurd e h2, fun _ => ⟨fun e => absurd e h3, fun _ => ⟨fun e => absurd e h4, fun _ => ⟨_, _, _, _, _, hn, big, rfl, rfl, rfl, rfl⟩⟩⟩⟩
inductive Lx : List UInt8 → Int → Option (List Token) → Prop
 | nil (p : Int) : Lx [] p (some [Token.mk 0 [] 0 [] p])
 | gap (c : UInt8) (t : List UInt8) (p : Int) (r : Option (List Token)) (hc : clsS c = 1) (h : Lx t (p + 1) r) : Lx (c :: t) p r
 | remark (t : List UInt8) (p : Int) (r : Option (List Token)) (h : Lx (t.dropWhile (· != 10)) (p + ((t.takeWhile (· != 10)).length + 1 : Nat)) r) : Lx (35 :: t) p r
 | bad (c : UInt8) (t : List UInt8) (p : Int) (h1 : clsS c ≠ 1) (h2 : clsS c ≠ 5) (h : Tok (c :: t) none) : Lx (c :: t) p none
 | tok (c : UInt8) (t : List UInt8) (p : Int) (x : Token) (n : Nat) (r : Option (List Token)) (h1 : clsS c ≠ 1) (h2 : clsS c ≠ 5) (h : Tok (c :: t) (some (x, n))) (h' : Lx ((c :: t).drop n) (p + n) r) : Lx (c :: t) p (r.map (atT x p :: ·))
def stands : List UInt8 → Prop
 | [] => True
 | c :: _ => clsS c ≠ 1 ∧ clsS c ≠ 5
theorem take0 (t : LText) : takeT t 0 = t := by
 unfold takeT
 simp
theorem takeWhile_all (p : UInt8 → Bool) : ∀ l : List UInt8, (∀ x ∈ l, p x = true) → l.takeWhile p = l
 | [], _ => rfl
 | c :: l, h => by rw [List.takeWhile_cons, if_pos (h c (by simp)), takeWhile_all p l (fun x hx => h x (by simp [hx]))]
theorem cut_line (s : List UInt8) : (Lib.cut s [10]).1 = s.takeWhile (· != 10) := by
 rw [cut1]
 split
 ·rfl
 ·rename_i h
  exact (takeWhile_all _ _ fun x hx => by
   simp only [bne_iff_ne, ne_eq]
   intro e
   exact h (e ▸ hx)).symm
theorem drop_line (t : List UInt8) : (35 :: t : List UInt8).drop ((t.takeWhile (· != 10)).length + 1) = t.dropWhile (· != 10) := by
 rw [List.drop_succ_cons]
 exact drop_while_len _ _
theorem line_len (t : List UInt8) : (t.takeWhile (· != 10)).length ≤ t.length := by
 have := congrArg List.length (List.takeWhile_append_dropWhile (p := (· != (10 : UInt8))) (l := t))
 rw [List.length_append] at this
 omega
theorem span1 {c : UInt8} (t : List UInt8) (h : clsS c = 1) : spanS [1] (c :: t) = spanS [1] t + 1 := by
 unfold spanS
 rw [List.takeWhile_cons, if_pos (by unfold inC; simp [h])]
 rfl
theorem span0 {c : UInt8} (t : List UInt8) (h : clsS c ≠ 1) : spanS [1] (c :: t) = 0 := by
 unfold spanS
 rw [List.takeWhile_cons, if_neg (by unfold inC; simp [h])]
 rfl
theorem r_skip_loop {l : List UInt8} {p : Int} {r : Option (List Token)} (h : Lx l p r) : ∀ (t : LTokens) (g : Nat) (z : Bool), t.text.left = l → t.text.pos = p → TI t.text →
  ∃ n, n ≤ l.length ∧ At_Q97_1 (LTokens.mk (takeT t.text (spanS [1] l)) t.out) g z (LTokens.mk (takeT t.text n) t.out) g z ∧ Lx (l.drop n) (p + n) r ∧ stands (l.drop n) := by
 induction h with
 | nil p =>
  intro t g z e ep hT
  refine ⟨0, Nat.le_refl _, ?_, by simpa using Lx.nil p, trivial⟩
  apply At_Q97_1_step
  refine ⟨_, r_HasPrefix _ _, fun h => ?_, fun _ => ⟨rfl, rfl, rfl⟩⟩
  rw [show spanS [1] [] = 0 from rfl, take0, e] at h
  exact absurd h (by decide)
 | gap c t' p r hc _ ih =>
  intro t g z e ep hT
  have h1 : 1 ≤ t.text.left.length := by rw [e]; simp
  obtain ⟨n, hn, hA, hL, hs⟩ := ih (LTokens.mk (takeT t.text 1) t.out) g z (by simp only [takeT, e]; rfl) (by simp only [takeT, ep]; rfl) (hT.take h1)
  simp only [takeT_takeT] at hA
  refine ⟨n + 1, by simp; omega, ?_, ?_, by rw [List.drop_succ_cons]; exact hs⟩
  ·rw [span1 t' hc, Nat.add_comm (spanS [1] t') 1, Nat.add_comm n 1]
   exact hA
  ·rw [List.drop_succ_cons, show p + ((n + 1 : Nat) : Int) = p + 1 + (n : Int) by omega]
   exact hL
 | remark t' p r _ ih =>
  intro t g z e ep hT
  have hll := line_len t'
  have h1 : (t'.takeWhile (· != 10)).length + 1 ≤ t.text.left.length := by rw [e]; simp; omega
  have hT1 := hT.1
  obtain ⟨n, hn, hA, hL, hs⟩ := ih (LTokens.mk (takeT t.text ((t'.takeWhile (· != 10)).length + 1)) t.out) g z (by simp only [takeT, e]; exact drop_line t') (by simp only [takeT, ep]) (hT.take h1)
  simp only [takeT_takeT] at hA
  have hdl : (t'.dropWhile (· != 10)).length = t'.length - (t'.takeWhile (· != 10)).length := by rw [← drop_while_len, List.length_drop]
  have hsp : spanS [1] (35 :: t') = 0 := span0 t' (by decide)
  refine ⟨(t'.takeWhile (· != 10)).length + 1 + n, by simp; omega, ?_, ?_, ?_⟩
  ·rw [hsp, take0]
   apply At_Q97_1_step
   have hcut : (Lib.cut t.text.left [10]).1 = 35 :: t'.takeWhile (· != 10) := by
    rw [cut_line, e, List.takeWhile_cons, if_pos (by decide)]
   have hR := r_Cut t.text.left [10] (by omega)
   have hTk := r_take hT (n := (35 :: t'.takeWhile (· != 10)).length) (by simpa using h1)
   have hT2 : TI (takeT t.text (35 :: t'.takeWhile (· != 10)).length) := hT.take (by simpa using h1)
   have hW := r_word hT2 [1] (by decide)
   rw [hcut] at hR
   refine ⟨_, r_HasPrefix _ _, fun _ => ⟨_, _, _, hR, _, _, hTk, _, _, hW, ?_⟩, fun h => absurd (by rw [e]; rfl) h⟩
   have hle : (takeT t.text (35 :: t'.takeWhile (· != 10)).length).left = t'.dropWhile (· != 10) := by
    simp only [takeT, e, List.length_cons]; exact drop_line t'
   rw [hle, takeT_takeT]
   exact hA
  ·rw [← List.drop_drop, drop_line, show p + (((t'.takeWhile (· != 10)).length + 1 + n : Nat) : Int) = p + (((t'.takeWhile (· != 10)).length + 1 : Nat) : Int) + (n : Int) by omega]
   exact hL
  ·rw [← List.drop_drop, drop_line]
   exact hs
 | bad c t' p c1 c2 hk =>
  intro t g z e ep hT
  refine ⟨0, Nat.zero_le _, ?_, by simpa using Lx.bad c t' p c1 c2 hk, ⟨c1, c2⟩⟩
  rw [span0 t' c1]
  apply At_Q97_1_step
  refine ⟨_, r_HasPrefix _ _, fun h => ?_, fun _ => ⟨rfl, rfl, rfl⟩⟩
  rw [take0, e] at h
  exfalso
  apply c2
  rw [cls5]
  symm
  simpa [Lib.hasPrefix] using h
 | tok c t' p x n r c1 c2 hk h' _ =>
  intro t g z e ep hT
  refine ⟨0, Nat.zero_le _, ?_, by simpa using Lx.tok c t' p x n r c1 c2 hk h', ⟨c1, c2⟩⟩
  rw [span0 t' c1]
  apply At_Q97_1_step
  refine ⟨_, r_HasPrefix _ _, fun h => ?_, fun _ => ⟨rfl, rfl, rfl⟩⟩
  rw [take0, e] at h
  exfalso
  apply c2
  rw [cls5]
  symm
  simpa [Lib.hasPrefix] using h
theorem r_skip {l : List UInt8} {p : Int} {r : Option (List Token)} (h : Lx l p r) (t : LTokens) (g : Nat) (z : Bool) (e : t.text.left = l) (ep : t.text.pos = p) (hT : TI t.text) :
  ∃ n, n ≤ l.length ∧ R_Q97 t g z (LTokens.mk (takeT t.text n) t.out) g z ∧ Lx (l.drop n) (p + n) r ∧ stands (l.drop n) := by
 obtain ⟨n, hn, hA, hL, hs⟩ := r_skip_loop h t g z e ep hT
 refine ⟨n, hn, Q97_tree _ _ _ _ _ _ ⟨_, _, r_word hT [1] (by decide), ?_⟩, hL, hs⟩
 rw [e]
 exact hA
def lexL : Option (List Token) → List Token
 | none => []
 | some l => l
def lexE : Option (List Token) → Int
 | none => 5
 | some _ => 0
def lexP (out : List Token) : Option (List Token) → List Token
 | none => []
 | some l => out ++ l
theorem r_Lex_loop : ∀ (m : Nat) (l : List UInt8) (p : Int) (r : Option (List Token)), Lx l p r → stands l → l.length ≤ m → ∀ (out : List Token) (g : Nat) (z : Bool), TI ⟨l, p⟩ → (out.length : Int) ≤ p → At_Q60_1 l p out g z (lexP out r) (lexE r) := by
 intro m
 induction m with
 | zero =>
  intro l p r h hs hm out g z hT ho
  have : l = [] := List.length_eq_zero_iff.1 (by omega)
  subst this
  cases h
  have h3 := hT.2.2
  simp only [List.length_nil] at h3
  apply At_Q60_1_step
  exact ⟨fun _ => ⟨⟨by omega, by omega, by decide⟩, rfl, rfl⟩, fun h => absurd rfl h⟩
 | succ m ih =>
  intro l p r h hs hm out g z hT ho
  have h3 := hT.2.2
  cases h with
  | nil =>
   simp only [List.length_nil] at h3
   apply At_Q60_1_step
   exact ⟨fun _ => ⟨⟨by omega, by omega, by decide⟩, rfl, rfl⟩, fun h => absurd rfl h⟩
  | gap c t _ _ hc h => exact absurd hc hs.1
  | remark t _ _ h => exact absurd ((cls5 35).2 rfl) hs.2
  | bad c t _ c1 c2 hk =>
   have hl0 := hT.1
   simp only at hl0 h3
   obtain ⟨t', hn⟩ := r_next (LTokens.mk ⟨c :: t, p⟩ out) g z hT (by simp only; omega) rfl hk
   apply At_Q60_1_step
   exact ⟨fun h => by simp at h, fun _ => ⟨_, _, _, _, hn, fun h => (by cases h), fun _ => ⟨rfl, rfl⟩⟩⟩
  | tok c t _ x n r' c1 c2 hk h' =>
   have hl0 := hT.1
   simp only at hl0 h3
   have hn := r_next (LTokens.mk ⟨c :: t, p⟩ out) g z hT (by simp only; omega) rfl hk
   obtain ⟨n0, n1⟩ := Tok_len hk _ rfl
   simp only at n0 n1
   simp only [NextP] at hn
   have hT2 : TI (takeT ⟨c :: t, p⟩ n) := hT.take n1
   obtain ⟨k, hk1, hS, hL, hst⟩ := r_skip h' (LTokens.mk (takeT ⟨c :: t, p⟩ n) (out ++ [atT x p])) g z rfl rfl hT2
   have hT3 : TI (takeT (takeT ⟨c :: t, p⟩ n) k) := hT2.take hk1
   have hlen : ((c :: t).drop n).length = (c :: t).length - n := List.length_drop
   have hlen2 : (((c :: t).drop n).drop k).length = (c :: t).length - n - k := by rw [List.length_drop, hlen]
   have key := ih _ _ _ hL hst (by omega) (out ++ [atT x p]) g z hT3 (by simp; omega)
   apply At_Q60_1_step
   refine ⟨fun h => by simp at h, fun _ => ⟨_, _, _, _, hn, fun _ => ⟨_, _, _, hS, ?_⟩, fun h => absurd rfl h⟩⟩
   cases r' with
   | none => exact key
   | some l' =>
    have e : lexP (out ++ [atT x p]) (some l') = lexP out ((some l').map (atT x p :: ·)) := by simp [lexP]
    rw [e] at key
    exact key
theorem r_Lex {s : List UInt8} (hs : s.length ≤ 6000) {r : Option (List Token)} (h : Lx s 0 r) : R_Q60 s (lexL r) (lexE r) := by
 have hT : TI ⟨s, 0⟩ := ⟨hs, Int.le_refl _, by simp only; omega⟩
 obtain ⟨k, hk1, hS, hL, hst⟩ := r_skip h (LTokens.mk ⟨s, 0⟩ []) 0 false rfl rfl hT
 have hT2 : TI (takeT ⟨s, 0⟩ k) := hT.take hk1
 have key := r_Lex_loop _ _ _ _ hL hst (Nat.le_refl _) [] 0 false hT2 (by simp)
 have e : lexP [] r = lexL r := by cases r <;> rfl
 rw [e] at key
 apply Q60_tree
 exact ⟨fun h => by omega, fun _ => ⟨_, _, _, hS, key⟩⟩
def quoF : Nat → List UInt8 → List Part → List UInt8 → Option (List Part × Nat)
 | 0, _, _, _ => none
 | _ + 1, [], _, _ => none
 | n + 1, c :: t, l, b =>
  if c = 34 then some (joinP l b, 1)
  else if c.toNat < 32 then none
  else if c = 92 then
   match t with
   | [] => none
   | x :: t => match escS x with | none => none | some y => (quoF n t l (b ++ [y])).map fun q => (q.1, q.2 + 2)
  else if c = 36 ∧ t.head? = some 123 then
   if (refS t.tail).2 = true then (quoF n (t.tail.drop ((refS t.tail).1.length + 1)) (joinP l b ++ [Part.mk true (refS t.tail).1]) []).map fun q => (q.1, q.2 + (3 + (refS t.tail).1.length)) else none
  else (quoF n t l (b ++ [c])).map fun q => (q.1, q.2 + 1)
theorem quoF_ok : ∀ (n : Nat) (t : List UInt8) (l : List Part) (b : List UInt8), t.length < n → Qx t l b (quoF n t l b)
 | 0, t, l, b, h => by omega
 | n + 1, [], l, b, h => .nil l b
 | n + 1, c :: t, l, b, h => by
  simp only [List.length_cons] at h
  unfold quoF
  split
  ·rename_i c1; subst c1; exact .shut t l b
  ·rename_i c1
   split
   ·rename_i c2; exact .low c t l b c1 c2
   ·rename_i c2
    split
    ·rename_i c3
     subst c3
     cases t with
     | nil => exact .esc0 l b
     | cons x t =>
      dsimp only
      cases hx : escS x with
      | none => exact .escbad x t l b hx
      | some y => exact .esc x y t l b _ hx (quoF_ok n t l (b ++ [y]) (by simp only [List.length_cons] at h; omega))
    ·rename_i c3
     split
     ·rename_i c4
      obtain ⟨rfl, h5⟩ := c4
      cases t with
      | nil => cases h5
      | cons x t =>
       obtain rfl : x = 123 := Option.some.inj h5
       simp only [List.length_cons] at h
       split
       ·rename_i hx; exact .ref t l b _ hx (quoF_ok n _ _ _ (by simp; omega))
       ·rename_i hx; exact .refbad t l b (by simpa using hx)
     ·rename_i c4
      exact .plain c t l b _ c1 c2 c3 (fun e e2 => c4 ⟨e, e2⟩) (quoF_ok n t l (b ++ [c]) (by omega))
def tokF : List UInt8 → Option (Token × Nat)
 | [] => none
 | c :: u =>
  if clsS c = 2 then (if ((c :: u).takeWhile (inC [2, 3])).length ≤ 24 then some (Token.mk 3 ((c :: u).takeWhile (inC [2, 3])) 0 [] 0, spanS [2, 3] (c :: u)) else none)
  else if clsS c = 3 then numS (c :: u)
  else if clsS c = 4 then (quoF (u.length + 1) u [] []).map fun q => (Token.mk 2 [] 0 q.1 0, q.2 + 1)
  else if signS (c :: u) = [] then none else some (Token.mk 4 (signS (c :: u)) 0 [] 0, (signS (c :: u)).length)
theorem tokF_ok (c : UInt8) (u : List UInt8) : Tok (c :: u) (tokF (c :: u)) := by
 simp only [tokF]
 split
 ·rename_i h; exact .name c u h
 ·rename_i h2
  split
  ·rename_i h; exact .num c u h
  ·rename_i h3
   split
   ·rename_i h4
    obtain rfl := (cls4 c).1 h4
    exact .text u _ (quoF_ok _ u [] [] (by omega))
   ·rename_i h4; exact .sign c u h2 h3 h4
def lexF : Nat → List UInt8 → Int → Option (List Token)
 | 0, _, _ => none
 | _ + 1, [], p => some [Token.mk 0 [] 0 [] p]
 | n + 1, c :: t, p =>
  if clsS c = 1 then lexF n t (p + 1)
  else if clsS c = 5 then lexF n (t.dropWhile (· != 10)) (p + ((t.takeWhile (· != 10)).length + 1 : Nat))
  else match tokF (c :: t) with
   | none => none
   | some (x, k) => (lexF n ((c :: t).drop k) (p + k)).map (atT x p :: ·)
theorem lexF_ok : ∀ (n : Nat) (t : List UInt8) (p : Int), t.length < n → Lx t p (lexF n t p)
 | 0, t, p, h => by omega
 | n + 1, [], p, h => .nil p
 | n + 1, c :: t, p, h => by
  simp only [List.length_cons] at h
  have ht := tokF_ok c t
  unfold lexF
  split
  ·rename_i c1; exact .gap c t p _ c1 (lexF_ok n t _ (by omega))
  ·rename_i c1
   split
   ·rename_i c2
    obtain rfl := (cls5 c).1 c2
    have := line_len t
    have hdl : (t.dropWhile (· != 10)).length = t.length - (t.takeWhile (· != 10)).length := by rw [← drop_while_len, List.length_drop]
    exact .remark t p _ (lexF_ok n _ _ (by omega))
   ·rename_i c2
    split
    ·rename_i hk
     rw [hk] at ht
     exact .bad c t p c1 c2 ht
    ·rename_i x k hk
     rw [hk] at ht
     have := Tok_len ht _ rfl
     exact .tok c t p x k _ c1 c2 ht (lexF_ok n _ _ (by simp only [List.length_drop, List.length_cons] at this ⊢; omega))
def lexS (s : List UInt8) : Option (List Token) := lexF (s.length + 1) s 0
theorem lexS_ok (s : List UInt8) : Lx s 0 (lexS s) := lexF_ok _ s 0 (Nat.lt_succ_self _)
theorem rep1 (a b : UInt8) : ∀ (n : Nat) (s : List UInt8), s.length ≤ n → Lib.replaceK [a] [b] (s.count a) s = s.map (fun c => if c = a then b else c)
 | 0, s, h => by
  have : s = [] := List.length_eq_zero_iff.1 (by omega)
  subst this
  rfl
 | n + 1, s, h => by
  by_cases hm : a ∈ s
  ·obtain ⟨u, v, rfl, hu⟩ := splitAt_first a s hm
   have h1 : (u ++ a :: v).takeWhile (· != a) = u := takeWhile_stop _ u a v (fun x hx => by simp; intro e; exact hu (e ▸ hx)) (by simp)
   have hi : Lib.index (u ++ a :: v) [a] = (u.length : Nat) := by rw [index1, if_pos hm, h1]
   have hc : (u ++ a :: v).count a = v.count a + 1 := by
    rw [List.count_append, List.count_cons_self, List.count_eq_zero_of_not_mem hu]
    omega
   simp only [List.length_append, List.length_cons] at h
   rw [hc, Lib.replaceK_hit _ _ _ _ _ hi, List.take_left]
   have hd : (u ++ a :: v).drop (u.length + [a].length) = v := drop_mid a u v
   rw [hd, rep1 a b n v (by omega)]
   have hmu : u.map (fun c => if c = a then b else c) = u := by
    conv => rhs; rw [← List.map_id u]
    refine List.map_congr_left fun x hx => ?_
    rw [if_neg (show ¬ x = a from fun e => hu (e ▸ hx))]
    rfl
   simp [hmu]
  ·rw [List.count_eq_zero_of_not_mem hm]
   show s = _
   conv => lhs; rw [← List.map_id s]
   refine List.map_congr_left fun x hx => ?_
   rw [if_neg (show ¬ x = a from fun e => hm (e ▸ hx))]
   rfl
def lblS (c : UInt8) : UInt8 := if c = 45 then 95 else c
theorem r_ReplaceAll (s : List UInt8) (hs : s.length ≤ 1000000) : R_strings_ReplaceAll s [45] [95] (s.map lblS) := by
 intro S
 refine call_ext sp_strings_ReplaceAll S ?_
 have hc : Lib.countB ⟨s.toArray⟩ ⟨([45] : List UInt8).toArray⟩ = s.count 45 := Lib.count_one 45 s
 have hle : s.count 45 ≤ s.length := List.count_le_length
 have hr : Lib.replaceAll s [45] [95] = s.map lblS := by
  unfold Lib.replaceAll Lib.replace Lib.replaceNum
  rw [if_neg (by decide), if_pos (.inl (by decide)), Lib.count_one, rep1 45 95 s.length s (Nat.le_refl _)]
  rfl
 simp only [replaceX, hc, hr]
 rw [if_pos]
 simp only [List.length_cons, List.length_nil]
 omega
def lblC (c : UInt8) : Bool := decide ((97 ≤ c.toNat ∧ c.toNat ≤ 122) ∨ (48 ≤ c.toNat ∧ c.toNat ≤ 57) ∨ c.toNat = 45 ∨ c.toNat = 95)
def labelS : List UInt8 → Bool
 | [] => false
 | c :: u => decide (97 ≤ c.toNat ∧ c.toNat ≤ 122) && u.all lblC && decide (u.length + 1 ≤ 24)
theorem cls3 (c : UInt8) : clsS c = 3 ↔ 48 ≤ c.toNat ∧ c.toNat ≤ 57 := by
 have := inC3 c
 unfold inC at this
 simpa using this
theorem cls2 (c : UInt8) : clsS c = 2 ↔ c.toNat = 95 ∨ (97 ≤ c.toNat ∧ c.toNat ≤ 122) := by
 unfold clsS
 repeat' split
 all_goals (first | omega | (constructor <;> intro h <;> first | omega | exact absurd h (by decide)))
theorem lblC_in (c : UInt8) : inC [2, 3] (lblS c) = lblC c := by
 have h : inC [2, 3] (lblS c) = true ↔ lblC c = true := by
  rw [inC23, cls2, cls3]
  unfold lblS lblC
  rw [decide_eq_true_eq]
  by_cases h : c = 45
  ·rw [if_pos h, h]; decide
  ·have h' : c.toNat ≠ 45 := fun e => h (UInt8.toNat_inj.1 e)
   rw [if_neg h]
   omega
 cases h1 : inC [2, 3] (lblS c) <;> cases h2 : lblC c <;> simp_all
theorem span_all (cl : List Int) : ∀ l : List UInt8, spanS cl l = l.length ↔ ∀ c ∈ l, inC cl c = true
 | [] => by simp [spanS]
 | c :: l => by
  have ih := span_all cl l
  unfold spanS at ih ⊢
  rw [List.takeWhile_cons]
  by_cases h : inC cl c = true
  ·rw [if_pos h]
   simp [h, ih]
  ·rw [if_neg h]
   simp [h]
theorem name_map (c : UInt8) (u : List UInt8) : nameS ((c :: u).map lblS) = decide (clsS (lblS c) = 2 ∧ u.length + 1 ≤ 24 ∧ u.all lblC = true) := by
 unfold nameS
 refine decide_eq_decide.2 ?_
 simp only [List.map_cons, ne_eq, reduceCtorEq, not_false_eq_true, true_and, List.length_cons, List.length_map]
 rw [endS]
 by_cases h : clsS (lblS c) = 2
 ·rw [if_pos h]
  have e : spanS [2, 3] (lblS c :: u.map lblS) = u.length + 1 ↔ ∀ x ∈ lblS c :: u.map lblS, inC [2, 3] x = true := by
   have := span_all [2, 3] (lblS c :: u.map lblS)
   simpa using this
  rw [e]
  simp only [h, true_and, List.mem_cons, List.mem_map, List.all_eq_true]
  constructor
  ·intro ⟨h1, h2⟩
   refine ⟨h1, fun x hx => ?_⟩
   rw [← lblC_in]
   exact h2 _ (.inr ⟨x, hx, rfl⟩)
  ·intro ⟨h1, h2⟩
   refine ⟨h1, fun x hx => ?_⟩
   rcases hx with rfl | ⟨y, hy, rfl⟩
   ·rw [inC23]; exact .inl h
   ·rw [lblC_in]; exact h2 y hy
 ·rw [if_neg h]
  simp [h]
theorem r_lexLabel (s : List UInt8) (hs : s.length ≤ 1000000) : R_Q81 s (labelS s) := by
 apply Q81_tree
 refine ⟨_, r_ReplaceAll s hs, _, r_lexName _ (by simpa using hs), ?_⟩
 cases s with
 | nil => exact ⟨fun h => absurd h (by decide), fun _ => rfl⟩
 | cons c u =>
  rw [name_map]
  refine ⟨fun h => ⟨c, rfl, fun h45 => ?_, fun h45 => ?_⟩, fun h => ?_⟩
  ·simp only [labelS]
   rw [decide_eq_false (by omega)]
   rfl
  ·obtain ⟨h1, h2, h3⟩ := of_decide_eq_true h
   have hc : ¬ c = 45 := fun e => h45 (by rw [e]; rfl)
   unfold lblS at h1
   rw [if_neg hc, cls2] at h1
   simp only [labelS]
   rw [h3, decide_eq_true h2, Bool.and_true, Bool.and_true]
   rw [← decide_not]
   exact decide_eq_decide.2 (by omega)
  ·simp only [labelS]
   symm
   rw [← Bool.not_eq_true]
   intro h2
   apply h
   simp only [Bool.and_eq_true, decide_eq_true_eq] at h2
   refine decide_eq_true ⟨?_, h2.2, h2.1.2⟩
   rw [cls2]
   unfold lblS
   rw [if_neg (fun e => by have := h2.1.1; rw [e] at this; revert this; decide)]
   exact .inr h2.1.1
theorem joinP_mem {l : List Part} {b : List UInt8} {p : Part} (h : p ∈ joinP l b) : p ∈ l ∨ p.Text = b := by
 unfold joinP at h
 rcases List.mem_append.1 h with h | h
 ·exact .inl h
 ·split at h
  ·cases h
  ·simp at h
   subst h
   exact .inr rfl
theorem Qx_parts {t : List UInt8} {l : List Part} {b : List UInt8} {r : Option (List Part × Nat)} (h : Qx t l b r) : ∀ q, r = some q → ∀ p ∈ q.1, p ∈ l ∨ p.Text.length ≤ b.length + t.length := by
 induction h with
 | nil | low | esc0 | escbad | refbad => intro q hq; cases hq
 | shut t l b =>
  intro q hq p hp
  obtain rfl := Option.some.inj hq
  rcases joinP_mem hp with h | h
  ·exact .inl h
  ·right; rw [h]; omega
 | esc x y t l b r hx _ ih =>
  intro q hq p hp
  obtain ⟨q0, h0, rfl⟩ := Option.map_eq_some_iff.1 hq
  rcases ih q0 h0 p hp with h | h
  ·exact .inl h
  ·right; simp at h ⊢; omega
 | ref t l b r hr _ ih =>
  intro q hq p hp
  obtain ⟨q0, h0, rfl⟩ := Option.map_eq_some_iff.1 hq
  have h1 := refS_len hr
  rcases ih q0 h0 p hp with h | h
  ·rcases List.mem_append.1 h with h | h
   ·rcases joinP_mem h with h | h
    ·exact .inl h
    ·right; rw [h]; omega
   ·simp at h
    subst h
    right
    simp
    omega
  ·right; simp at h ⊢; omega
 | plain c t l b r c1 c2 c3 c4 _ ih =>
  intro q hq p hp
  obtain ⟨q0, h0, rfl⟩ := Option.map_eq_some_iff.1 hq
  rcases ih q0 h0 p hp with h | h
  ·exact .inl h
  ·right; simp at h ⊢; omega
theorem takeW_len (p : UInt8 → Bool) (l : List UInt8) : (l.takeWhile p).length ≤ l.length := (List.takeWhile_sublist p).length_le
theorem Tok_good {t : List UInt8} {r : Option (Token × Nat)} (h : Tok t r) : ∀ x n, r = some (x, n) → x.Kind ≠ 0 ∧ x.Text.length ≤ t.length ∧ ∀ p ∈ x.Parts, p.Text.length ≤ t.length := by
 cases h with
 | name c u h =>
  intro x n hx
  split at hx
  ·cases hx
   exact ⟨by simp, takeW_len _ _, by simp⟩
  ·cases hx
 | num c u h =>
  intro x n hx
  unfold numS at hx
  split at hx
  ·cases hx
   exact ⟨by simp, by simp, by simp⟩
  ·cases hx
 | text u r h =>
  intro x n hx
  obtain ⟨q, hq, e⟩ := Option.map_eq_some_iff.1 hx
  cases e
  refine ⟨by simp, by simp, fun p hp => ?_⟩
  rcases Qx_parts h q hq p hp with h | h
  ·cases h
  ·simp at h ⊢; omega
 | sign c u h2 h3 h4 =>
  intro x n hx
  split at hx
  ·cases hx
  ·cases hx
   exact ⟨by simp, signS_len c u, by simp⟩
theorem Lx_good {l : List UInt8} {p : Int} {r : Option (List Token)} (h : Lx l p r) : ∀ L, r = some L → W L ∧ L.length ≤ l.length + 1 ∧ ∀ t ∈ L, t.Text.length ≤ l.length ∧ ∀ q ∈ t.Parts, q.Text.length ≤ l.length := by
 induction h with
 | nil p =>
  intro L hL
  cases hL
  exact ⟨rfl, by simp, fun t ht => by simp at ht; subst ht; simp⟩
 | gap c t p r hc _ ih =>
  intro L hL
  obtain ⟨h1, h2, h3⟩ := ih L hL
  refine ⟨h1, by simp; omega, fun x hx => ?_⟩
  obtain ⟨h4, h5⟩ := h3 x hx
  exact ⟨by simp; omega, fun q hq => by have := h5 q hq; simp; omega⟩
 | remark t p r _ ih =>
  intro L hL
  obtain ⟨h1, h2, h3⟩ := ih L hL
  have hd : (t.dropWhile (· != 10)).length ≤ t.length := (List.dropWhile_sublist _).length_le
  refine ⟨h1, by simp; omega, fun x hx => ?_⟩
  obtain ⟨h4, h5⟩ := h3 x hx
  exact ⟨by simp; omega, fun q hq => by have := h5 q hq; simp; omega⟩
 | bad => intro L hL; cases hL
 | tok c t p x n r h1 h2 hk _ ih =>
  intro L hL
  obtain ⟨L0, h0, rfl⟩ := Option.map_eq_some_iff.1 hL
  obtain ⟨g1, g2, g3⟩ := Tok_good hk x n rfl
  obtain ⟨l1, l2⟩ := Tok_len hk (x, n) rfl
  obtain ⟨i1, i2, i3⟩ := ih L0 h0
  simp only [List.length_drop] at i2 i3
  simp only at l1 l2
  refine ⟨?_, by simp only [List.length_cons] at *; omega, fun y hy => ?_⟩
  ·cases L0 with
   | nil => exact i1.elim
   | cons a L0 => exact ⟨g1, i1⟩
  ·rcases List.mem_cons.1 hy with rfl | hy
   ·exact ⟨g2, g3⟩
   ·obtain ⟨h4, h5⟩ := i3 y hy
    exact ⟨by omega, fun q hq => by have := h5 q hq; omega⟩
theorem TL_of {s : List UInt8} {L : List Token} (hs : s.length ≤ 6000) (h : lexS s = some L) : TL L ∧ W L := by
 obtain ⟨h1, h2, h3⟩ := Lx_good (lexS_ok s) L h
 exact ⟨⟨by omega, fun t ht => by have := (h3 t ht).1; omega, fun t ht p hp => by have := (h3 t ht).2 p hp; omega⟩, h1⟩
def parseS (s : List UInt8) : PR (List Block) := match lexS s with | none => .er 5 | some L => confT labelS L
theorem r_ParseS (s : List UInt8) (hs : s.length ≤ 6000) : match parseS s with
  | .ok l _ _ => R_Q17 s l 0
  | .er e => e ≠ 0 → R_Q17 s [] e
  | .no => False := by
 have hx := r_Lex hs (lexS_ok s)
 unfold parseS
 cases hl : lexS s with
 | none => rw [hl] at hx; exact fun he => r_Parse_no hx he
 | some L =>
  rw [hl] at hx
  obtain ⟨h1, h2⟩ := TL_of hs hl
  exact r_ParseT hx h1 h2 r_lexLabel
theorem r_Parse_ok {s : List UInt8} (hs : s.length ≤ 6000) {l : List Block} {ts : List Token} {out : List Node} (h : parseS s = .ok l ts out) : R_Q17 s l 0 := by
 have := r_ParseS s hs
 rw [h] at this
 exact this
end Go.Proofs.YtfbcnpbhhooapaaGreatDoor.M
namespace Go.Proofs.YtfbcnpbhhooapaaGreatDoor.M
open Go
set_option linter.unusedVariables false
def sc_Q18 : SFunc := ⟨1, 4, .seq (.reg [⟨some 2, none, .v (.mov (.c (.int .i64 0)))⟩]) (.seq (.reg [⟨some 3, none, .v (.mov (.t 0))⟩, ⟨some 2, none, .v (.mov (.t 3))⟩]) .ret), [(.t 2)]⟩
theorem U_Q18 : type_of% (sc_Q18.eq_1) := sc_Q18.eq_1
theorem comp_Q18 : comp Tryz.prog Tryz.f18 = some sc_Q18 := by kernel_rfl
def c_Q15_1 : SC := .seq (.reg [⟨some 7, none, .v (.mov (.t 2))⟩, ⟨some 8, none, .call (.c (.func 18 [])) [(.t 7)]⟩, ⟨some 9, none, .v (.bin .eql (.t 8) (.c (.int .i64 0)))⟩, ⟨some 10, none, .v (.mov (.t 9))⟩, ⟨some 11, some (10, true), .v (.mov (.t 1))⟩, ⟨some 12, some (10, true), .v (.len false (.t 11))⟩, ⟨some 13, some (10, true), .v (.bin .eql (.t 12) (.c (.int .i64 1)))⟩, ⟨some 14, none, .v (.pick (.t 10) (.t 13) (.c (.bool false)))⟩, ⟨some 15, none, .v (.mov (.t 14))⟩, ⟨some 16, some (15, true), .v (.mov (.t 1))⟩, ⟨some 17, some (15, true), .v (.iaddr 4 (.t 16) (.c (.int .i64 0)))⟩, ⟨some 18, some (15, true), .v (.faddr 0 (.t 17))⟩, ⟨some 19, some (15, true), .v (.load none (.t 18))⟩, ⟨some 20, some (15, true), .v (.bin .eql (.t 19) (.c (.int .i64 3)))⟩, ⟨some 21, none, .v (.pick (.t 15) (.t 20) (.c (.bool false)))⟩, ⟨some 22, none, .v (.mov (.t 21))⟩, ⟨some 23, some (22, true), .v (.mov (.t 1))⟩, ⟨some 24, some (22, true), .v (.iaddr 4 (.t 23) (.c (.int .i64 0)))⟩, ⟨some 25, some (22, true), .v (.faddr 1 (.t 24))⟩, ⟨some 26, some (22, true), .v (.load none (.t 25))⟩, ⟨some 27, some (22, true), .v (.bin .eql (.t 26) (.c (.str [97])))⟩, ⟨some 28, none, .v (.pick (.t 22) (.t 27) (.c (.bool false)))⟩, ⟨some 29, none, .v (.mov (.t 28))⟩, ⟨some 30, some (29, true), .v (.mov (.t 1))⟩, ⟨some 31, some (29, true), .v (.iaddr 4 (.t 30) (.c (.int .i64 0)))⟩, ⟨some 32, some (29, true), .v (.faddr 2 (.t 31))⟩, ⟨some 33, some (29, true), .v (.load none (.t 32))⟩, ⟨some 34, some (29, true), .v (.len false (.t 33))⟩, ⟨some 35, some (29, true), .v (.bin .eql (.t 34) (.c (.int .i64 1)))⟩, ⟨some 36, none, .v (.pick (.t 29) (.t 35) (.c (.bool false)))⟩, ⟨some 0, none, .v (.mov (.t 36))⟩]) .ret
def c_Q15_2 : SC := .seq (.reg [⟨some 4, none, .call (.c (.func 17 [])) [(.c (.str [110, 111, 100, 101, 32, 34, 97, 34, 32, 123, 32, 99, 112, 117, 32, 61, 32, 49, 32, 125]))]⟩, ⟨some 3, none, .v (.mov (.t 4))⟩, ⟨some 5, none, .v (.extract 0 (.t 3))⟩, ⟨some 6, none, .v (.extract 1 (.t 3))⟩, ⟨some 1, none, .v (.mov (.t 5))⟩, ⟨some 2, none, .v (.mov (.t 6))⟩]) c_Q15_1
def sc_Q15 : SFunc := ⟨0, 37, .seq (.reg [⟨some 0, none, .v (.mov (.c (.bool false)))⟩]) c_Q15_2, [(.t 0)]⟩
theorem U_Q15 : type_of% (And.intro (ue c_Q15_1.eq_1) <| And.intro (ue c_Q15_2.eq_1) <| sc_Q15.eq_1) := And.intro (ue c_Q15_1.eq_1) <| And.intro (ue c_Q15_2.eq_1) <| sc_Q15.eq_1
theorem comp_Q15 : comp Tryz.prog Tryz.f15 = some sc_Q15 := by kernel_rfl
end Go.Proofs.YtfbcnpbhhooapaaGreatDoor.M
namespace Go.Proofs.YtfbcnpbhhooapaaGreatDoor.M
set_option linter.unusedSimpArgs false
set_option linter.unusedVariables false
open Go Classical
theorem sp_Q18 : SP 18 = some (.code sc_Q18) := SPof_code rfl Tryz.func18 comp_Q18
theorem Q18_tree (e_ : Int) (r : Int) (T :
  e_ = r) : R_Q18 e_ r := by
 intro S
 rw [call_code sp_Q18 _ _ rfl]
 have F := U_Q18
 obtain rfl := T
 exact fi F
theorem sp_Q15 : SP 15 = some (.code sc_Q15) := SPof_code rfl Tryz.func15 comp_Q15
theorem Q15_tree  (r : Bool) (T :
  ∃ (r1 : List Block) (r2 : Int), (R_Q17 [110, 111, 100, 101, 32, 34, 97, 34, 32, 123, 32, 99, 112, 117, 32, 61, 32, 49, 32, 125] r1 r2) ∧
 ∃ (r3 : Int), (R_Q18 r2 r3) ∧
 ((r3 = 0) →
  (((r1.length : Int) = 1) →
   ∃ (v4 : Block), (r1[0]? = some v4) ∧
   ((v4.Kind = 3) →
    ((v4.Label = [97]) →
     (decide ((v4.Attrs.length : Int) = 1)) = r) ∧
    (¬ (v4.Label = [97]) →
     false = r)) ∧
   (¬ (v4.Kind = 3) →
    false = r)) ∧
  (¬ ((r1.length : Int) = 1) →
   false = r)) ∧
 (¬ (r3 = 0) →
  false = r)) : R_Q15  r := by
 intro S
 rw [call_code sp_Q15 _ _ rfl]
 have F := U_Q15
 obtain ⟨r1, r2, q1, r3, q2, T⟩ := T
 simp only [R_Q17, le, List.cons_append, List.nil_append] at q1
 simp only [R_Q18, le, List.cons_append, List.nil_append] at q2
 replace F := aa q1 <| aa q2 <| F
 by_cases c3 : r3 = 0
 · replace T := T.1 c3
   replace F := aa (eq_true c3) <| F
   by_cases c4 : (r1.length : Int) = 1
   · replace T := T.1 c4
     obtain ⟨v4, q5, T⟩ := T
     replace F := aa (eq_true c4) <| aa q5 <| F
     by_cases c6 : v4.Kind = 3
     · replace T := T.1 c6
       replace F := aa (eq_true c6) <| F
       by_cases c7 : v4.Label = [97]
       · replace T := T.1 c7
         obtain rfl := T
         exact fi (aa (eq_true c7) <| F)
       · replace T := T.2 c7
         obtain rfl := T
         exact fi (aa (eq_false c7) <| F)
     · replace T := T.2 c6
       obtain rfl := T
       exact fi (aa (eq_false c6) <| F)
   · replace T := T.2 c4
     obtain rfl := T
     exact fi (aa (eq_false c4) <| F)
 · replace T := T.2 c3
   obtain rfl := T
   exact fi (aa (eq_false c3) <| F)
theorem r_Num1 (e : Int) : R_Q18 e e := Q18_tree _ _ rfl
theorem r_awake2 : R_Q15 true := by
 have h := r_Parse_ok (s := [110, 111, 100, 101, 32, 34, 97, 34, 32, 123, 32, 99, 112, 117, 32, 61, 32, 49, 32, 125]) (l := [⟨3, [97], [⟨[99, 112, 117], [⟨1, 1, [], [], []⟩]⟩], []⟩]) (ts := [⟨0, [], 0, [], 20⟩]) (out := []) (by decide) (by kernel_rfl)
 exact Q15_tree _ ⟨_, _, h, _, r_Num1 _, fun _ => ⟨fun _ => ⟨_, rfl, fun _ => ⟨fun _ => rfl, fun hf => absurd rfl hf⟩, fun hf => absurd rfl hf⟩, fun hf => absurd rfl hf⟩, fun hf => absurd rfl hf⟩
end Go.Proofs.YtfbcnpbhhooapaaGreatDoor.M
namespace Go.Proofs.YtfbcnpbhhooapaaGreatDoor.M
set_option linter.unusedSimpArgs false
set_option linter.unusedVariables false
set_option linter.unusedSectionVars false
open Go Classical
theorem r_refLabel_loop (s : List UInt8) (hs : s.length ≤ 1000000) : ∀ (m i : Nat), i + m = s.length → 0 < i → At_Q122_1 s i ((s.drop i).all lblC && decide (s.length ≤ 24)) := by
 intro m
 induction m with
 | zero =>
  intro i hi hp
  rw [List.drop_eq_nil_of_le (by omega)]
  apply At_Q122_1_step
  refine ⟨fun h => by omega, fun _ => ⟨fun _ => ?_, fun h => by omega⟩⟩
  simp only [List.all_nil, Bool.true_and]
  exact decide_eq_decide.2 (by omega)
 | succ m ih =>
  intro i hi hp
  have hlt : i < s.length := by omega
  have hg : s[((i : Nat) : Int).toNat]? = some s[i] := by rw [Int.toNat_natCast]; exact List.getElem?_eq_getElem hlt
  have hd : s.drop i = s[i] :: s.drop (i + 1) := List.drop_eq_getElem_cons hlt
  have key := ih (i + 1) (by omega) (by omega)
  rw [hd, List.all_cons]
  generalize s[i] = c at hg
  have next : lblC c = true → At_Q122_1 s ((i : Nat) + 1 : Int) ((lblC c && (s.drop (i + 1)).all lblC) && decide (s.length ≤ 24)) := fun h => by
   rw [h, Bool.true_and]; exact key
  have stop : ¬ lblC c = true → false = ((lblC c && (s.drop (i + 1)).all lblC) && decide (s.length ≤ 24)) := fun h => by simp [h]
  have o1 : I64 ((i : Nat) + 1 : Int) := ⟨by omega, by omega⟩
  have D := r_digit c
  have hdc : clsS c = 3 ↔ 48 ≤ c.toNat ∧ c.toNat ≤ 57 := cls3 c
  apply At_Q122_1_step
  refine ⟨fun _ => ⟨by omega, c, hg, fun h1 => ⟨fun h2 => ⟨o1, next (decide_eq_true (by omega))⟩, fun h2 => ⟨fun _ => ⟨_, D, fun h3 => ⟨o1, next (decide_eq_true (by have := of_decide_eq_true h3; omega))⟩, fun h3 => ⟨fun h4 => ⟨o1, next (decide_eq_true (by omega))⟩, fun h4 => ⟨fun h5 => ⟨o1, next (decide_eq_true (by omega))⟩, fun h5 => stop fun h6 => ?_⟩⟩⟩, fun h => absurd (by omega) h⟩⟩, fun h1 => ⟨fun _ => ⟨_, D, fun h3 => ⟨o1, next (decide_eq_true (by have := of_decide_eq_true h3; omega))⟩, fun h3 => ⟨fun h4 => ⟨o1, next (decide_eq_true (by omega))⟩, fun h4 => ⟨fun h5 => ⟨o1, next (decide_eq_true (by omega))⟩, fun h5 => stop fun h6 => ?_⟩⟩⟩, fun h => absurd (by omega) h⟩⟩, fun h => by omega⟩
  ·have h6 := of_decide_eq_true h6
   have h3 : ¬ clsS c = 3 := fun e => h3 (decide_eq_true e)
   omega
  ·have h6 := of_decide_eq_true h6
   have h3 : ¬ clsS c = 3 := fun e => h3 (decide_eq_true e)
   omega
theorem r_refLabel (s : List UInt8) (hs : s.length ≤ 1000000) : R_Q122 s (labelS s) := by
 apply Q122_tree
 cases s with
 | nil =>
  apply At_Q122_1_step
  exact ⟨fun h => absurd h (by decide), fun _ => ⟨fun h => absurd h (by decide), fun _ => rfl⟩⟩
 | cons c u =>
  have key := r_refLabel_loop (c :: u) hs u.length 1 (by simp; omega) (by omega)
  apply At_Q122_1_step
  refine ⟨fun _ => ⟨by omega, c, rfl, fun h1 => ⟨fun h2 => ⟨⟨by omega, by omega⟩, ?_⟩, fun h2 => ⟨fun h => by omega, fun _ => ?_⟩⟩, fun h1 => ⟨fun h => by omega, fun _ => ?_⟩⟩, fun h => by simp only [List.length_cons] at h; omega⟩
  ·have e : labelS (c :: u) = (((c :: u).drop 1).all lblC && decide ((c :: u).length ≤ 24)) := by
    simp only [labelS, List.drop_succ_cons, List.drop_zero, List.length_cons]
    rw [decide_eq_true (by omega), Bool.true_and]
   rw [e]
   exact key
  ·simp only [labelS]
   rw [decide_eq_false (by omega)]
   rfl
  ·simp only [labelS]
   rw [decide_eq_false (by omega)]
   rfl
theorem r_arms (k : Int) : R_Q48 k (kdS k) := by
 apply Q48_tree
 repeat' (first | apply And.intro | intro _)
 all_goals
  unfold kdS
  repeat' split
  all_goals omega
theorem r_mayParts (l : List Part) (hl : plP l) : R_Q76 l (partsS false l) := by
 obtain ⟨hl, ht⟩ := hl
 have inner : ∀ (i : Nat) (hi : i < l.length) (q : Bool), At_Q76_1 l ((i : Int) + 1) q → ∀ (m j : Nat), j + m = l[i].Text.length → At_Q76_2 l i j ((l[i].Text.drop j).all printC && q) := by
  intro i hi q hq m
  have hg : l[((i : Nat) : Int).toNat]? = some l[i] := by rw [Int.toNat_natCast]; exact List.getElem?_eq_getElem hi
  have htx := ht _ (List.getElem_mem hi)
  induction m with
  | zero =>
   intro j hj
   apply At_Q76_2_step
   refine ⟨by omega, _, hg, fun h => by omega, fun _ => ⟨⟨by omega, by omega⟩, ?_⟩⟩
   rw [List.drop_of_length_le (by omega)]
   exact hq
  | succ m ih =>
   intro j hj
   have hlt : j < l[i].Text.length := by omega
   have hgj : l[i].Text[((j : Nat) : Int).toNat]? = some l[i].Text[j] := by rw [Int.toNat_natCast]; exact List.getElem?_eq_getElem hlt
   have hd : l[i].Text.drop j = l[i].Text[j] :: l[i].Text.drop (j + 1) := List.drop_eq_getElem_cons hlt
   have ih := ih (j + 1) (by omega)
   apply At_Q76_2_step
   refine ⟨by omega, _, hg, fun _ => ⟨by omega, _, hgj, fun h => ⟨fun h' => ⟨⟨by omega, by omega⟩, ?_⟩, fun h' => ?_⟩, fun h => ⟨⟨by omega, by omega⟩, ?_⟩⟩, fun h => by omega⟩
   ·rw [hd, List.all_cons, show printC l[i].Text[j] = true by simp [printC]; omega, Bool.true_and]
    exact ih
   ·rw [hd, List.all_cons, show printC l[i].Text[j] = false by simp [printC]; omega, Bool.false_and, Bool.false_and]
   ·rw [hd, List.all_cons, show printC l[i].Text[j] = true by simp [printC]; omega, Bool.true_and]
    exact ih
 have loop : ∀ (m i : Nat), i + m = l.length → At_Q76_1 l i (partsS (decide (∃ p, 0 < i ∧ l[i - 1]? = some p ∧ p.Ref = false)) (l.drop i)) := by
  intro m
  induction m with
  | zero =>
   intro i hi
   apply At_Q76_1_step
   exact ⟨fun h => by omega, fun _ => by rw [List.drop_of_length_le (by omega)]; rfl⟩
  | succ m ih =>
   intro i hi
   have hlt : i < l.length := by omega
   have hg : l[((i : Nat) : Int).toNat]? = some l[i] := by rw [Int.toNat_natCast]; exact List.getElem?_eq_getElem hlt
   have hd : l.drop i = l[i] :: l.drop (i + 1) := List.drop_eq_getElem_cons hlt
   have htx := ht _ (List.getElem_mem hlt)
   have ih := ih (i + 1) (by omega)
   have hnext : decide (∃ p, 0 < i + 1 ∧ l[i + 1 - 1]? = some p ∧ p.Ref = false) = !l[i].Ref := by
    rw [show i + 1 - 1 = i by omega, List.getElem?_eq_getElem hlt]
    cases h : l[i].Ref <;> simp [h]
   rw [hnext] at ih
   rw [hd]
   generalize hb : decide (∃ p, 0 < i ∧ l[i - 1]? = some p ∧ p.Ref = false) = b
   apply At_Q76_1_step
   refine ⟨fun _ => ⟨by omega, _, hg, fun hr => ⟨_, r_Dotted _ htx, fun h => ⟨⟨by omega, by omega⟩, ?_⟩, fun h => ?_⟩, fun hr => ⟨fun h => ?_, fun h => ⟨fun h0 => ?_, fun h0 => ?_⟩⟩⟩, fun h => by omega⟩
   ·rw [partsS, if_pos hr, h, Bool.true_and]
    rw [hr] at ih
    exact ih
   ·rw [partsS, if_pos hr, show dottedS l[i].Text = false by simpa using h, Bool.false_and]
   ·rw [partsS, if_neg hr, decide_eq_true h]
    rfl
   ·have hlt' : i - 1 < l.length := by omega
    have hg' : l[((i : Int) - 1).toNat]? = some l[i - 1] := by rw [show ((i : Int) - 1).toNat = i - 1 by omega]; exact List.getElem?_eq_getElem hlt'
    refine ⟨⟨by omega, by omega⟩, by omega, _, hg', fun hp => ?_, fun hp => ?_⟩
    ·have hb' : b = false := by
      rw [← hb, List.getElem?_eq_getElem hlt']
      simp [hp]
     rw [show l[i].Ref = false by simpa using hr] at ih
     have := inner i hlt _ ih l[i].Text.length 0 (by omega)
     rw [partsS, if_neg hr, decide_eq_false h, hb']
     exact this
    ·have hb' : b = true := by
      rw [← hb, List.getElem?_eq_getElem hlt']
      simp [hp]
      omega
     rw [partsS, if_neg hr, decide_eq_false h, hb']
     rfl
   ·have hb' : b = false := by
     rw [← hb]
     simp
     omega
    rw [show l[i].Ref = false by simpa using hr] at ih
    have := inner i hlt _ ih l[i].Text.length 0 (by omega)
    rw [partsS, if_neg hr, decide_eq_false h, hb']
    exact this
 have := loop l.length 0 (by omega)
 have e : decide (∃ p, 0 < 0 ∧ l[0 - 1]? = some p ∧ p.Ref = false) = false := by simp
 rw [e] at this
 exact Q76_tree _ _ this
theorem dotted_first {s : List UInt8} (h : dottedS s = true) : (Lib.cut s [46]).1 = s.take (endS s) := by
 by_cases hm : (46 : UInt8) ∈ s
 ·obtain ⟨u, v, rfl, hu⟩ := splitAt_first 46 s hm
  unfold dottedS at h
  rw [cut_split 46 u v hu] at h ⊢
  simp only [Bool.true_and, Bool.and_eq_true] at h
  rw [endS_app h.1 46 v in46]
  simp
 ·unfold dottedS at h
  rw [cut_none 46 s hm] at h
  simp at h
theorem parts0 (l : List Part) : (0 < (l.length : Int)) ↔ l ≠ [] := by
 cases l with
 | nil => simp
 | cons a l => simp
theorem r_leaf (n : Node) (h : NB n) : R_Q49 n (plS n) := by
 apply Q49_tree
 unfold plS
 simp only [parts0]
 refine ⟨fun k => ?_, fun k => ⟨fun k3 => ?_, fun k3 => ⟨fun hn => ⟨fun k4 => ?_, fun k4 => ⟨fun k5 => ?_, fun k5 => ?_⟩⟩, fun hn => ?_⟩⟩⟩
 ·rw [if_pos k]
  exact ⟨fun a => ⟨fun b => by simp [b], fun b => by simp at b; simp [a, b]⟩, fun a => by simp [a]⟩
 ·rw [if_neg k, if_pos k3]
  exact ⟨fun a => ⟨fun b => by simp [b], fun b => ⟨fun c => by simp at b; simp [a, b, c], fun c => by simp at b; simp [a, b, c]⟩⟩, fun a => by simp [a]⟩
 ·rw [if_neg k, if_neg k3, if_pos k4]
  refine ⟨fun b => by simp [b], fun b => ?_⟩
  have hb : n.Parts = [] := by simpa using b
  have hle := endS_le n.Text
  have hne := r_nameEnd n.Text h.text 0
  rw [List.drop_zero] at hne
  have et : (((0 : Nat) : Int) + ((endS n.Text : Nat) : Int)).toNat = endS n.Text := by omega
  refine ⟨_, hne, by omega, by omega, _, r_Dotted _ h.text, fun hd => ?_, fun hd => by simp [hd]⟩
  have hf := dotted_first hd
  rw [et]
  refine ⟨fun c => ?_, fun c => ?_⟩
  ·rw [hf, c]; simp [truthS]
  ·rw [hf]; simp [truthS, hd, hn, hb, c]
 ·rw [if_neg k, if_neg k3, if_neg k4, if_pos k5]
  refine ⟨fun b => by simp [b], fun b => ?_⟩
  have hb : n.Parts = [] := by simpa using b
  refine ⟨_, r_refName _ h.text, fun hd => ⟨fun c => by rw [c]; simp [truthS], fun c => by simp [truthS, hd, hn, hb, c]⟩, fun hd => by simp [hd]⟩
 ·rw [if_neg k, if_neg k3, if_neg k4, if_neg k5]
  refine ⟨fun ht => ⟨fun k2 => ⟨_, r_mayParts _ h.parts, by rw [if_pos k2]; simp [hn, ht]⟩, fun k2 => ⟨fun b => by rw [if_neg k2]; simp [b], fun b => by rw [if_neg k2]; simp at b; simp [hn, ht, b]⟩⟩, fun ht => ?_⟩
  split <;> simp [ht]
 ·rw [if_neg k, if_neg k3]
  repeat' split
  all_goals simp [hn]
theorem At_Q29_2_in {l : List Node} {i : Nat} {l2 : List Int} {n : Node} {r : Bool} (hi : i ≤ 1000000) (h2 : l2.length ≤ 1000000) (hk : n.Kids.length ≤ l2.length) (hy : l2.drop (l2.length - n.Kids.length) = n.Kids → At_Q29_1b l ((i : Int) + 1) (l2.take (l2.length - n.Kids.length) ++ [(i : Int)]) r) (hno : ¬ l2.drop (l2.length - n.Kids.length) = n.Kids → false = r) : ∀ (m j : Nat), j + m = n.Kids.length → (l2.drop (l2.length - n.Kids.length)).take j = n.Kids.take j → At_Q29_2 l i l2 n j r
 | 0, j, hj, he => by
  have e : ((l2.length : Int) - (n.Kids.length : Int)).toNat = l2.length - n.Kids.length := by omega
  apply At_Q29_2_step
  refine ⟨fun h => by omega, fun _ => ⟨⟨by omega, by omega⟩, ⟨by omega, by omega⟩, by omega, by omega, by simp only [bigRow]; omega, ⟨by omega, by omega⟩, ?_⟩⟩
  rw [e]
  refine hy ?_
  rwa [List.take_of_length_le (by rw [List.length_drop]; omega), List.take_of_length_le (by omega)] at he
 | m + 1, j, hj, he => by
  have hjk : j < n.Kids.length := by omega
  have hlt : l2.length - n.Kids.length + j < l2.length := by omega
  have e : (((l2.length : Int) - (n.Kids.length : Int)) + (j : Int)).toNat = l2.length - n.Kids.length + j := by omega
  have hg1 : l2[l2.length - n.Kids.length + j]? = some l2[l2.length - n.Kids.length + j] := List.getElem?_eq_getElem hlt
  have hg2 : n.Kids[((j : Nat) : Int).toNat]? = some n.Kids[j] := by rw [Int.toNat_natCast]; exact List.getElem?_eq_getElem hjk
  have hdl : (l2.drop (l2.length - n.Kids.length))[j]? = some l2[l2.length - n.Kids.length + j] := by rw [List.getElem?_drop, hg1]
  apply At_Q29_2_step
  refine ⟨fun _ => ⟨⟨by omega, by omega⟩, ⟨by omega, by omega⟩, by omega, by omega, _, by rw [e]; exact hg1, by omega, _, hg2, fun h => ⟨⟨by omega, by omega⟩, ?_⟩, fun h => hno fun hf => ?_⟩, fun h => by omega⟩
  ·refine At_Q29_2_in hi h2 hk hy hno m (j + 1) (by omega) ?_
   rw [List.take_add_one, List.take_add_one, he, hdl, List.getElem?_eq_getElem hjk, h]
  ·rw [hf, List.getElem?_eq_getElem hjk] at hdl
   exact h (Option.some.inj hdl).symm
theorem At_Q29_2b_in {l : List Node} {i : Nat} {l2 : List Int} {n : Node} {r : Bool} (hi : i ≤ 1000000) (h2 : l2.length ≤ 1000000) (hk : n.Kids.length ≤ l2.length) (hy : l2.drop (l2.length - n.Kids.length) = n.Kids → At_Q29_1b l ((i : Int) + 1) (l2.take (l2.length - n.Kids.length) ++ [(i : Int)]) r) (hno : ¬ l2.drop (l2.length - n.Kids.length) = n.Kids → false = r) : ∀ (m j : Nat), j + m = n.Kids.length → (l2.drop (l2.length - n.Kids.length)).take j = n.Kids.take j → At_Q29_2b l i l2 n (n.Kids.length : Int) j r
 | 0, j, hj, he => by
  have e : ((l2.length : Int) - (n.Kids.length : Int)).toNat = l2.length - n.Kids.length := by omega
  apply At_Q29_2b_step
  refine ⟨fun h => by omega, fun _ => ⟨⟨by omega, by omega⟩, ⟨by omega, by omega⟩, by omega, by omega, by simp only [bigRow]; omega, ⟨by omega, by omega⟩, ?_⟩⟩
  rw [e]
  refine hy ?_
  rwa [List.take_of_length_le (by rw [List.length_drop]; omega), List.take_of_length_le (by omega)] at he
 | m + 1, j, hj, he => by
  have hjk : j < n.Kids.length := by omega
  have hlt : l2.length - n.Kids.length + j < l2.length := by omega
  have e : (((l2.length : Int) - (n.Kids.length : Int)) + (j : Int)).toNat = l2.length - n.Kids.length + j := by omega
  have hg1 : l2[l2.length - n.Kids.length + j]? = some l2[l2.length - n.Kids.length + j] := List.getElem?_eq_getElem hlt
  have hg2 : n.Kids[((j : Nat) : Int).toNat]? = some n.Kids[j] := by rw [Int.toNat_natCast]; exact List.getElem?_eq_getElem hjk
  have hdl : (l2.drop (l2.length - n.Kids.length))[j]? = some l2[l2.length - n.Kids.length + j] := by rw [List.getElem?_drop, hg1]
  apply At_Q29_2b_step
  refine ⟨fun _ => ⟨⟨by omega, by omega⟩, ⟨by omega, by omega⟩, by omega, by omega, _, by rw [e]; exact hg1, by omega, _, hg2, fun h => ⟨⟨by omega, by omega⟩, ?_⟩, fun h => hno fun hf => ?_⟩, fun h => by omega⟩
  ·refine At_Q29_2b_in hi h2 hk hy hno m (j + 1) (by omega) ?_
   rw [List.take_add_one, List.take_add_one, he, hdl, List.getElem?_eq_getElem hjk, h]
  ·rw [hf, List.getElem?_eq_getElem hjk] at hdl
   exact h (Option.some.inj hdl).symm
theorem At_Q29_2c_in {l : List Node} {i : Nat} {l2 : List Int} {n : Node} {r : Bool} (hi : i ≤ 1000000) (h2 : l2.length ≤ 1000000) (hk : n.Kids.length ≤ l2.length) (hy : l2.drop (l2.length - n.Kids.length) = n.Kids → At_Q29_1b l ((i : Int) + 1) (l2.take (l2.length - n.Kids.length) ++ [(i : Int)]) r) (hno : ¬ l2.drop (l2.length - n.Kids.length) = n.Kids → false = r) : ∀ (m j : Nat), j + m = n.Kids.length → (l2.drop (l2.length - n.Kids.length)).take j = n.Kids.take j → At_Q29_2c l i l2 n j r
 | 0, j, hj, he => by
  have e : ((l2.length : Int) - (n.Kids.length : Int)).toNat = l2.length - n.Kids.length := by omega
  apply At_Q29_2c_step
  refine ⟨fun h => by omega, fun _ => ⟨⟨by omega, by omega⟩, ⟨by omega, by omega⟩, by omega, by omega, by simp only [bigRow]; omega, ⟨by omega, by omega⟩, ?_⟩⟩
  rw [e]
  refine hy ?_
  rwa [List.take_of_length_le (by rw [List.length_drop]; omega), List.take_of_length_le (by omega)] at he
 | m + 1, j, hj, he => by
  have hjk : j < n.Kids.length := by omega
  have hlt : l2.length - n.Kids.length + j < l2.length := by omega
  have e : (((l2.length : Int) - (n.Kids.length : Int)) + (j : Int)).toNat = l2.length - n.Kids.length + j := by omega
  have hg1 : l2[l2.length - n.Kids.length + j]? = some l2[l2.length - n.Kids.length + j] := List.getElem?_eq_getElem hlt
  have hg2 : n.Kids[((j : Nat) : Int).toNat]? = some n.Kids[j] := by rw [Int.toNat_natCast]; exact List.getElem?_eq_getElem hjk
  have hdl : (l2.drop (l2.length - n.Kids.length))[j]? = some l2[l2.length - n.Kids.length + j] := by rw [List.getElem?_drop, hg1]
  apply At_Q29_2c_step
  refine ⟨fun _ => ⟨⟨by omega, by omega⟩, ⟨by omega, by omega⟩, by omega, by omega, _, by rw [e]; exact hg1, by omega, _, hg2, fun h => ⟨⟨by omega, by omega⟩, ?_⟩, fun h => hno fun hf => ?_⟩, fun h => by omega⟩
  ·refine At_Q29_2c_in hi h2 hk hy hno m (j + 1) (by omega) ?_
   rw [List.take_add_one, List.take_add_one, he, hdl, List.getElem?_eq_getElem hjk, h]
  ·rw [hf, List.getElem?_eq_getElem hjk] at hdl
   exact h (Option.some.inj hdl).symm
theorem At_Q29_2d_in {l : List Node} {i : Nat} {l2 : List Int} {n : Node} {r : Bool} (hi : i ≤ 1000000) (h2 : l2.length ≤ 1000000) (hk : n.Kids.length ≤ l2.length) (hy : l2.drop (l2.length - n.Kids.length) = n.Kids → At_Q29_1b l ((i : Int) + 1) (l2.take (l2.length - n.Kids.length) ++ [(i : Int)]) r) (hno : ¬ l2.drop (l2.length - n.Kids.length) = n.Kids → false = r) : ∀ (m j : Nat), j + m = n.Kids.length → (l2.drop (l2.length - n.Kids.length)).take j = n.Kids.take j → At_Q29_2d l i l2 n (n.Kids.length : Int) j r
 | 0, j, hj, he => by
  have e : ((l2.length : Int) - (n.Kids.length : Int)).toNat = l2.length - n.Kids.length := by omega
  apply At_Q29_2d_step
  refine ⟨fun h => by omega, fun _ => ⟨⟨by omega, by omega⟩, ⟨by omega, by omega⟩, by omega, by omega, by simp only [bigRow]; omega, ⟨by omega, by omega⟩, ?_⟩⟩
  rw [e]
  refine hy ?_
  rwa [List.take_of_length_le (by rw [List.length_drop]; omega), List.take_of_length_le (by omega)] at he
 | m + 1, j, hj, he => by
  have hjk : j < n.Kids.length := by omega
  have hlt : l2.length - n.Kids.length + j < l2.length := by omega
  have e : (((l2.length : Int) - (n.Kids.length : Int)) + (j : Int)).toNat = l2.length - n.Kids.length + j := by omega
  have hg1 : l2[l2.length - n.Kids.length + j]? = some l2[l2.length - n.Kids.length + j] := List.getElem?_eq_getElem hlt
  have hg2 : n.Kids[((j : Nat) : Int).toNat]? = some n.Kids[j] := by rw [Int.toNat_natCast]; exact List.getElem?_eq_getElem hjk
  have hdl : (l2.drop (l2.length - n.Kids.length))[j]? = some l2[l2.length - n.Kids.length + j] := by rw [List.getElem?_drop, hg1]
  apply At_Q29_2d_step
  refine ⟨fun _ => ⟨⟨by omega, by omega⟩, ⟨by omega, by omega⟩, by omega, by omega, _, by rw [e]; exact hg1, by omega, _, hg2, fun h => ⟨⟨by omega, by omega⟩, ?_⟩, fun h => hno fun hf => ?_⟩, fun h => by omega⟩
  ·refine At_Q29_2d_in hi h2 hk hy hno m (j + 1) (by omega) ?_
   rw [List.take_add_one, List.take_add_one, he, hdl, List.getElem?_eq_getElem hjk, h]
  ·rw [hf, List.getElem?_eq_getElem hjk] at hdl
   exact h (Option.some.inj hdl).symm
theorem refTree_1b {l : List Node} (hl : l.length ≤ 1000000) (hn : ∀ n ∈ l, NB n) (m i : Nat) (hi : i + m = l.length) (l2 : List Int) (h2 : l2.length ≤ i) (ih : ∀ (hlt : i < l.length) (l3 : List Int), l3.length ≤ i + 1 → At_Q29_1b l ((i : Int) + 1) l3 (stk (i + 1) l3.reverse (l.drop (i + 1)))) : At_Q29_1b l i l2 (stk i l2.reverse (l.drop i)) := by
 apply At_Q29_1b_step
 refine ⟨fun h => ?_, fun h => ?_⟩
 ·have hlt : i < l.length := by omega
  have hg : l[((i : Nat) : Int).toNat]? = some l[i] := by rw [Int.toNat_natCast]; exact List.getElem?_eq_getElem hlt
  have hb := hn _ (List.getElem_mem hlt)
  have hkl := hb.kids
  have hrev : l2.length < l[i].Kids.length → ¬ l2.reverse.take l[i].Kids.length = l[i].Kids.reverse := fun h e => by
   have := congrArg List.length e
   simp at this
   omega
  have hiff : l[i].Kids.length ≤ l2.length → (l2.reverse.take l[i].Kids.length = l[i].Kids.reverse ↔ l2.drop (l2.length - l[i].Kids.length) = l[i].Kids) := fun h => by
   rw [List.take_reverse]
   exact ⟨fun e => List.reverse_inj.1 e, fun e => by rw [e]⟩
  have hdrop : l[i].Kids.length ≤ l2.length → (i : Int) :: l2.reverse.drop l[i].Kids.length = (l2.take (l2.length - l[i].Kids.length) ++ [(i : Int)]).reverse := fun h => by
   rw [List.reverse_append, List.drop_reverse]
   rfl
  rw [List.drop_eq_getElem_cons hlt, stk]
  have next : l[i].Kids.length ≤ l2.length → At_Q29_1b l ((i : Int) + 1) (l2.take (l2.length - l[i].Kids.length) ++ [(i : Int)]) (stk (i + 1) ((i : Int) :: l2.reverse.drop l[i].Kids.length) (l.drop (i + 1))) := fun h => by
   rw [hdrop h]
   exact ih (by omega) _ (by simp; omega)
  have hko : nodeOk l[i] = ((decide (kdS l[i].Kind = (l[i].Kids.length : Nat)) || decide (kdS l[i].Kind = -1)) && plS l[i]) := rfl
  refine ⟨by omega, _, hg, _, r_arms _, fun ka => ⟨fun h => by omega, fun _ => ⟨fun hs => ?_, fun hs => ?_⟩⟩, fun ka => ⟨fun h => ?_, fun h => ⟨fun he => ?_, fun he => ?_⟩⟩⟩
  ·rw [if_neg fun e => hrev (by omega) e.2]
  ·have hs' : l[i].Kids.length ≤ l2.length := by omega
   refine ⟨_, r_leaf _ hb, fun hp => ?_, fun hp => ?_⟩
   ·have ho : nodeOk l[i] = true := by rw [hko, hp, ka]; simp
    refine At_Q29_2c_in (by omega) (by omega) hs' (fun e => ?_) (fun e => ?_) l[i].Kids.length 0 (by omega) rfl
    ·rw [if_pos ⟨ho, (hiff hs').2 e⟩]
     exact next hs'
    ·rw [if_neg fun e' => e ((hiff hs').1 e'.2)]
   ·rw [if_neg fun e => by have := e.1; rw [hko] at this; simp [hp] at this]
  ·rw [if_neg fun e => by
    have := e.1
    rw [hko] at this
    simp only [Bool.and_eq_true, Bool.or_eq_true, decide_eq_true_eq] at this
    rcases this.1 with h' | h'
    ·omega
    ·exact ka h']
  ·rw [he]
   refine ⟨fun hs => ?_, fun hs => ?_⟩
   ·rw [if_neg fun e => hrev (by omega) e.2]
   ·have hs' : l[i].Kids.length ≤ l2.length := by omega
    refine ⟨_, r_leaf _ hb, fun hp => ?_, fun hp => ?_⟩
    ·have ho : nodeOk l[i] = true := by rw [hko, hp, he]; simp
     refine At_Q29_2d_in (by omega) (by omega) hs' (fun e => ?_) (fun e => ?_) l[i].Kids.length 0 (by omega) rfl
     ·rw [if_pos ⟨ho, (hiff hs').2 e⟩]
      exact next hs'
     ·rw [if_neg fun e' => e ((hiff hs').1 e'.2)]
    ·rw [if_neg fun e => by have := e.1; rw [hko] at this; simp [hp] at this]
  ·rw [if_neg fun e => by
    have := e.1
    rw [hko] at this
    simp only [Bool.and_eq_true, Bool.or_eq_true, decide_eq_true_eq] at this
    rcases this.1 with h' | h'
    ·exact he h'
    ·exact ka h']
 ·rw [List.drop_of_length_le (by omega), stk, List.length_reverse]
  exact decide_eq_decide.2 (by omega)
theorem refTree_1 {l : List Node} (hl : l.length ≤ 1000000) (hn : ∀ n ∈ l, NB n) (m i : Nat) (hi : i + m = l.length) (l2 : List Int) (h2 : l2.length ≤ i) (ih : ∀ (hlt : i < l.length) (l3 : List Int), l3.length ≤ i + 1 → At_Q29_1b l ((i : Int) + 1) l3 (stk (i + 1) l3.reverse (l.drop (i + 1)))) : At_Q29_1 l i l2 (stk i l2.reverse (l.drop i)) := by
 apply At_Q29_1_step
 refine ⟨fun h => ?_, fun h => ?_⟩
 ·have hlt : i < l.length := by omega
  have hg : l[((i : Nat) : Int).toNat]? = some l[i] := by rw [Int.toNat_natCast]; exact List.getElem?_eq_getElem hlt
  have hb := hn _ (List.getElem_mem hlt)
  have hkl := hb.kids
  have hrev : l2.length < l[i].Kids.length → ¬ l2.reverse.take l[i].Kids.length = l[i].Kids.reverse := fun h e => by
   have := congrArg List.length e
   simp at this
   omega
  have hiff : l[i].Kids.length ≤ l2.length → (l2.reverse.take l[i].Kids.length = l[i].Kids.reverse ↔ l2.drop (l2.length - l[i].Kids.length) = l[i].Kids) := fun h => by
   rw [List.take_reverse]
   exact ⟨fun e => List.reverse_inj.1 e, fun e => by rw [e]⟩
  have hdrop : l[i].Kids.length ≤ l2.length → (i : Int) :: l2.reverse.drop l[i].Kids.length = (l2.take (l2.length - l[i].Kids.length) ++ [(i : Int)]).reverse := fun h => by
   rw [List.reverse_append, List.drop_reverse]
   rfl
  rw [List.drop_eq_getElem_cons hlt, stk]
  have next : l[i].Kids.length ≤ l2.length → At_Q29_1b l ((i : Int) + 1) (l2.take (l2.length - l[i].Kids.length) ++ [(i : Int)]) (stk (i + 1) ((i : Int) :: l2.reverse.drop l[i].Kids.length) (l.drop (i + 1))) := fun h => by
   rw [hdrop h]
   exact ih (by omega) _ (by simp; omega)
  have hko : nodeOk l[i] = ((decide (kdS l[i].Kind = (l[i].Kids.length : Nat)) || decide (kdS l[i].Kind = -1)) && plS l[i]) := rfl
  refine ⟨by omega, _, hg, _, r_arms _, fun ka => ⟨fun h => by omega, fun _ => ⟨fun hs => ?_, fun hs => ?_⟩⟩, fun ka => ⟨fun h => ?_, fun h => ⟨fun he => ?_, fun he => ?_⟩⟩⟩
  ·rw [if_neg fun e => hrev (by omega) e.2]
  ·have hs' : l[i].Kids.length ≤ l2.length := by omega
   refine ⟨_, r_leaf _ hb, fun hp => ?_, fun hp => ?_⟩
   ·have ho : nodeOk l[i] = true := by rw [hko, hp, ka]; simp
    refine At_Q29_2_in (by omega) (by omega) hs' (fun e => ?_) (fun e => ?_) l[i].Kids.length 0 (by omega) rfl
    ·rw [if_pos ⟨ho, (hiff hs').2 e⟩]
     exact next hs'
    ·rw [if_neg fun e' => e ((hiff hs').1 e'.2)]
   ·rw [if_neg fun e => by have := e.1; rw [hko] at this; simp [hp] at this]
  ·rw [if_neg fun e => by
    have := e.1
    rw [hko] at this
    simp only [Bool.and_eq_true, Bool.or_eq_true, decide_eq_true_eq] at this
    rcases this.1 with h' | h'
    ·omega
    ·exact ka h']
  ·rw [he]
   refine ⟨fun hs => ?_, fun hs => ?_⟩
   ·rw [if_neg fun e => hrev (by omega) e.2]
   ·have hs' : l[i].Kids.length ≤ l2.length := by omega
    refine ⟨_, r_leaf _ hb, fun hp => ?_, fun hp => ?_⟩
    ·have ho : nodeOk l[i] = true := by rw [hko, hp, he]; simp
     refine At_Q29_2b_in (by omega) (by omega) hs' (fun e => ?_) (fun e => ?_) l[i].Kids.length 0 (by omega) rfl
     ·rw [if_pos ⟨ho, (hiff hs').2 e⟩]
      exact next hs'
     ·rw [if_neg fun e' => e ((hiff hs').1 e'.2)]
    ·rw [if_neg fun e => by have := e.1; rw [hko] at this; simp [hp] at this]
  ·rw [if_neg fun e => by
    have := e.1
    rw [hko] at this
    simp only [Bool.and_eq_true, Bool.or_eq_true, decide_eq_true_eq] at this
    rcases this.1 with h' | h'
    ·exact he h'
    ·exact ka h']
 ·rw [List.drop_of_length_le (by omega), stk, List.length_reverse]
  exact decide_eq_decide.2 (by omega)
theorem refTree_all {l : List Node} (hl : l.length ≤ 1000000) (hn : ∀ n ∈ l, NB n) : ∀ (m i : Nat), i + m = l.length → ∀ (l2 : List Int), l2.length ≤ i → At_Q29_1b l i l2 (stk i l2.reverse (l.drop i))
 | 0, i, hi, l2, h2 => refTree_1b hl hn 0 i hi l2 h2 fun h => by omega
 | m + 1, i, hi, l2, h2 => refTree_1b hl hn (m + 1) i hi l2 h2 fun h l3 h3 => by
  have := refTree_all hl hn m (i + 1) (by omega) l3 h3
  exact this
theorem r_refTree (l : List Node) (hl : l.length ≤ 1000000) (hn : ∀ n ∈ l, NB n) : R_Q29 l (treeS l) := by
 rw [tree_stk]
 apply Q29_tree
 exact refTree_1 hl hn l.length 0 (by omega) [] (by simp) fun h l3 h3 => by
  have := refTree_all hl hn (l.length - 1) 1 (by omega) l3 h3
  exact this
def bigN (n : Node) : Bool := decide (100 < n.Kids.length) || (decide (300 < n.Text.length) || (decide (60 < n.Parts.length) || n.Parts.any fun p => decide (300 < p.Text.length)))
def greatS (l : List Node) : Bool := (l.take 100).any bigN || decide (80 < l.length)
theorem r_Great (l : List Node) : R_Q27 l (greatS l) := by
 have fin : ∀ (i : Nat), (l.take 100).length ≤ i → (decide (80 < (l.length : Int))) = (((l.take 100).drop i).any bigN || decide (80 < l.length)) := fun i hi => by
  rw [List.drop_of_length_le hi, List.any_nil, Bool.false_or]
  exact decide_eq_decide.2 (by omega)
 have loop : ∀ (m i : Nat), i + m = (l.take 100).length → At_Q27_1 l i (((l.take 100).drop i).any bigN || decide (80 < l.length)) := by
  intro m
  induction m with
  | zero =>
   intro i hi
   have hl : (l.take 100).length = min 100 l.length := List.length_take
   apply At_Q27_1_step
   exact ⟨fun h => ⟨fun h' => by omega, fun h' => fin i (by omega)⟩, fun h => fin i (by omega)⟩
  | succ m ih =>
   intro i hi
   have hl : (l.take 100).length = min 100 l.length := List.length_take
   have hlt : i < l.length := by omega
   have hg : l[((i : Nat) : Int).toNat]? = some l[i] := by rw [Int.toNat_natCast]; exact List.getElem?_eq_getElem hlt
   have hd : (l.take 100).drop i = l[i] :: (l.take 100).drop (i + 1) := by
    rw [List.drop_eq_getElem_cons (by omega)]
    simp
   have ih := ih (i + 1) (by omega)
   have inner : ∀ (m j : Nat), j + m = l[i].Parts.length → l[i].Parts.length ≤ 60 → At_Q27_2 l i j ((l[i].Parts.drop j).any (fun p => decide (300 < p.Text.length)) || (((l.take 100).drop (i + 1)).any bigN || decide (80 < l.length))) := by
    intro m
    induction m with
    | zero =>
     intro j hj h60
     apply At_Q27_2_step
     refine ⟨by omega, _, hg, fun h => by omega, fun _ => ⟨⟨by omega, by omega⟩, ?_⟩⟩
     rw [List.drop_of_length_le (by omega)]
     exact ih
    | succ m ihm =>
     intro j hj h60
     have hjl : j < l[i].Parts.length := by omega
     have hgj : l[i].Parts[((j : Nat) : Int).toNat]? = some l[i].Parts[j] := by rw [Int.toNat_natCast]; exact List.getElem?_eq_getElem hjl
     have hdj : l[i].Parts.drop j = l[i].Parts[j] :: l[i].Parts.drop (j + 1) := List.drop_eq_getElem_cons hjl
     have ihm := ihm (j + 1) (by omega) h60
     apply At_Q27_2_step
     refine ⟨by omega, _, hg, fun _ => ⟨by omega, _, hgj, fun h => ?_, fun h => ⟨⟨by omega, by omega⟩, ?_⟩⟩, fun h => by omega⟩
     ·rw [hdj, List.any_cons, decide_eq_true (by omega), Bool.true_or, Bool.true_or]
     ·rw [hdj, List.any_cons, decide_eq_false (by omega), Bool.false_or]
      exact ihm
   apply At_Q27_1_step
   rw [hd, List.any_cons]
   refine ⟨fun _ => ⟨fun _ => ⟨by omega, _, hg, fun h => ?_, fun h => ⟨fun h' => ?_, fun h' => ⟨fun h'' => ?_, fun h'' => ?_⟩⟩⟩, fun h => by omega⟩, fun h => by omega⟩
   ·rw [show bigN l[i] = true by simp [bigN]; omega]; rfl
   ·rw [show bigN l[i] = true by simp [bigN]; omega]; rfl
   ·rw [show bigN l[i] = true by simp [bigN]; omega]; rfl
   ·have hb : bigN l[i] = l[i].Parts.any fun p => decide (300 < p.Text.length) := by
     rw [bigN, decide_eq_false (by omega), decide_eq_false (by omega), decide_eq_false (by omega)]
     rfl
    rw [hb, Bool.or_assoc]
    exact inner l[i].Parts.length 0 (by omega) (by omega)
 apply Q27_tree
 exact loop (l.take 100).length 0 (by omega)
theorem great_ok {l : List Node} (h : greatS l = false) : l.length ≤ 80 ∧ ∀ n ∈ l, NB n := by
 simp only [greatS, Bool.or_eq_false_iff, decide_eq_false_iff_not] at h
 obtain ⟨h1, h2⟩ := h
 refine ⟨by omega, fun n hn => ?_⟩
 rw [List.take_of_length_le (by omega)] at h1
 have hb := List.any_eq_false.1 h1 n hn
 simp only [bigN, Bool.or_eq_true, decide_eq_true_eq, not_or, List.any_eq_true, not_exists, not_and] at hb
 obtain ⟨b1, b2, b3, b4⟩ := hb
 exact ⟨by omega, ⟨by omega, fun p hp => by have := b4 p hp; omega⟩, by omega⟩
def bigA (a : Attr) : Bool := decide (100 < a.Name.length) || greatS a.Expr
def wideS : Nat → List Block → Bool
 | 0, _ => true
 | m + 1, l => decide (20 < l.length) || l.any fun b => decide (100 < b.Label.length) || (decide (30 < b.Attrs.length) || (wideS m b.Blocks || b.Attrs.any bigA))
theorem r_Wide : ∀ (m d : Nat), d + m = 7 → ∀ (l : List Block), R_Q28 l (d : Nat) (wideS m l)
 | 0, d, hd, l => by
  apply Q28_tree
  exact ⟨fun _ => rfl, fun _ => ⟨fun _ => rfl, fun h => by omega⟩⟩
 | m + 1, d, hd, l => by
  have ihW := r_Wide m (d + 1) (by omega)
  apply Q28_tree
  refine ⟨fun h => by rw [wideS, decide_eq_true (by omega), Bool.true_or], fun h => ⟨fun h => by omega, fun _ => ?_⟩⟩
  rw [wideS, decide_eq_false (by omega), Bool.false_or]
  have hl : l.length ≤ 20 := by omega
  generalize hq : (fun b : Block => decide (100 < b.Label.length) || (decide (30 < b.Attrs.length) || (wideS m b.Blocks || b.Attrs.any bigA))) = q
  have loop : ∀ (k i : Nat), i + k = l.length → At_Q28_1 l (d : Nat) i ((l.drop i).any q) := by
   intro k
   induction k with
   | zero =>
    intro i hi
    apply At_Q28_1_step
    exact ⟨fun h => by omega, fun _ => by rw [List.drop_of_length_le (by omega)]; rfl⟩
   | succ k ih =>
    intro i hi
    have hlt : i < l.length := by omega
    have hg : l[((i : Nat) : Int).toNat]? = some l[i] := by rw [Int.toNat_natCast]; exact List.getElem?_eq_getElem hlt
    have hdr : l.drop i = l[i] :: l.drop (i + 1) := List.drop_eq_getElem_cons hlt
    have ih := ih (i + 1) (by omega)
    have inner : ∀ (m' j : Nat), j + m' = l[i].Attrs.length → l[i].Attrs.length ≤ 30 → At_Q28_2 l (d : Nat) i j ((l[i].Attrs.drop j).any bigA || (l.drop (i + 1)).any q) := by
     intro m'
     induction m' with
     | zero =>
      intro j hj h30
      apply At_Q28_2_step
      refine ⟨by omega, _, hg, fun h => by omega, fun _ => ⟨⟨by omega, by omega⟩, ?_⟩⟩
      rw [List.drop_of_length_le (by omega)]
      exact ih
     | succ m' ihm =>
      intro j hj h30
      have hjl : j < l[i].Attrs.length := by omega
      have hgj : l[i].Attrs[((j : Nat) : Int).toNat]? = some l[i].Attrs[j] := by rw [Int.toNat_natCast]; exact List.getElem?_eq_getElem hjl
      have hdj : l[i].Attrs.drop j = l[i].Attrs[j] :: l[i].Attrs.drop (j + 1) := List.drop_eq_getElem_cons hjl
      have ihm := ihm (j + 1) (by omega) h30
      apply At_Q28_2_step
      refine ⟨by omega, _, hg, fun _ => ⟨by omega, _, hgj, fun h => ?_, fun h => ⟨_, r_Great _, fun h' => ?_, fun h' => ⟨⟨by omega, by omega⟩, ?_⟩⟩⟩, fun h => by omega⟩
      ·rw [hdj, List.any_cons, show bigA l[i].Attrs[j] = true by simp [bigA]; omega, Bool.true_or, Bool.true_or]
      ·rw [hdj, List.any_cons, show bigA l[i].Attrs[j] = true by simp [bigA, h'], Bool.true_or, Bool.true_or]
      ·rw [hdj, List.any_cons, show bigA l[i].Attrs[j] = false by rw [bigA, decide_eq_false (by omega), Bool.false_or]; simpa using h', Bool.false_or]
       exact ihm
    have hW := ihW l[i].Blocks
    rw [show ((d + 1 : Nat) : Int) = (d : Int) + 1 by omega] at hW
    apply At_Q28_1_step
    rw [hdr, List.any_cons]
    have hqi : q l[i] = (decide (100 < l[i].Label.length) || (decide (30 < l[i].Attrs.length) || (wideS m l[i].Blocks || l[i].Attrs.any bigA))) := by rw [← hq]
    rw [hqi]
    refine ⟨fun _ => ⟨by omega, _, hg, fun h => ?_, fun h => ⟨fun h' => ?_, fun h' => ⟨⟨by omega, by omega⟩, _, hW, fun h'' => ?_, fun h'' => ?_⟩⟩⟩, fun h => by omega⟩
    ·rw [decide_eq_true (by omega)]; rfl
    ·rw [decide_eq_false (by omega), decide_eq_true (by omega)]; rfl
    ·rw [decide_eq_false (by omega), decide_eq_false (by omega), h'']; rfl
    ·rw [decide_eq_false (by omega), decide_eq_false (by omega), show wideS m l[i].Blocks = false by simpa using h'', Bool.false_or, Bool.false_or, Bool.false_or]
     exact inner l[i].Attrs.length 0 (by omega) (by omega)
  exact loop l.length 0 (by omega)
structure AB (a : Attr) : Prop where
 name : a.Name.length ≤ 1000000
 expr : a.Expr.length ≤ 1000000
 nodes : ∀ n ∈ a.Expr, NB n
structure BB (b : Block) : Prop where
 label : b.Label.length ≤ 1000000
 attrs : b.Attrs.length ≤ 1000000
 each : ∀ a ∈ b.Attrs, AB a
 blocks : b.Blocks.length ≤ 1000000
theorem wide_ok {m : Nat} {l : List Block} (h : wideS m l = false) : l.length ≤ 1000000 ∧ ∀ b ∈ l, BB b ∧ ∃ m', wideS m' b.Blocks = false := by
 cases m with
 | zero => cases h
 | succ m =>
  simp only [wideS, Bool.or_eq_false_iff, decide_eq_false_iff_not] at h
  obtain ⟨h1, h2⟩ := h
  refine ⟨by omega, fun b hb => ?_⟩
  have hq := List.any_eq_false.1 h2 b hb
  simp only [Bool.or_eq_true, decide_eq_true_eq, not_or, Bool.not_eq_true] at hq
  obtain ⟨q1, q2, q3, q4⟩ := hq
  have hbl : b.Blocks.length ≤ 1000000 := by
   cases m with
   | zero => cases q3
   | succ m =>
    simp only [wideS, Bool.or_eq_false_iff, decide_eq_false_iff_not] at q3
    omega
  refine ⟨⟨by omega, by omega, fun a ha => ?_, hbl⟩, m, q3⟩
  have := List.any_eq_false.1 q4 a ha
  simp only [bigA, Bool.or_eq_true, decide_eq_true_eq, not_or, Bool.not_eq_true] at this
  obtain ⟨g1, g2⟩ := great_ok this.2
  exact ⟨by omega, by omega, g2⟩
def atOk (seen : List Attr) : List Attr → Bool
 | [] => true
 | a :: l => nameS a.Name && treeS a.Expr && !(seen.any fun x => decide (x.Name = a.Name)) && atOk (seen ++ [a]) l
theorem r_attrsM (l : List Attr) (hl : l.length ≤ 1000000) (ha : ∀ a ∈ l, AB a) : R_Q82 l (atOk [] l) := by
 have loop : ∀ (m i : Nat), i + m = l.length → At_Q121 l i (atOk (l.take i) (l.drop i)) := by
  intro m
  induction m with
  | zero =>
   intro i hi
   apply At_Q121_step
   exact ⟨fun h => by omega, fun _ => by rw [List.drop_of_length_le (by omega)]; rfl⟩
  | succ m ih =>
   intro i hi
   have hlt : i < l.length := by omega
   have hg : l[((i : Nat) : Int).toNat]? = some l[i] := by rw [Int.toNat_natCast]; exact List.getElem?_eq_getElem hlt
   have hd : l.drop i = l[i] :: l.drop (i + 1) := List.drop_eq_getElem_cons hlt
   have hA := ha _ (List.getElem_mem hlt)
   have ih := ih (i + 1) (by omega)
   rw [show l.take (i + 1) = l.take i ++ [l[i]] by rw [List.take_add_one, List.getElem?_eq_getElem hlt]; rfl] at ih
   apply At_Q121_step
   rw [hd, atOk]
   refine ⟨fun _ => ⟨by omega, _, hg, _, r_lexName _ hA.name, fun h1 => ⟨_, r_Tree _ hA.expr hA.nodes, fun h2 => ⟨by omega, by omega, ?_, fun x => decide (x.Name = l[i].Name), fun x _ => Q121_tree _ _ _ rfl, fun h3 => ?_, fun h3 => ⟨⟨by omega, by omega⟩, ?_⟩⟩, fun h2 => ?_⟩, fun h1 => ?_⟩, fun h => by omega⟩
   ·rw [Int.toNat_natCast, List.length_take]; omega
   ·rw [Int.toNat_natCast] at h3
    rw [h1, h2, h3]
    rfl
   ·rw [Int.toNat_natCast] at h3
    rw [h1, h2, show (l.take i).any (fun x => decide (x.Name = l[i].Name)) = false by simpa using h3]
    exact ih
   ·rw [show treeS l[i].Expr = false by simpa using h2, Bool.and_false]; rfl
   ·rw [show nameS l[i].Name = false by simpa using h1]; rfl
 have := loop l.length 0 (by omega)
 exact Q82_tree _ _ this
theorem r_refMayA (b : Block) (hb : BB b) : At_Q84_1 b 0 (atOk [] b.Attrs && decide (b.Blocks = [])) := by
 have hl := hb.attrs
 have loop : ∀ (m i : Nat), i + m = b.Attrs.length → At_Q84_1 b i (atOk (b.Attrs.take i) (b.Attrs.drop i) && decide (b.Blocks = [])) := by
  intro m
  induction m with
  | zero =>
   intro i hi
   apply At_Q84_1_step
   exact ⟨fun h => by omega, fun _ => by rw [List.drop_of_length_le (by omega), len0]; rfl⟩
  | succ m ih =>
   intro i hi
   have hlt : i < b.Attrs.length := by omega
   have hg : b.Attrs[((i : Nat) : Int).toNat]? = some b.Attrs[i] := by rw [Int.toNat_natCast]; exact List.getElem?_eq_getElem hlt
   have hd : b.Attrs.drop i = b.Attrs[i] :: b.Attrs.drop (i + 1) := List.drop_eq_getElem_cons hlt
   have hA := hb.each _ (List.getElem_mem hlt)
   have ih := ih (i + 1) (by omega)
   rw [show b.Attrs.take (i + 1) = b.Attrs.take i ++ [b.Attrs[i]] by rw [List.take_add_one, List.getElem?_eq_getElem hlt]; rfl] at ih
   have inner : ∀ (k j : Nat), j + k = i → At_Q84_2 b i j (!(((b.Attrs.take i).drop j).any fun x => decide (x.Name = b.Attrs[i].Name)) && (atOk (b.Attrs.take i ++ [b.Attrs[i]]) (b.Attrs.drop (i + 1)) && decide (b.Blocks = []))) := by
    intro k
    induction k with
    | zero =>
     intro j hj
     apply At_Q84_2_step
     refine ⟨fun h => by omega, fun _ => ⟨⟨by omega, by omega⟩, ?_⟩⟩
     rw [List.drop_of_length_le (by rw [List.length_take]; omega)]
     exact ih
    | succ k ihk =>
     intro j hj
     have hjl : j < b.Attrs.length := by omega
     have hgj : b.Attrs[((j : Nat) : Int).toNat]? = some b.Attrs[j] := by rw [Int.toNat_natCast]; exact List.getElem?_eq_getElem hjl
     have hdj : (b.Attrs.take i).drop j = b.Attrs[j] :: (b.Attrs.take i).drop (j + 1) := by
      rw [List.drop_eq_getElem_cons (by rw [List.length_take]; omega)]
      simp
     have ihk := ihk (j + 1) (by omega)
     apply At_Q84_2_step
     rw [hdj, List.any_cons]
     refine ⟨fun _ => ⟨by omega, _, hgj, by omega, _, hg, fun h => ?_, fun h => ⟨⟨by omega, by omega⟩, ?_⟩⟩, fun h => by omega⟩
     ·rw [decide_eq_true h]; rfl
     ·rw [decide_eq_false h, Bool.false_or]
      exact ihk
   apply At_Q84_1_step
   rw [hd, atOk]
   refine ⟨fun _ => ⟨by omega, _, hg, _, r_refName _ hA.name, fun h1 => ⟨_, r_refTree _ hA.expr hA.nodes, fun h2 => ?_, fun h2 => ?_⟩, fun h1 => ?_⟩, fun h => by omega⟩
   ·rw [h1, h2, Bool.true_and, Bool.true_and, Bool.and_assoc]
    exact inner i 0 (by omega)
   ·rw [show treeS b.Attrs[i].Expr = false by simpa using h2, Bool.and_false]; rfl
   ·rw [show nameS b.Attrs[i].Name = false by simpa using h1]; rfl
 exact loop b.Attrs.length 0 (by omega)
def kindOk (b : Block) : Bool := decide (1 ≤ b.Kind) && decide (b.Kind ≤ 5) && (if b.Kind = 2 then decide (b.Label = []) else labelS b.Label)
def mayT (b : Block) : Bool := kindOk b && (if b.Kind = 5 then false else decide (b.Blocks = []) && atOk [] b.Attrs)
def mayF (b : Block) : Bool := kindOk b && (if b.Kind = 5 then decide (b.Attrs = []) && b.Blocks.all mayT else decide (b.Blocks = []) && atOk [] b.Attrs)
theorem r_may (b : Block) (hb : BB b) (within : Bool) (hin : within = false → ∀ x ∈ b.Blocks, R_Q52 x true (mayT x)) : R_Q52 b within (if within = true then mayT b else mayF b) := by
 have hA := r_attrsM b.Attrs hb.attrs hb.each
 have hbl := hb.blocks
 have rest : b.Kind ≠ 5 → (if within = true then mayT b else mayF b) = (kindOk b && (decide (b.Blocks = []) && atOk [] b.Attrs)) := fun h => by
  unfold mayT mayF
  rw [if_neg h, if_neg h]
  split <;> rfl
 have no : kindOk b = false → (if within = true then mayT b else mayF b) = false := fun h => by
  unfold mayT mayF
  rw [h]
  split <;> rfl
 apply Q52_tree
 refine ⟨_, r_lexLabel _ hb.label, fun k => ⟨fun h => ?_, fun h => ⟨fun h' => ?_, fun h' => ⟨fun hl => ⟨fun h0 => ⟨_, hA, ?_⟩, fun h0 => ?_⟩, fun hl => ?_⟩⟩⟩, fun k => ⟨fun h => ?_, fun h => ⟨fun h' => ?_, fun h' => ⟨fun hl => ⟨fun k5 => ⟨fun hw => ?_, fun hw => ⟨fun h0 => ⟨by omega, ?_⟩, fun h0 => ?_⟩⟩, fun k5 => ⟨fun h0 => ⟨_, hA, ?_⟩, fun h0 => ?_⟩⟩, fun hl => ?_⟩⟩⟩⟩
 ·omega
 ·omega
 ·have e : kindOk b = true := by simp [kindOk, k, hl]
  rw [rest (by omega), e, show b.Blocks = [] from List.length_eq_zero_iff.1 (by omega)]
  simp
 ·rw [rest (by omega), decide_eq_false (show ¬ b.Blocks = [] from fun e => h0 (by rw [e]; rfl))]
  simp
 ·rw [no (by simp [kindOk, k, hl])]
 ·rw [no (by simp [kindOk]; intros; omega)]
 ·rw [no (by simp [kindOk]; intros; omega)]
 ·subst hw
  rw [if_pos rfl, mayT, if_pos k5, Bool.and_false]
 ·have hw' : within = false := by simpa using hw
  subst hw'
  have e : kindOk b = true := by simp [kindOk, k5, hl]
  refine ⟨fun x => !mayT x, fun x hx => Q83_tree _ _ ⟨_, hin rfl x hx, rfl⟩, ?_⟩
  rw [if_neg (by decide), mayF, if_pos k5, e, show b.Attrs = [] from List.length_eq_zero_iff.1 (by omega)]
  rw [List.all_eq_not_any_not]
  simp
 ·have hw' : within = false := by simpa using hw
  subst hw'
  rw [if_neg (by decide), mayF, if_pos k5, decide_eq_false (show ¬ b.Attrs = [] from fun e => h0 (by rw [e]; rfl))]
  simp
 ·have e : kindOk b = true := by simp [kindOk, k, hl]; omega
  rw [rest k5, e, show b.Blocks = [] from List.length_eq_zero_iff.1 (by omega)]
  simp
 ·rw [rest k5, decide_eq_false (show ¬ b.Blocks = [] from fun e => h0 (by rw [e]; rfl))]
  simp
 ·rw [no (by simp [kindOk, k]; intros; simpa using hl)]
theorem r_refMay (b : Block) (hb : BB b) (within : Bool) (hin : within = false → R_Q53 b.Blocks true (b.Blocks.all mayT)) : R_Q84 b within (if within = true then mayT b else mayF b) := by
 have hA := r_refMayA b hb
 rw [Bool.and_comm] at hA
 have rest : b.Kind ≠ 5 → (if within = true then mayT b else mayF b) = (kindOk b && (decide (b.Blocks = []) && atOk [] b.Attrs)) := fun h => by
  unfold mayT mayF
  rw [if_neg h, if_neg h]
  split <;> rfl
 have no : kindOk b = false → (if within = true then mayT b else mayF b) = false := fun h => by
  unfold mayT mayF
  rw [h]
  split <;> rfl
 apply Q84_tree
 refine ⟨fun h => ?_, fun h => ⟨fun h' => ?_, fun h' => ⟨fun k => ⟨fun hl => ?_, fun hl => ?_⟩, fun k => ⟨_, r_refLabel _ hb.label, fun hl => ⟨fun k5 => ⟨fun hw => ?_, fun hw => ⟨fun h0 => ?_, fun h0 => ?_⟩⟩, fun k5 => ?_⟩, fun hl => ?_⟩⟩⟩⟩
 ·rw [no (by simp [kindOk]; intros; omega)]
 ·rw [no (by simp [kindOk]; intros; omega)]
 ·have e : kindOk b = true := by simp [kindOk, k, hl]
  rw [rest (by omega), e, Bool.true_and]
  exact hA
 ·rw [no (by simp [kindOk, k, hl])]
 ·subst hw
  rw [if_pos rfl, mayT, if_pos k5, Bool.and_false]
 ·have hw' : within = false := by simpa using hw
  subst hw'
  have e : kindOk b = true := by simp [kindOk, k5, hl]
  refine ⟨_, hin rfl, ?_⟩
  rw [if_neg (by decide), mayF, if_pos k5, e, show b.Attrs = [] from List.length_eq_zero_iff.1 (by omega)]
  simp
 ·have hw' : within = false := by simpa using hw
  subst hw'
  rw [if_neg (by decide), mayF, if_pos k5, decide_eq_false (show ¬ b.Attrs = [] from fun e => h0 (by rw [e]; rfl))]
  simp
 ·have e : kindOk b = true := by simp [kindOk, k, hl]; omega
  rw [rest k5, e, Bool.true_and]
  exact hA
 ·rw [no (by simp [kindOk, k]; intros; simpa using hl)]
theorem r_refAll (within : Bool) (f : Block → Bool) (l : List Block) (hl : l.length ≤ 1000000) (h : ∀ b ∈ l, R_Q84 b within (f b)) : R_Q53 l within (l.all f) := by
 have loop : ∀ (m i : Nat), i + m = l.length → At_Q53_1 l within i ((l.drop i).all f) := by
  intro m
  induction m with
  | zero =>
   intro i hi
   apply At_Q53_1_step
   exact ⟨fun h => by omega, fun _ => by rw [List.drop_of_length_le (by omega)]; rfl⟩
  | succ m ih =>
   intro i hi
   have hlt : i < l.length := by omega
   have hg : l[((i : Nat) : Int).toNat]? = some l[i] := by rw [Int.toNat_natCast]; exact List.getElem?_eq_getElem hlt
   have hd : l.drop i = l[i] :: l.drop (i + 1) := List.drop_eq_getElem_cons hlt
   have ih := ih (i + 1) (by omega)
   apply At_Q53_1_step
   rw [hd, List.all_cons]
   refine ⟨fun _ => ⟨by omega, _, hg, _, h _ (List.getElem_mem hlt), fun h1 => ⟨⟨by omega, by omega⟩, ?_⟩, fun h1 => ?_⟩, fun h => by omega⟩
   ·rw [h1, Bool.true_and]; exact ih
   ·rw [show f l[i] = false by simpa using h1]; rfl
 apply Q53_tree
 exact loop l.length 0 (by omega)
theorem r_Mays {m : Nat} {l : List Block} (h : wideS m l = false) : R_Q30 l (l.all mayF) ∧ R_Q31 l (l.all mayF) := by
 obtain ⟨hl, hb⟩ := wide_ok h
 have inT : ∀ b ∈ l, (∀ x ∈ b.Blocks, R_Q52 x true (mayT x)) ∧ R_Q53 b.Blocks true (b.Blocks.all mayT) := fun b hbl => by
  obtain ⟨_, m', h'⟩ := hb b hbl
  obtain ⟨hl', hb'⟩ := wide_ok h'
  refine ⟨fun x hx => ?_, r_refAll true mayT _ hl' fun x hx => ?_⟩
  ·have := r_may x (hb' x hx).1 true (fun h => by cases h)
   rwa [if_pos rfl] at this
  ·have := r_refMay x (hb' x hx).1 true (fun h => by cases h)
   rwa [if_pos rfl] at this
 constructor
 ·apply Q30_tree
  refine ⟨by omega, fun x => !mayF x, fun x hx => Q51_tree _ _ ⟨mayF x, ?_, rfl⟩, ?_⟩
  ·have := r_may x (hb x hx).1 false (fun _ => (inT x hx).1)
   rwa [if_neg (by decide)] at this
  ·rw [List.all_eq_not_any_not]
 ·apply Q31_tree
  refine ⟨_, r_refAll false mayF l hl fun x hx => ?_, rfl⟩
  have := r_refMay x (hb x hx).1 false (fun _ => (inT x hx).2)
  rwa [if_neg (by decide)] at this
theorem r_ParseTrees (l : List Node) (b : List Block) : R_Q10 l b true := by
 refine Q10_tree _ _ _ ⟨_, r_Great l, fun _ => ⟨true, r_awake2, rfl⟩, fun hg => ⟨_, r_Wide 7 0 rfl b, fun _ => ⟨true, r_awake2, rfl⟩, fun hw => ?_⟩⟩
 obtain ⟨g1, g2⟩ := great_ok (show greatS l = false by simpa using hg)
 obtain ⟨m1, m2⟩ := r_Mays (show wideS 7 b = false by simpa using hw)
 exact ⟨_, r_Tree l (by omega) g2, _, r_refTree l (by omega) g2, fun _ => ⟨_, m1, _, m2, fun _ => ⟨true, r_awake2, rfl⟩, fun hf => absurd rfl hf⟩, fun hf => absurd rfl hf⟩
end Go.Proofs.YtfbcnpbhhooapaaGreatDoor.M
namespace Go.Proofs
open Go.Shelf
def Tryz.lays137_ren : Go.Shelf.Ren := ⟨fun | 137 => 179 | 217 => 186 | 266 => 209 | n => n, fun | 9 => 9 | 5 => 5 | 3 => 3 | n => n, fun | n => n⟩
theorem Tryz.lays137 : Go.Proofs.Lays.n137 Tryz.prog Tryz.lays137_ren := {
  mixed := by kernel_rfl
  f137 := Tryz.func179.trans (congrArg some (by kernel_rfl))
  f217 := Tryz.func186.trans (congrArg some (by kernel_rfl))
  f266 := Tryz.func209.trans (congrArg some (by kernel_rfl))
  t3 := Tryz.underlying3
  a3 := Tryz.isAgg3
  z3 := Tryz.sizeOf3
  v3 := Tryz.zeroValue3
  t5 := Tryz.underlying5
  a5 := Tryz.isAgg5
  z5 := Tryz.sizeOf5
  v5 := Tryz.zeroValue5
  t9 := Tryz.underlying9
  a9 := Tryz.isAgg9
  z9 := Tryz.sizeOf9
  v9 := Tryz.zeroValue9 }
open Go.RowKit in
theorem Tryz.strings_IndexByte (s : ByteArray) (c : Int) (w : World) :
    Calls Tryz.prog 179 #[.string s, .int .u8 c] w fun e w' => e = .returned (.int .i64 (Lib.indexByte s.data.toList c.toNat.toUInt8)) ∧ w' = w := Any.strings_IndexByte Tryz.lays137 s c w
def Tryz.lays121_ren : Go.Shelf.Ren := ⟨fun | 121 => 108 | 214 => 147 | n => n, fun | 4 => 4 | 9 => 9 | n => n, fun | n => n⟩
theorem Tryz.lays121 : Go.Proofs.Lays.n121 Tryz.prog Tryz.lays121_ren := {
  mixed := by kernel_rfl
  f121 := Tryz.func108.trans (congrArg some (by kernel_rfl))
  f214 := Tryz.func147.trans (congrArg some (by kernel_rfl))
  t4 := Tryz.underlying4
  a4 := Tryz.isAgg4
  z4 := Tryz.sizeOf4
  v4 := Tryz.zeroValue4
  t9 := Tryz.underlying9
  a9 := Tryz.isAgg9
  z9 := Tryz.sizeOf9
  v9 := Tryz.zeroValue9 }
open Go.RowKit in
theorem Tryz.strconv_FormatBool (b : Bool) (w : World) :
    Calls Tryz.prog 108 #[.bool b] w fun e w' => e = .returned (.string ⟨(Lib.formatBool b).toArray⟩) ∧ w' = w := Any.strconv_FormatBool Tryz.lays121 b w
def Tryz.laysM171_ren : Go.Shelf.Ren := ⟨fun | 171 => 106 | 243 => 145 | 246 => 168 | 283 => 182 | 284 => 183 | 285 => 184 | 286 => 185 | 129 => 205 | 317 => 204 | 318 => 206 | 319 => 207 | 320 => 208 | 337 => 214 | 338 => 215 | n => n, fun | 3 => 3 | 9 => 9 | 2 => 2 | 4 => 4 | 171 => 208 | 0 => 0 | 53 => 66 | 37 => 22 | 5 => 5 | 173 => 211 | 212 => 223 | 51 => 182 | 20 => 20 | 213 => 224 | 46 => 161 | 232 => 243 | 233 => 244 | n => n, fun | 17 => 1 | 18 => 6 | 19 => 7 | n => n⟩
theorem Tryz.laysM171 : Go.Proofs.LaysM.n171 Tryz.prog Tryz.laysM171_ren := {
  mixed := by kernel_rfl
  f129 := Tryz.func205.trans (congrArg some (by kernel_rfl))
  f171 := Tryz.func106.trans (congrArg some (by kernel_rfl))
  f243 := Tryz.func145.trans (congrArg some (by kernel_rfl))
  f246 := Tryz.func168.trans (congrArg some (by kernel_rfl))
  f283 := Tryz.func182.trans (congrArg some (by kernel_rfl))
  f284 := Tryz.func183.trans (congrArg some (by kernel_rfl))
  f285 := Tryz.func184.trans (congrArg some (by kernel_rfl))
  f286 := Tryz.func185.trans (congrArg some (by kernel_rfl))
  f317 := Tryz.func204.trans (congrArg some (by kernel_rfl))
  f318 := Tryz.func206.trans (congrArg some (by kernel_rfl))
  f319 := Tryz.func207.trans (congrArg some (by kernel_rfl))
  f320 := Tryz.func208.trans (congrArg some (by kernel_rfl))
  f337 := Tryz.func214.trans (congrArg some (by kernel_rfl))
  f338 := Tryz.func215.trans (congrArg some (by kernel_rfl))
  t0 := Tryz.underlying0
  a0 := Tryz.isAgg0
  z0 := Tryz.sizeOf0
  v0 := Tryz.zeroValue0
  t2 := Tryz.underlying2
  a2 := Tryz.isAgg2
  z2 := Tryz.sizeOf2
  v2 := Tryz.zeroValue2
  t3 := Tryz.underlying3
  a3 := Tryz.isAgg3
  z3 := Tryz.sizeOf3
  v3 := Tryz.zeroValue3
  t4 := Tryz.underlying4
  a4 := Tryz.isAgg4
  z4 := Tryz.sizeOf4
  v4 := Tryz.zeroValue4
  t5 := Tryz.underlying5
  a5 := Tryz.isAgg5
  z5 := Tryz.sizeOf5
  v5 := Tryz.zeroValue5
  t9 := Tryz.underlying9
  a9 := Tryz.isAgg9
  z9 := Tryz.sizeOf9
  v9 := Tryz.zeroValue9
  t20 := Tryz.underlying20
  a20 := Tryz.isAgg20
  z20 := Tryz.sizeOf20
  v20 := Tryz.zeroValue20
  t37 := Tryz.underlying22
  a37 := Tryz.isAgg22
  z37 := Tryz.sizeOf22
  v37 := Tryz.zeroValue22
  t46 := Tryz.underlying161
  a46 := Tryz.isAgg161
  z46 := Tryz.sizeOf161
  v46 := Tryz.zeroValue161
  t51 := Tryz.underlying182
  a51 := Tryz.isAgg182
  z51 := Tryz.sizeOf182
  v51 := Tryz.zeroValue182
  t53 := Tryz.underlying66
  a53 := Tryz.isAgg66
  z53 := Tryz.sizeOf66
  v53 := Tryz.zeroValue66
  t171 := Tryz.underlying208
  a171 := Tryz.isAgg208
  z171 := Tryz.sizeOf208
  v171 := Tryz.zeroValue208
  t173 := Tryz.underlying211
  a173 := Tryz.isAgg211
  z173 := Tryz.sizeOf211
  v173 := Tryz.zeroValue211
  t212 := Tryz.underlying223
  a212 := Tryz.isAgg223
  z212 := Tryz.sizeOf223
  v212 := Tryz.zeroValue223
  t213 := Tryz.underlying224
  a213 := Tryz.isAgg224
  z213 := Tryz.sizeOf224
  t232 := Tryz.underlying243
  a232 := Tryz.isAgg243
  z232 := Tryz.sizeOf243
  v232 := Tryz.zeroValue243
  t233 := Tryz.underlying244
  a233 := Tryz.isAgg244
  z233 := Tryz.sizeOf244
  v233 := Tryz.zeroValue244
  g17 := by kernel_rfl
  g18 := by kernel_rfl
  g19 := by kernel_rfl
  i0 := by kernel_rfl
  i2 := by kernel_rfl
  i3 := by kernel_rfl
  i4 := by kernel_rfl
  i5 := by kernel_rfl
  i9 := by kernel_rfl
  i20 := by kernel_rfl
  i37 := by kernel_rfl
  i46 := by kernel_rfl
  i51 := by kernel_rfl
  i53 := by kernel_rfl
  i171 := by kernel_rfl
  i173 := by kernel_rfl
  i212 := by kernel_rfl
  i232 := by kernel_rfl
  i233 := by kernel_rfl
  m17 := by kernel_rfl
  m18 := by kernel_rfl
  m19 := by kernel_rfl }
open Go.RowKit Go.Sort Go.Lib in
theorem Tryz.strconv_Itoa (n : Int) (h0 : -9223372036854775808 ≤ n) (h1 : n ≤ 9223372036854775807) (w : World) (htab : Lib.TabIs Tryz.prog w "internal/strconv.uint64pow10" .u64 Lib.pow10Tab) :
    Calls Tryz.prog 106 #[.int .i64 n] w fun e w' => e = .returned (.string ⟨(Lib.itoa n).toArray⟩) ∧ ∃ k os, w' = grow (w.drewN k) os := Any.strconv_Itoa Tryz.laysM171 n h0 h1 w htab
def Tryz.laysC172_ren : Go.Shelf.Ren := ⟨fun | 172 => 163 | 244 => 177 | 245 => 178 | 247 => 196 | 279 => 197 | 280 => 198 | 281 => 199 | 282 => 200 | 287 => 211 | 316 => 212 | 171 => 106 | 205 => 213 | 321 => 216 | 322 => 217 | 243 => 145 | 246 => 168 | 283 => 182 | 284 => 183 | 285 => 184 | 286 => 185 | 129 => 205 | 317 => 204 | 318 => 206 | 319 => 207 | 320 => 208 | 337 => 214 | 338 => 215 | n => n, fun | 9 => 9 | 3 => 3 | 75 => 169 | 76 => 170 | 4 => 4 | 5 => 5 | 167 => 215 | 37 => 22 | 0 => 0 | 85 => 216 | 2 => 2 | 168 => 218 | 53 => 66 | 175 => 232 | 46 => 161 | 210 => 236 | 127 => 187 | 145 => 242 | 143 => 240 | 21 => 21 | 171 => 208 | 173 => 211 | 212 => 223 | 51 => 182 | 20 => 20 | 213 => 224 | 232 => 243 | 233 => 244 | 80 => 121 | n => n, fun | 15 => 4 | 16 => 5 | 17 => 1 | 18 => 6 | 19 => 7 | n => n⟩
theorem Tryz.laysC172 : Go.Proofs.LaysC.n172 Tryz.prog Tryz.laysC172_ren := {
  mixed := by kernel_rfl
  f129 := Tryz.func205.trans (congrArg some (by kernel_rfl))
  f171 := Tryz.func106.trans (congrArg some (by kernel_rfl))
  f172 := Tryz.func163.trans (congrArg some (by kernel_rfl))
  f205 := Tryz.func213.trans (congrArg some (by kernel_rfl))
  f243 := Tryz.func145.trans (congrArg some (by kernel_rfl))
  f244 := Tryz.func177.trans (congrArg some (by kernel_rfl))
  f245 := Tryz.func178.trans (congrArg some (by kernel_rfl))
  f246 := Tryz.func168.trans (congrArg some (by kernel_rfl))
  f247 := Tryz.func196.trans (congrArg some (by kernel_rfl))
  f279 := Tryz.func197.trans (congrArg some (by kernel_rfl))
  f280 := Tryz.func198.trans (congrArg some (by kernel_rfl))
  f281 := Tryz.func199.trans (congrArg some (by kernel_rfl))
  f282 := Tryz.func200.trans (congrArg some (by kernel_rfl))
  f283 := Tryz.func182.trans (congrArg some (by kernel_rfl))
  f284 := Tryz.func183.trans (congrArg some (by kernel_rfl))
  f285 := Tryz.func184.trans (congrArg some (by kernel_rfl))
  f286 := Tryz.func185.trans (congrArg some (by kernel_rfl))
  f287 := Tryz.func211.trans (congrArg some (by kernel_rfl))
  f316 := Tryz.func212.trans (congrArg some (by kernel_rfl))
  f317 := Tryz.func204.trans (congrArg some (by kernel_rfl))
  f318 := Tryz.func206.trans (congrArg some (by kernel_rfl))
  f319 := Tryz.func207.trans (congrArg some (by kernel_rfl))
  f320 := Tryz.func208.trans (congrArg some (by kernel_rfl))
  f321 := Tryz.func216.trans (congrArg some (by kernel_rfl))
  f322 := Tryz.func217.trans (congrArg some (by kernel_rfl))
  f337 := Tryz.func214.trans (congrArg some (by kernel_rfl))
  f338 := Tryz.func215.trans (congrArg some (by kernel_rfl))
  t0 := Tryz.underlying0
  a0 := Tryz.isAgg0
  z0 := Tryz.sizeOf0
  v0 := Tryz.zeroValue0
  t2 := Tryz.underlying2
  a2 := Tryz.isAgg2
  z2 := Tryz.sizeOf2
  v2 := Tryz.zeroValue2
  t3 := Tryz.underlying3
  a3 := Tryz.isAgg3
  z3 := Tryz.sizeOf3
  v3 := Tryz.zeroValue3
  t4 := Tryz.underlying4
  a4 := Tryz.isAgg4
  z4 := Tryz.sizeOf4
  v4 := Tryz.zeroValue4
  t5 := Tryz.underlying5
  a5 := Tryz.isAgg5
  z5 := Tryz.sizeOf5
  v5 := Tryz.zeroValue5
  t9 := Tryz.underlying9
  a9 := Tryz.isAgg9
  z9 := Tryz.sizeOf9
  v9 := Tryz.zeroValue9
  t20 := Tryz.underlying20
  a20 := Tryz.isAgg20
  z20 := Tryz.sizeOf20
  v20 := Tryz.zeroValue20
  t21 := Tryz.underlying21
  a21 := Tryz.isAgg21
  z21 := Tryz.sizeOf21
  v21 := Tryz.zeroValue21
  t37 := Tryz.underlying22
  a37 := Tryz.isAgg22
  z37 := Tryz.sizeOf22
  v37 := Tryz.zeroValue22
  t46 := Tryz.underlying161
  a46 := Tryz.isAgg161
  z46 := Tryz.sizeOf161
  v46 := Tryz.zeroValue161
  t51 := Tryz.underlying182
  a51 := Tryz.isAgg182
  z51 := Tryz.sizeOf182
  v51 := Tryz.zeroValue182
  t53 := Tryz.underlying66
  a53 := Tryz.isAgg66
  z53 := Tryz.sizeOf66
  v53 := Tryz.zeroValue66
  t75 := Tryz.underlying169
  a75 := Tryz.isAgg169
  z75 := Tryz.sizeOf169
  v75 := Tryz.zeroValue169
  t76 := Tryz.underlying170
  a76 := Tryz.isAgg170
  z76 := Tryz.sizeOf170
  v76 := Tryz.zeroValue170
  t85 := Tryz.underlying216
  a85 := Tryz.isAgg216
  z85 := Tryz.sizeOf216
  v85 := Tryz.zeroValue216
  t127 := Tryz.underlying187
  a127 := Tryz.isAgg187
  z127 := Tryz.sizeOf187
  v127 := Tryz.zeroValue187
  t143 := Tryz.underlying240
  a143 := Tryz.isAgg240
  z143 := Tryz.sizeOf240
  v143 := Tryz.zeroValue240
  t145 := Tryz.underlying242
  a145 := Tryz.isAgg242
  z145 := Tryz.sizeOf242
  v145 := Tryz.zeroValue242
  t167 := Tryz.underlying215
  a167 := Tryz.isAgg215
  z167 := Tryz.sizeOf215
  v167 := Tryz.zeroValue215
  t168 := Tryz.underlying218
  a168 := Tryz.isAgg218
  z168 := Tryz.sizeOf218
  v168 := Tryz.zeroValue218
  t171 := Tryz.underlying208
  a171 := Tryz.isAgg208
  z171 := Tryz.sizeOf208
  v171 := Tryz.zeroValue208
  t173 := Tryz.underlying211
  a173 := Tryz.isAgg211
  z173 := Tryz.sizeOf211
  v173 := Tryz.zeroValue211
  t175 := Tryz.underlying232
  a175 := Tryz.isAgg232
  z175 := Tryz.sizeOf232
  v175 := Tryz.zeroValue232
  t210 := Tryz.underlying236
  a210 := Tryz.isAgg236
  z210 := Tryz.sizeOf236
  v210 := Tryz.zeroValue236
  t212 := Tryz.underlying223
  a212 := Tryz.isAgg223
  z212 := Tryz.sizeOf223
  v212 := Tryz.zeroValue223
  t213 := Tryz.underlying224
  a213 := Tryz.isAgg224
  z213 := Tryz.sizeOf224
  t232 := Tryz.underlying243
  a232 := Tryz.isAgg243
  z232 := Tryz.sizeOf243
  v232 := Tryz.zeroValue243
  t233 := Tryz.underlying244
  a233 := Tryz.isAgg244
  z233 := Tryz.sizeOf244
  v233 := Tryz.zeroValue244
  g15 := by kernel_rfl
  g16 := by kernel_rfl
  g17 := by kernel_rfl
  g18 := by kernel_rfl
  g19 := by kernel_rfl
  t80 := Tryz.underlying121
  a80 := Tryz.isAgg121
  z80 := Tryz.sizeOf121
  v80 := Tryz.zeroValue121
  i0 := by kernel_rfl
  i2 := by kernel_rfl
  i3 := by kernel_rfl
  i4 := by kernel_rfl
  i5 := by kernel_rfl
  i9 := by kernel_rfl
  i20 := by kernel_rfl
  i21 := by kernel_rfl
  i37 := by kernel_rfl
  i46 := by kernel_rfl
  i51 := by kernel_rfl
  i53 := by kernel_rfl
  i75 := by kernel_rfl
  i76 := by kernel_rfl
  i80 := by kernel_rfl
  i85 := by kernel_rfl
  i127 := by kernel_rfl
  i143 := by kernel_rfl
  i145 := by kernel_rfl
  i167 := by kernel_rfl
  i168 := by kernel_rfl
  i171 := by kernel_rfl
  i173 := by kernel_rfl
  i175 := by kernel_rfl
  i210 := by kernel_rfl
  i212 := by kernel_rfl
  i232 := by kernel_rfl
  i233 := by kernel_rfl
  m15 := by kernel_rfl
  m16 := by kernel_rfl
  m17 := by kernel_rfl
  m18 := by kernel_rfl
  m19 := by kernel_rfl
  c0 := by kernel_rfl
  c2 := by kernel_rfl
  c3 := by kernel_rfl
  c4 := by kernel_rfl
  c5 := by kernel_rfl
  c9 := by kernel_rfl
  c20 := by kernel_rfl
  c21 := by kernel_rfl
  c37 := by kernel_rfl
  c46 := by kernel_rfl
  c51 := by kernel_rfl
  c53 := by kernel_rfl
  c75 := by kernel_rfl
  c76 := by kernel_rfl
  c80 := by kernel_rfl
  c85 := by kernel_rfl
  c127 := by kernel_rfl
  c143 := by kernel_rfl
  c145 := by kernel_rfl
  c167 := by kernel_rfl
  c168 := by kernel_rfl
  c171 := by kernel_rfl
  c173 := by kernel_rfl
  c175 := by kernel_rfl
  c210 := by kernel_rfl
  c212 := by kernel_rfl
  c213 := by kernel_rfl
  c232 := by kernel_rfl
  c233 := by kernel_rfl }
open Go.RowKit in
theorem Tryz.strconv_Atoi_ok (s : ByteArray) (hmax : s.size ≤ 9223372036854775806) (v : Int) (h : Lib.atoiAll s.data.toList = .ok v) (w : World) :
    Calls Tryz.prog 163 #[.string s] w fun e w' => e = .returned (.tuple #[.int .i64 v, .nilIface]) ∧ (w' = w ∨ ∃ t, w' = Lib.bytesWorld w 5 t) := Any.strconv_Atoi_ok Tryz.laysC172 s hmax v h w
open Go.RowKit in
theorem Tryz.strconv_Atoi_syntax (s : ByteArray) (hlim : s.size ≤ 281474976710656) (h : Lib.atoiAll s.data.toList = .syntax) (ev : Value) (w : World) (hv : w.cell? ⟨4, 0, none⟩ = some ev) (hev : ev = .nilIface ∨ ∃ te pe, ev = .iface te pe) :
    Calls Tryz.prog 163 #[.string s] w fun e w' => ∃ N, e = .returned (.tuple #[.int .i64 (0), .iface 218 (.pointer (some ⟨N, 0, none⟩))]) ∧ w.heap.size ≤ N ∧ w'.heap[N]? = some (.cells #[.string ⟨#[65, 116, 111, 105]⟩, .string s, ev] 236 (0, 0)) ∧ Below w.heap.size w w' := Any.strconv_Atoi_syntax Tryz.laysC172 s hlim h ev w hv hev
open Go.RowKit in
theorem Tryz.strconv_Atoi_range (s : ByteArray) (hlim : s.size ≤ 281474976710656) (h : Lib.atoiAll s.data.toList = .range) (ev : Value) (w : World) (hv : w.cell? ⟨5, 0, none⟩ = some ev) (hev : ev = .nilIface ∨ ∃ te pe, ev = .iface te pe) :
    Calls Tryz.prog 163 #[.string s] w fun e w' => ∃ N, e = .returned (.tuple #[.int .i64 (Lib.atoiSat s.data.toList), .iface 218 (.pointer (some ⟨N, 0, none⟩))]) ∧ w.heap.size ≤ N ∧ w'.heap[N]? = some (.cells #[.string ⟨#[65, 116, 111, 105]⟩, .string s, ev] 236 (0, 0)) ∧ Below w.heap.size w w' := Any.strconv_Atoi_range Tryz.laysC172 s hlim h ev w hv hev
def Tryz.lays144_ren : Go.Shelf.Ren := ⟨fun | 144 => 162 | 143 => 172 | 219 => 169 | 217 => 186 | 225 => 187 | 224 => 188 | 267 => 189 | 266 => 209 | 314 => 210 | n => n, fun | 9 => 9 | 4 => 4 | 3 => 3 | 5 => 5 | 46 => 161 | 146 => 183 | 51 => 182 | n => n, fun | 1 => 0 | n => n⟩
theorem Tryz.lays144 : Go.Proofs.Lays.n144 Tryz.prog Tryz.lays144_ren := {
  mixed := by kernel_rfl
  f143 := Tryz.func172.trans (congrArg some (by kernel_rfl))
  f144 := Tryz.func162.trans (congrArg some (by kernel_rfl))
  f217 := Tryz.func186.trans (congrArg some (by kernel_rfl))
  f219 := Tryz.func169.trans (congrArg some (by kernel_rfl))
  f224 := Tryz.func188.trans (congrArg some (by kernel_rfl))
  f225 := Tryz.func187.trans (congrArg some (by kernel_rfl))
  f266 := Tryz.func209.trans (congrArg some (by kernel_rfl))
  f267 := Tryz.func189.trans (congrArg some (by kernel_rfl))
  f314 := Tryz.func210.trans (congrArg some (by kernel_rfl))
  t3 := Tryz.underlying3
  a3 := Tryz.isAgg3
  z3 := Tryz.sizeOf3
  v3 := Tryz.zeroValue3
  t4 := Tryz.underlying4
  a4 := Tryz.isAgg4
  z4 := Tryz.sizeOf4
  v4 := Tryz.zeroValue4
  t5 := Tryz.underlying5
  a5 := Tryz.isAgg5
  z5 := Tryz.sizeOf5
  v5 := Tryz.zeroValue5
  t9 := Tryz.underlying9
  a9 := Tryz.isAgg9
  z9 := Tryz.sizeOf9
  v9 := Tryz.zeroValue9
  t46 := Tryz.underlying161
  a46 := Tryz.isAgg161
  z46 := Tryz.sizeOf161
  v46 := Tryz.zeroValue161
  t51 := Tryz.underlying182
  a51 := Tryz.isAgg182
  z51 := Tryz.sizeOf182
  v51 := Tryz.zeroValue182
  t146 := Tryz.underlying183
  a146 := Tryz.isAgg183
  z146 := Tryz.sizeOf183
  v146 := Tryz.zeroValue183
  g1 := by kernel_rfl }
open Go.RowKit Go.Lib in
theorem Tryz.strings_Contains (s sub : ByteArray) (m : Int) (w : World) (hs : s.size < 4294967281) (hm : w.cell? ⟨0, 0, none⟩ = some (.int .i64 m)) :
    Calls Tryz.prog 162 #[.string s, .string sub] w fun e w' => e = .returned (.bool (Lib.contains s.data.toList sub.data.toList)) ∧ w' = w := Any.strings_Contains Tryz.lays144 s sub m w hs hm
def Tryz.lays145_ren : Go.Shelf.Ren := ⟨fun | 145 => 112 | 220 => 150 | 219 => 169 | 217 => 186 | 225 => 187 | 224 => 188 | 267 => 189 | 266 => 209 | 314 => 210 | n => n, fun | 9 => 9 | 4 => 4 | 59 => 155 | 3 => 3 | 5 => 5 | 46 => 161 | 146 => 183 | 51 => 182 | n => n, fun | 1 => 0 | n => n⟩
theorem Tryz.lays145 : Go.Proofs.Lays.n145 Tryz.prog Tryz.lays145_ren := {
  mixed := by kernel_rfl
  f145 := Tryz.func112.trans (congrArg some (by kernel_rfl))
  f217 := Tryz.func186.trans (congrArg some (by kernel_rfl))
  f219 := Tryz.func169.trans (congrArg some (by kernel_rfl))
  f220 := Tryz.func150.trans (congrArg some (by kernel_rfl))
  f224 := Tryz.func188.trans (congrArg some (by kernel_rfl))
  f225 := Tryz.func187.trans (congrArg some (by kernel_rfl))
  f266 := Tryz.func209.trans (congrArg some (by kernel_rfl))
  f267 := Tryz.func189.trans (congrArg some (by kernel_rfl))
  f314 := Tryz.func210.trans (congrArg some (by kernel_rfl))
  t3 := Tryz.underlying3
  a3 := Tryz.isAgg3
  z3 := Tryz.sizeOf3
  v3 := Tryz.zeroValue3
  t4 := Tryz.underlying4
  a4 := Tryz.isAgg4
  z4 := Tryz.sizeOf4
  v4 := Tryz.zeroValue4
  t5 := Tryz.underlying5
  a5 := Tryz.isAgg5
  z5 := Tryz.sizeOf5
  v5 := Tryz.zeroValue5
  t9 := Tryz.underlying9
  a9 := Tryz.isAgg9
  z9 := Tryz.sizeOf9
  v9 := Tryz.zeroValue9
  t46 := Tryz.underlying161
  a46 := Tryz.isAgg161
  z46 := Tryz.sizeOf161
  v46 := Tryz.zeroValue161
  t51 := Tryz.underlying182
  a51 := Tryz.isAgg182
  z51 := Tryz.sizeOf182
  v51 := Tryz.zeroValue182
  t59 := Tryz.underlying155
  a59 := Tryz.isAgg155
  z59 := Tryz.sizeOf155
  v59 := Tryz.zeroValue155
  t146 := Tryz.underlying183
  a146 := Tryz.isAgg183
  z146 := Tryz.sizeOf183
  v146 := Tryz.zeroValue183
  g1 := by kernel_rfl }
open Go.RowKit Go.Lib in
theorem Tryz.strings_Cut (s sep : ByteArray) (m : Int) (w : World) (hs : s.size < 4294967281) (hm : w.cell? ⟨0, 0, none⟩ = some (.int .i64 m)) :
    Calls Tryz.prog 112 #[.string s, .string sep] w fun e w' => e = .returned (.tuple #[.string ⟨(Lib.cut s.data.toList sep.data.toList).1.toArray⟩, .string ⟨(Lib.cut s.data.toList sep.data.toList).2.1.toArray⟩, .bool (Lib.cut s.data.toList sep.data.toList).2.2]) ∧ ∃ n, w' = w.drewN n := Any.strings_Cut Tryz.lays145 s sep m w hs hm
def Tryz.lays99_ren : Go.Shelf.Ren := ⟨fun | 99 => 129 | 206 => 158 | n => n, fun | 9 => 9 | 4 => 4 | 3 => 3 | n => n, fun | n => n⟩
theorem Tryz.lays99 : Go.Proofs.Lays.n99 Tryz.prog Tryz.lays99_ren := {
  mixed := by kernel_rfl
  f99 := Tryz.func129.trans (congrArg some (by kernel_rfl))
  f206 := Tryz.func158.trans (congrArg some (by kernel_rfl))
  t3 := Tryz.underlying3
  a3 := Tryz.isAgg3
  z3 := Tryz.sizeOf3
  v3 := Tryz.zeroValue3
  t4 := Tryz.underlying4
  a4 := Tryz.isAgg4
  z4 := Tryz.sizeOf4
  v4 := Tryz.zeroValue4
  t9 := Tryz.underlying9
  a9 := Tryz.isAgg9
  z9 := Tryz.sizeOf9
  v9 := Tryz.zeroValue9 }
open Go.RowKit Go.Lib in
theorem Tryz.strings_HasPrefix (s p : ByteArray) (w : World) :
    Calls Tryz.prog 129 #[.string s, .string p] w fun e w' => e = .returned (.bool (Lib.hasPrefix s.data.toList p.data.toList)) ∧ w' = w := Any.strings_HasPrefix Tryz.lays99 s p w
def Tryz.lays155_ren : Go.Shelf.Ren := ⟨fun | 155 => 120 | 154 => 153 | 138 => 171 | 165 => 130 | 143 => 172 | 166 => 131 | 197 => 173 | 169 => 133 | 195 => 191 | 218 => 192 | 240 => 159 | 241 => 160 | 219 => 169 | 260 => 193 | 276 => 175 | 277 => 176 | 217 => 186 | 225 => 187 | 224 => 188 | 267 => 189 | 266 => 209 | 314 => 210 | n => n, fun | 9 => 9 | 3 => 3 | 4 => 4 | 72 => 167 | 0 => 0 | 76 => 170 | 105 => 200 | 21 => 21 | 5 => 5 | 70 => 165 | 20 => 20 | 37 => 22 | 75 => 169 | 127 => 187 | 164 => 202 | 46 => 161 | 119 => 228 | 139 => 231 | 138 => 230 | 146 => 183 | 51 => 182 | 80 => 121 | n => n, fun | 1 => 0 | 3 => 2 | 4 => 3 | n => n⟩
theorem Tryz.lays155 : Go.Proofs.Lays.n155 Tryz.prog Tryz.lays155_ren := {
  mixed := by kernel_rfl
  f138 := Tryz.func171.trans (congrArg some (by kernel_rfl))
  f143 := Tryz.func172.trans (congrArg some (by kernel_rfl))
  f154 := Tryz.func153.trans (congrArg some (by kernel_rfl))
  f155 := Tryz.func120.trans (congrArg some (by kernel_rfl))
  f165 := Tryz.func130.trans (congrArg some (by kernel_rfl))
  f166 := Tryz.func131.trans (congrArg some (by kernel_rfl))
  f169 := Tryz.func133.trans (congrArg some (by kernel_rfl))
  f195 := Tryz.func191.trans (congrArg some (by kernel_rfl))
  f197 := Tryz.func173.trans (congrArg some (by kernel_rfl))
  f217 := Tryz.func186.trans (congrArg some (by kernel_rfl))
  f218 := Tryz.func192.trans (congrArg some (by kernel_rfl))
  f219 := Tryz.func169.trans (congrArg some (by kernel_rfl))
  f224 := Tryz.func188.trans (congrArg some (by kernel_rfl))
  f225 := Tryz.func187.trans (congrArg some (by kernel_rfl))
  f240 := Tryz.func159.trans (congrArg some (by kernel_rfl))
  f241 := Tryz.func160.trans (congrArg some (by kernel_rfl))
  f260 := Tryz.func193.trans (congrArg some (by kernel_rfl))
  f266 := Tryz.func209.trans (congrArg some (by kernel_rfl))
  f267 := Tryz.func189.trans (congrArg some (by kernel_rfl))
  f276 := Tryz.func175.trans (congrArg some (by kernel_rfl))
  f277 := Tryz.func176.trans (congrArg some (by kernel_rfl))
  f314 := Tryz.func210.trans (congrArg some (by kernel_rfl))
  t0 := Tryz.underlying0
  a0 := Tryz.isAgg0
  z0 := Tryz.sizeOf0
  v0 := Tryz.zeroValue0
  t3 := Tryz.underlying3
  a3 := Tryz.isAgg3
  z3 := Tryz.sizeOf3
  v3 := Tryz.zeroValue3
  t4 := Tryz.underlying4
  a4 := Tryz.isAgg4
  z4 := Tryz.sizeOf4
  v4 := Tryz.zeroValue4
  t5 := Tryz.underlying5
  a5 := Tryz.isAgg5
  z5 := Tryz.sizeOf5
  v5 := Tryz.zeroValue5
  t9 := Tryz.underlying9
  a9 := Tryz.isAgg9
  z9 := Tryz.sizeOf9
  v9 := Tryz.zeroValue9
  t20 := Tryz.underlying20
  a20 := Tryz.isAgg20
  z20 := Tryz.sizeOf20
  v20 := Tryz.zeroValue20
  t21 := Tryz.underlying21
  a21 := Tryz.isAgg21
  z21 := Tryz.sizeOf21
  v21 := Tryz.zeroValue21
  t37 := Tryz.underlying22
  a37 := Tryz.isAgg22
  z37 := Tryz.sizeOf22
  v37 := Tryz.zeroValue22
  t46 := Tryz.underlying161
  a46 := Tryz.isAgg161
  z46 := Tryz.sizeOf161
  v46 := Tryz.zeroValue161
  t51 := Tryz.underlying182
  a51 := Tryz.isAgg182
  z51 := Tryz.sizeOf182
  v51 := Tryz.zeroValue182
  t70 := Tryz.underlying165
  a70 := Tryz.isAgg165
  z70 := Tryz.sizeOf165
  v70 := Tryz.zeroValue165
  t72 := Tryz.underlying167
  a72 := Tryz.isAgg167
  z72 := Tryz.sizeOf167
  v72 := Tryz.zeroValue167
  t75 := Tryz.underlying169
  a75 := Tryz.isAgg169
  z75 := Tryz.sizeOf169
  v75 := Tryz.zeroValue169
  t76 := Tryz.underlying170
  a76 := Tryz.isAgg170
  z76 := Tryz.sizeOf170
  v76 := Tryz.zeroValue170
  t105 := Tryz.underlying200
  a105 := Tryz.isAgg200
  z105 := Tryz.sizeOf200
  v105 := Tryz.zeroValue200
  t119 := Tryz.underlying228
  a119 := Tryz.isAgg228
  z119 := Tryz.sizeOf228
  t127 := Tryz.underlying187
  a127 := Tryz.isAgg187
  z127 := Tryz.sizeOf187
  v127 := Tryz.zeroValue187
  t138 := Tryz.underlying230
  a138 := Tryz.isAgg230
  z138 := Tryz.sizeOf230
  v138 := Tryz.zeroValue230
  t139 := Tryz.underlying231
  a139 := Tryz.isAgg231
  z139 := Tryz.sizeOf231
  v139 := Tryz.zeroValue231
  t146 := Tryz.underlying183
  a146 := Tryz.isAgg183
  z146 := Tryz.sizeOf183
  v146 := Tryz.zeroValue183
  t164 := Tryz.underlying202
  a164 := Tryz.isAgg202
  z164 := Tryz.sizeOf202
  v164 := Tryz.zeroValue202
  g1 := by kernel_rfl
  g3 := by kernel_rfl
  g4 := by kernel_rfl }
theorem Tryz.Builder_Extra_155 : Builder.Extra Tryz.prog Tryz.lays155_ren := {
  sizeBuilder := by kernel_rfl
  liesBuilder := by kernel_rfl
  t5 := Tryz.underlying5
  a5 := Tryz.isAgg5
  z5 := Tryz.sizeOf5
  v5 := Tryz.zeroValue5
  infoByte := by kernel_rfl
  cellsByte := by kernel_rfl
  sizeByte := by kernel_rfl
  neB5 := by decide }
open Go.RowKit Go.Lib in
theorem Tryz.strings_ReplaceAll (s old new : ByteArray) (m : Int) (w : World) (hs : s.size < 4294967281) (hm : w.cell? ⟨0, 0, none⟩ = some (.int .i64 m)) (h1 : 1 ≤ old.size) (hlen : s.size + Lib.countB s old * new.size ≤ 140737488355328) :
    Calls Tryz.prog 120 #[.string s, .string old, .string new] w fun e w' =>
      e = .returned (.string ⟨(Lib.replaceAll s.data.toList old.data.toList new.data.toList).toArray⟩) ∧ Below w.heap.size w w' := Any.strings_ReplaceAll Tryz.lays155 Tryz.Builder_Extra_155 s old new m w hs hm h1 hlen
def Tryz.lays105_ren : Go.Shelf.Ren := ⟨fun | 105 => 94 | 212 => 128 | 99 => 129 | 165 => 130 | 166 => 131 | 170 => 132 | 169 => 133 | 263 => 156 | 264 => 157 | 206 => 158 | 240 => 159 | 241 => 160 | 276 => 175 | 277 => 176 | n => n, fun | 9 => 9 | 3 => 3 | 4 => 4 | 20 => 20 | 0 => 0 | 46 => 161 | 109 => 162 | 5 => 5 | 72 => 167 | 76 => 170 | 51 => 182 | 146 => 183 | 53 => 66 | 148 => 185 | 70 => 165 | 37 => 22 | 75 => 169 | 127 => 187 | 164 => 202 | 80 => 121 | n => n, fun | n => n⟩
theorem Tryz.lays105 : Go.Proofs.Lays.n105 Tryz.prog Tryz.lays105_ren := {
  mixed := by kernel_rfl
  f99 := Tryz.func129.trans (congrArg some (by kernel_rfl))
  f105 := Tryz.func94.trans (congrArg some (by kernel_rfl))
  f165 := Tryz.func130.trans (congrArg some (by kernel_rfl))
  f166 := Tryz.func131.trans (congrArg some (by kernel_rfl))
  f169 := Tryz.func133.trans (congrArg some (by kernel_rfl))
  f170 := Tryz.func132.trans (congrArg some (by kernel_rfl))
  f206 := Tryz.func158.trans (congrArg some (by kernel_rfl))
  f212 := Tryz.func128.trans (congrArg some (by kernel_rfl))
  f240 := Tryz.func159.trans (congrArg some (by kernel_rfl))
  f241 := Tryz.func160.trans (congrArg some (by kernel_rfl))
  f263 := Tryz.func156.trans (congrArg some (by kernel_rfl))
  f264 := Tryz.func157.trans (congrArg some (by kernel_rfl))
  f276 := Tryz.func175.trans (congrArg some (by kernel_rfl))
  f277 := Tryz.func176.trans (congrArg some (by kernel_rfl))
  t0 := Tryz.underlying0
  a0 := Tryz.isAgg0
  z0 := Tryz.sizeOf0
  v0 := Tryz.zeroValue0
  t3 := Tryz.underlying3
  a3 := Tryz.isAgg3
  z3 := Tryz.sizeOf3
  v3 := Tryz.zeroValue3
  t4 := Tryz.underlying4
  a4 := Tryz.isAgg4
  z4 := Tryz.sizeOf4
  v4 := Tryz.zeroValue4
  t5 := Tryz.underlying5
  a5 := Tryz.isAgg5
  z5 := Tryz.sizeOf5
  v5 := Tryz.zeroValue5
  t9 := Tryz.underlying9
  a9 := Tryz.isAgg9
  z9 := Tryz.sizeOf9
  v9 := Tryz.zeroValue9
  t20 := Tryz.underlying20
  a20 := Tryz.isAgg20
  z20 := Tryz.sizeOf20
  v20 := Tryz.zeroValue20
  t37 := Tryz.underlying22
  a37 := Tryz.isAgg22
  z37 := Tryz.sizeOf22
  v37 := Tryz.zeroValue22
  t46 := Tryz.underlying161
  a46 := Tryz.isAgg161
  z46 := Tryz.sizeOf161
  v46 := Tryz.zeroValue161
  t51 := Tryz.underlying182
  a51 := Tryz.isAgg182
  z51 := Tryz.sizeOf182
  v51 := Tryz.zeroValue182
  t53 := Tryz.underlying66
  a53 := Tryz.isAgg66
  z53 := Tryz.sizeOf66
  v53 := Tryz.zeroValue66
  t70 := Tryz.underlying165
  a70 := Tryz.isAgg165
  z70 := Tryz.sizeOf165
  v70 := Tryz.zeroValue165
  t72 := Tryz.underlying167
  a72 := Tryz.isAgg167
  z72 := Tryz.sizeOf167
  v72 := Tryz.zeroValue167
  t75 := Tryz.underlying169
  a75 := Tryz.isAgg169
  z75 := Tryz.sizeOf169
  v75 := Tryz.zeroValue169
  t76 := Tryz.underlying170
  a76 := Tryz.isAgg170
  z76 := Tryz.sizeOf170
  v76 := Tryz.zeroValue170
  t109 := Tryz.underlying162
  a109 := Tryz.isAgg162
  z109 := Tryz.sizeOf162
  v109 := Tryz.zeroValue162
  t127 := Tryz.underlying187
  a127 := Tryz.isAgg187
  z127 := Tryz.sizeOf187
  v127 := Tryz.zeroValue187
  t146 := Tryz.underlying183
  a146 := Tryz.isAgg183
  z146 := Tryz.sizeOf183
  v146 := Tryz.zeroValue183
  t148 := Tryz.underlying185
  a148 := Tryz.isAgg185
  z148 := Tryz.sizeOf185
  v148 := Tryz.zeroValue185
  t164 := Tryz.underlying202
  a164 := Tryz.isAgg202
  z164 := Tryz.sizeOf202
  v164 := Tryz.zeroValue202 }
theorem Tryz.Builder_Extra_105 : Builder.Extra Tryz.prog Tryz.lays105_ren := {
  sizeBuilder := by kernel_rfl
  liesBuilder := by kernel_rfl
  t5 := Tryz.underlying5
  a5 := Tryz.isAgg5
  z5 := Tryz.sizeOf5
  v5 := Tryz.zeroValue5
  infoByte := by kernel_rfl
  cellsByte := by kernel_rfl
  sizeByte := by kernel_rfl
  neB5 := by decide }
open Go.RowKit Go.Lib in
theorem Tryz.strings_Repeat (s : ByteArray) (c : Nat) (w : World) (hc : c ≤ 9223372036854775807) (hlen : s.size * c ≤ 140737488355328) :
    Calls Tryz.prog 94 #[.string s, .int .i64 c] w fun e w' => e = .returned (.string ⟨(Lib.repeatL s.data.toList c).toArray⟩) ∧ Below w.heap.size w w' := Any.strings_Repeat Tryz.lays105 Tryz.Builder_Extra_105 s c w hc hlen
end Go.Proofs
namespace Go.Proofs.YtfbcnpbhhooapaaGreatDoor.M
set_option linter.unusedVariables false
open Go Classical
theorem compC_slices_Clone_int_int : comp Tryz.prog Tryz.f144 = some ⟨1, 8, cloneC 1 8 [.int .i64 0], [.t 2]⟩ := by kernel_rfl
theorem extsOk [Base] (hT : Lib.TabIs Tryz.prog Base.base "internal/strconv.uint64pow10" .u64 Lib.pow10Tab) (hM : ∃ m, Base.base.cell? ⟨0, 0, none⟩ = some (.int .i64 m)) (hS : ∃ te pe, Base.base.cell? ⟨4, 0, none⟩ = some (.iface te pe)) (hR : ∃ te pe, Base.base.cell? ⟨5, 0, none⟩ = some (.iface te pe)) : ∀ (f : Nat) (y : XF), exts f = some y → XOk Tryz.prog f y := fun f y h => by
  unfold exts at h
  by_cases e106 : f = 106
  · subst e106
    rw [if_pos rfl] at h
    obtain rfl := Option.some.inj h
    exact itoa_ext Tryz.func106 rfl (by decide) hT (fun n h0 h1 w hT => Tryz.strconv_Itoa n h0 h1 w hT)
  rw [if_neg e106] at h
  by_cases e108 : f = 108
  · subst e108
    rw [if_pos rfl] at h
    obtain rfl := Option.some.inj h
    exact bool_ext Tryz.func108 rfl (by decide) (fun b w => Tryz.strconv_FormatBool b w)
  rw [if_neg e108] at h
  by_cases e94 : f = 94
  · subst e94
    rw [if_pos rfl] at h
    obtain rfl := Option.some.inj h
    exact repeat_ext Tryz.func94 rfl (by decide) (fun s c w h1 h2 => Tryz.strings_Repeat s c w h1 h2)
  rw [if_neg e94] at h
  by_cases e112 : f = 112
  · subst e112
    rw [if_pos rfl] at h
    obtain rfl := Option.some.inj h
    exact cut_ext Tryz.func112 rfl (by decide) hM (fun s p m w h1 h2 => Tryz.strings_Cut s p m w h1 h2)
  rw [if_neg e112] at h
  by_cases e179 : f = 179
  · subst e179
    rw [if_pos rfl] at h
    obtain rfl := Option.some.inj h
    exact index_ext Tryz.func179 rfl (by decide) (fun s c w => Tryz.strings_IndexByte s c w)
  rw [if_neg e179] at h
  by_cases e129 : f = 129
  · subst e129
    rw [if_pos rfl] at h
    obtain rfl := Option.some.inj h
    exact prefix_ext Tryz.func129 rfl (by decide) (fun s p w => Tryz.strings_HasPrefix s p w)
  rw [if_neg e129] at h
  by_cases e162 : f = 162
  · subst e162
    rw [if_pos rfl] at h
    obtain rfl := Option.some.inj h
    exact contains_ext Tryz.func162 rfl (by decide) hM (fun s p m w h1 h2 => Tryz.strings_Contains s p m w h1 h2)
  rw [if_neg e162] at h
  by_cases e120 : f = 120
  · subst e120
    rw [if_pos rfl] at h
    obtain rfl := Option.some.inj h
    exact replace_ext Tryz.func120 rfl (by decide) hM (fun s o n m w h1 h2 h3 h4 => Tryz.strings_ReplaceAll s o n m w h1 h2 h3 h4)
  rw [if_neg e120] at h
  by_cases e163 : f = 163
  · subst e163
    rw [if_pos rfl] at h
    obtain rfl := Option.some.inj h
    exact atoi_ext Tryz.func163 rfl (by decide) hS hR (fun s v w h1 h2 => Tryz.strconv_Atoi_ok s h1 v h2 w) (fun s te pe w h1 h2 h3 => (Tryz.strconv_Atoi_syntax s h1 h2 _ w h3 (.inr ⟨_, _, rfl⟩)).mono fun e w' ⟨N, he, _, _, hb⟩ => ⟨_, he, hb⟩) (fun s te pe w h1 h2 h3 => (Tryz.strconv_Atoi_range s h1 h2 _ w h3 (.inr ⟨_, _, rfl⟩)).mono fun e w' ⟨N, he, _, _, hb⟩ => ⟨_, he, hb⟩)
  rw [if_neg e163] at h
  by_cases e144 : f = 144
  · subst e144
    rw [if_pos rfl] at h
    obtain rfl := Option.some.inj h
    exact clone_ext (by kernel_rfl) Tryz.func144 compC_slices_Clone_int_int (by decide)
  rw [if_neg e144] at h
  by_cases e36 : f = 36
  · subst e36
    rw [if_pos rfl] at h
    obtain rfl := Option.some.inj h
    exact rcvOk_Q36
  rw [if_neg e36] at h
  by_cases e47 : f = 47
  · subst e47
    rw [if_pos rfl] at h
    obtain rfl := Option.some.inj h
    exact begin_orc
  rw [if_neg e47] at h
  cases h
end Go.Proofs.YtfbcnpbhhooapaaGreatDoor.M
namespace Go.Proofs.YtfbcnpbhhooapaaGreatDoor.M
set_option linter.unusedSimpArgs false
set_option linter.unusedVariables false
set_option linter.constructorNameAsVariable false
open Go Classical
theorem ht3 : ∀ (n : Nat) (vs : List PV), Has Tryz.prog n 3 vs → ∃ x : Int, vs = [.int .i64 x] ∧ I64 x := fun n vs h => by
  obtain ⟨x, rfl, w⟩ := h.int Tryz.underlying3
  have r := range w
  simp [IntKind.min, IntKind.max, IntKind.signed, IntKind.bits] at r
  exact ⟨x, rfl, r⟩
theorem ht9 : ∀ (n : Nat) (vs : List PV), Has Tryz.prog n 9 vs → ∃ x : List UInt8, vs = [.str x] ∧ x.length ≤ maxLen := fun n vs h => by
  obtain ⟨x, rfl, w⟩ := h.str Tryz.underlying9
  exact ⟨x, rfl, w⟩
theorem ht4 : ∀ (n : Nat) (vs : List PV), Has Tryz.prog n 4 vs → ∃ x : Bool, vs = [.bool x] ∧ True := fun n vs h => by
  obtain ⟨x, rfl⟩ := h.bool Tryz.underlying4
  exact ⟨x, rfl, trivial⟩
def OkPart (x : Part) : Prop := True ∧ x.Text.length ≤ maxLen
theorem ht86 : ∀ (n : Nat) (vs : List PV), Has Tryz.prog n 86 vs → ∃ x : Part, vs = ePart x ∧ OkPart x := fun n vs h => by
  cases n with
  | zero => exact h.zero.elim
  | succ n =>
    obtain ⟨a0, b0, rfl, h0, h⟩ := h.struct Tryz.underlying86
    obtain ⟨a1, b1, rfl, h1, h⟩ := h
    obtain rfl : b1 = [] := h
    obtain ⟨x0, rfl, k0⟩ := ht4 n _ h0
    obtain ⟨x1, rfl, k1⟩ := ht9 n _ h1
    exact ⟨⟨x0, x1⟩, by simp [ePart], ⟨k0, k1⟩⟩
theorem hr38 (n : Nat) : ∀ rows : List (List PV), (∀ r ∈ rows, Has Tryz.prog n 86 r) → ∃ xs : List Part, rows = xs.map ePart ∧ ∀ y ∈ xs, OkPart y
  | [], _ => ⟨[], by simp [eI], fun y h => by cases h⟩
  | r :: rows, h => by
    obtain ⟨x, rfl, hx⟩ := ht86 n r (h r (by simp))
    obtain ⟨xs, rfl, hxs⟩ := hr38 n rows fun r hr => h r (by simp [hr])
    exact ⟨x :: xs, by simp [eI, eK, eB, eS, eO], fun y hy => (List.mem_cons.1 hy).elim (fun e => e ▸ hx) (hxs y)⟩
theorem cz86 : Tryz.prog.cellsOf 86 = 2 := by kernel_rfl
theorem ht38 : ∀ (n : Nat) (vs : List PV), Has Tryz.prog n 38 vs → ∃ x : List Part, vs = [.list 2 (x.map ePart) false] ∧ (x.length ≤ maxLen ∧ ∀ y ∈ x, OkPart y) := fun n vs h => by
  cases n with
  | zero => exact h.zero.elim
  | succ n =>
    obtain ⟨rows, rfl, hl, hr⟩ := h.slice Tryz.underlying38
    obtain ⟨xs, rfl, hx⟩ := hr38 n rows hr
    rw [cz86]
    exact ⟨xs, rfl, by rw [List.length_map] at hl; exact hl, hx⟩
theorem hr39 (n : Nat) : ∀ rows : List (List PV), (∀ r ∈ rows, Has Tryz.prog n 3 r) → ∃ xs : List Int, rows = xs.map eI ∧ ∀ y ∈ xs, I64 y
  | [], _ => ⟨[], by simp [eI], fun y h => by cases h⟩
  | r :: rows, h => by
    obtain ⟨x, rfl, hx⟩ := ht3 n r (h r (by simp))
    obtain ⟨xs, rfl, hxs⟩ := hr39 n rows fun r hr => h r (by simp [hr])
    exact ⟨x :: xs, by simp [eI, eK, eB, eS, eO], fun y hy => (List.mem_cons.1 hy).elim (fun e => e ▸ hx) (hxs y)⟩
theorem cz3 : Tryz.prog.cellsOf 3 = 1 := by kernel_rfl
theorem ht39 : ∀ (n : Nat) (vs : List PV), Has Tryz.prog n 39 vs → ∃ x : List Int, vs = [.list 1 (x.map eI) false] ∧ (x.length ≤ maxLen ∧ ∀ y ∈ x, I64 y) := fun n vs h => by
  cases n with
  | zero => exact h.zero.elim
  | succ n =>
    obtain ⟨rows, rfl, hl, hr⟩ := h.slice Tryz.underlying39
    obtain ⟨xs, rfl, hx⟩ := hr39 n rows hr
    rw [cz3]
    exact ⟨xs, rfl, by rw [List.length_map] at hl; exact hl, hx⟩
def OkNode (x : Node) : Prop := I64 x.Kind ∧ I64 x.Num ∧ x.Text.length ≤ maxLen ∧ (x.Parts.length ≤ maxLen ∧ ∀ y ∈ x.Parts, OkPart y) ∧ (x.Kids.length ≤ maxLen ∧ ∀ y ∈ x.Kids, I64 y)
theorem ht41 : ∀ (n : Nat) (vs : List PV), Has Tryz.prog n 41 vs → ∃ x : Node, vs = eNode x ∧ OkNode x := fun n vs h => by
  cases n with
  | zero => exact h.zero.elim
  | succ n =>
    obtain ⟨a0, b0, rfl, h0, h⟩ := h.struct Tryz.underlying41
    obtain ⟨a1, b1, rfl, h1, h⟩ := h
    obtain ⟨a2, b2, rfl, h2, h⟩ := h
    obtain ⟨a3, b3, rfl, h3, h⟩ := h
    obtain ⟨a4, b4, rfl, h4, h⟩ := h
    obtain rfl : b4 = [] := h
    obtain ⟨x0, rfl, k0⟩ := ht3 n _ h0
    obtain ⟨x1, rfl, k1⟩ := ht3 n _ h1
    obtain ⟨x2, rfl, k2⟩ := ht9 n _ h2
    obtain ⟨x3, rfl, k3⟩ := ht38 n _ h3
    obtain ⟨x4, rfl, k4⟩ := ht39 n _ h4
    exact ⟨⟨x0, x1, x2, x3, x4⟩, by simp [eNode], ⟨k0, k1, k2, k3, k4⟩⟩
theorem hr35 (n : Nat) : ∀ rows : List (List PV), (∀ r ∈ rows, Has Tryz.prog n 41 r) → ∃ xs : List Node, rows = xs.map eNode ∧ ∀ y ∈ xs, OkNode y
  | [], _ => ⟨[], by simp [eI], fun y h => by cases h⟩
  | r :: rows, h => by
    obtain ⟨x, rfl, hx⟩ := ht41 n r (h r (by simp))
    obtain ⟨xs, rfl, hxs⟩ := hr35 n rows fun r hr => h r (by simp [hr])
    exact ⟨x :: xs, by simp [eI, eK, eB, eS, eO], fun y hy => (List.mem_cons.1 hy).elim (fun e => e ▸ hx) (hxs y)⟩
theorem cz41 : Tryz.prog.cellsOf 41 = 5 := by kernel_rfl
theorem ht35 : ∀ (n : Nat) (vs : List PV), Has Tryz.prog n 35 vs → ∃ x : List Node, vs = [.list 5 (x.map eNode) false] ∧ (x.length ≤ maxLen ∧ ∀ y ∈ x, OkNode y) := fun n vs h => by
  cases n with
  | zero => exact h.zero.elim
  | succ n =>
    obtain ⟨rows, rfl, hl, hr⟩ := h.slice Tryz.underlying35
    obtain ⟨xs, rfl, hx⟩ := hr35 n rows hr
    rw [cz41]
    exact ⟨xs, rfl, by rw [List.length_map] at hl; exact hl, hx⟩
def OkAttr (x : Attr) : Prop := x.Name.length ≤ maxLen ∧ (x.Expr.length ≤ maxLen ∧ ∀ y ∈ x.Expr, OkNode y)
theorem ht37 : ∀ (n : Nat) (vs : List PV), Has Tryz.prog n 37 vs → ∃ x : Attr, vs = eAttr x ∧ OkAttr x := fun n vs h => by
  cases n with
  | zero => exact h.zero.elim
  | succ n =>
    obtain ⟨a0, b0, rfl, h0, h⟩ := h.struct Tryz.underlying37
    obtain ⟨a1, b1, rfl, h1, h⟩ := h
    obtain rfl : b1 = [] := h
    obtain ⟨x0, rfl, k0⟩ := ht9 n _ h0
    obtain ⟨x1, rfl, k1⟩ := ht35 n _ h1
    exact ⟨⟨x0, x1⟩, by simp [eAttr], ⟨k0, k1⟩⟩
theorem hr31 (n : Nat) : ∀ rows : List (List PV), (∀ r ∈ rows, Has Tryz.prog n 37 r) → ∃ xs : List Attr, rows = xs.map eAttr ∧ ∀ y ∈ xs, OkAttr y
  | [], _ => ⟨[], by simp [eI], fun y h => by cases h⟩
  | r :: rows, h => by
    obtain ⟨x, rfl, hx⟩ := ht37 n r (h r (by simp))
    obtain ⟨xs, rfl, hxs⟩ := hr31 n rows fun r hr => h r (by simp [hr])
    exact ⟨x :: xs, by simp [eI, eK, eB, eS, eO], fun y hy => (List.mem_cons.1 hy).elim (fun e => e ▸ hx) (hxs y)⟩
theorem cz37 : Tryz.prog.cellsOf 37 = 2 := by kernel_rfl
theorem ht31 : ∀ (n : Nat) (vs : List PV), Has Tryz.prog n 31 vs → ∃ x : List Attr, vs = [.list 2 (x.map eAttr) false] ∧ (x.length ≤ maxLen ∧ ∀ y ∈ x, OkAttr y) := fun n vs h => by
  cases n with
  | zero => exact h.zero.elim
  | succ n =>
    obtain ⟨rows, rfl, hl, hr⟩ := h.slice Tryz.underlying31
    obtain ⟨xs, rfl, hx⟩ := hr31 n rows hr
    rw [cz37]
    exact ⟨xs, rfl, by rw [List.length_map] at hl; exact hl, hx⟩
def OkBlock (x : Block) : Prop := True
theorem mapE {α : Type} (e : α → List PV) : ∀ rows : List (List PV), (∀ r ∈ rows, ∃ x, r = e x) → ∃ xs : List α, rows = xs.map e
  | [], _ => ⟨[], rfl⟩
  | r :: rows, h => by
    obtain ⟨x, rfl⟩ := h r (by simp)
    obtain ⟨xs, rfl⟩ := mapE e rows fun r hr => h r (by simp [hr])
    exact ⟨x :: xs, rfl⟩
theorem czR33 : Tryz.prog.cellsOf 33 = 4 := by kernel_rfl
theorem ht33 : ∀ (n : Nat) (vs : List PV), Has Tryz.prog n 33 vs → ∃ x : Block, vs = eBlock x ∧ OkBlock x := by
  intro n
  induction n using Nat.strongRecOn with
  | _ n ih =>
  intro vs h
  cases n with
  | zero => exact h.zero.elim
  | succ n =>
    obtain ⟨a0, b0, rfl, h0, h⟩ := h.struct Tryz.underlying33
    obtain ⟨a1, b1, rfl, h1, h⟩ := h
    obtain ⟨a2, b2, rfl, h2, h⟩ := h
    obtain ⟨a3, b3, rfl, h3, h⟩ := h
    obtain rfl : b3 = [] := h
    obtain ⟨x0, rfl, k0⟩ := ht3 n _ h0
    obtain ⟨x1, rfl, k1⟩ := ht9 n _ h1
    obtain ⟨x2, rfl, k2⟩ := ht31 n _ h2
    have hx3 : ∃ x3 : List Block, a3 = [.list 4 (x3.map eBlock) false] := by
      cases n with
      | zero => exact h3.zero.elim
      | succ n =>
        obtain ⟨rows, e3, hl, hr⟩ := h3.slice Tryz.underlying26
        obtain ⟨xs, rfl⟩ := mapE eBlock rows fun r hr' => by
          obtain ⟨x, e, _⟩ := ih n (by omega) r (hr r hr')
          exact ⟨x, e⟩
        rw [czR33] at e3
        exact ⟨xs, e3⟩
    obtain ⟨x3, rfl⟩ := hx3
    exact ⟨⟨x0, x1, x2, x3⟩, by rw [eBlock_eq]; rfl, trivial⟩
theorem hr26 (n : Nat) : ∀ rows : List (List PV), (∀ r ∈ rows, Has Tryz.prog n 33 r) → ∃ xs : List Block, rows = xs.map eBlock ∧ ∀ y ∈ xs, OkBlock y
  | [], _ => ⟨[], by simp [eI], fun y h => by cases h⟩
  | r :: rows, h => by
    obtain ⟨x, rfl, hx⟩ := ht33 n r (h r (by simp))
    obtain ⟨xs, rfl, hxs⟩ := hr26 n rows fun r hr => h r (by simp [hr])
    exact ⟨x :: xs, by simp [eI, eK, eB, eS, eO], fun y hy => (List.mem_cons.1 hy).elim (fun e => e ▸ hx) (hxs y)⟩
theorem cz33 : Tryz.prog.cellsOf 33 = 4 := by kernel_rfl
theorem ht26 : ∀ (n : Nat) (vs : List PV), Has Tryz.prog n 26 vs → ∃ x : List Block, vs = [.list 4 (x.map eBlock) false] ∧ (x.length ≤ maxLen ∧ ∀ y ∈ x, OkBlock y) := fun n vs h => by
  cases n with
  | zero => exact h.zero.elim
  | succ n =>
    obtain ⟨rows, rfl, hl, hr⟩ := h.slice Tryz.underlying26
    obtain ⟨xs, rfl, hx⟩ := hr26 n rows hr
    rw [cz33]
    exact ⟨xs, rfl, by rw [List.length_map] at hl; exact hl, hx⟩
theorem specParseTrees : ∀ pvs, HasAll Tryz.prog [35, 26] pvs → call (SPof Tryz.prog exts) 10 pvs [] = .ok (.v (.bool true)) [] := by
  intro pvs h
  obtain ⟨v0, r0, rfl, g0, h⟩ := h.cons_inv
  obtain ⟨v1, r1, rfl, g1, h⟩ := h.cons_inv
  obtain rfl := h.nil_inv
  obtain ⟨n0, g0⟩ := g0.one Tryz.underlying35 (fun fs h => by cases h)
  obtain ⟨x0, e0, h0⟩ := ht35 _ _ g0
  obtain rfl := List.cons.inj e0 |>.1
  obtain ⟨n1, g1⟩ := g1.one Tryz.underlying26 (fun fs h => by cases h)
  obtain ⟨x1, e1, h1⟩ := ht26 _ _ g1
  obtain rfl := List.cons.inj e1 |>.1
  exact (r_ParseTrees x0 x1 : R_Q10 x0 x1 true) []
end Go.Proofs.YtfbcnpbhhooapaaGreatDoor.M
