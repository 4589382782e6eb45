/- doorkeeperlaw10.VecAll: what vec answers is the document's, for any amounts: the numerals are the same, sums, differences, comparisons, the greatest. -/
import Derived.Test.YtebflncfgjnkkaaDoorX5
import Derived.Test.YtebflncfgjnkkaaDoorX8
import Derived.Test.YtebflncfgjnkkaaDoorPureVecSums
import Derived.Test.YtebflncfgjnkkaaDoorXIn
import Derived.Lib.ItoaLen
namespace Go.Proofs.YtebflncfgjnkkaaDoor.Pure
open Go.RowKit Go.Proofs.YtebflncfgjnkkaaDoor.X Go.Proofs.YtebflncfgjnkkaaDoorW.PrintWords Go.Proofs.YtebflncfgjnkkaaDoorW.PrintLast Go.Proofs.YtebflncfgjnkkaaDoorW.PrintMore

theorem i64_in {a : Int} (h : (Lit.int .i64 a).wf = true) : -9223372036854775808 ≤ a ∧ a ≤ 9223372036854775807 := by
  simp [Lit.wf, IntKind.min, IntKind.max, IntKind.signed, IntKind.bits] at h
  omega
theorem cat_ (l : List UInt8) (s : ByteArray) : (⟨l.toArray⟩ : ByteArray) ++ s = ⟨(l ++ s.data.toList).toArray⟩ := by
  apply ByteArray.ext
  simp [ByteArray.data_append]
theorem size_ (l : List UInt8) : (⟨l.toArray⟩ : ByteArray).size = l.length := by simp [ByteArray.size]
theorem u64_id {n : Int} (h0 : 0 ≤ n) (h1 : n < 18446744073709551616) : IntKind.u64.wrap n = n := by
  simp [IntKind.wrap, IntKind.signed, IntKind.bits]
  omega
theorem num1 (n : Nat) : strOfNums [(n : Int)] = ⟨([UInt8.ofNat n] : List UInt8).toArray⟩ := by
  show (⟨([UInt8.ofNat ((n : Int)).toNat]).toArray⟩ : ByteArray) = _
  rw [Int.toNat_natCast]
def pre (a : Int) : List UInt8 := if a < 0 then [45] else []
theorem digits_l0 (a : Int) : ∀ (j k u : Nat) (l : List UInt8), Lib.nDigits u ≤ j → u < 18446744073709551616 → l.length + j ≤ 100 → doorkeeperref1_Digits.l0 (k + j) a (u : Int) ⟨l.toArray⟩ = some ⟨(pre a ++ (Lib.decDigits u ++ l)).toArray⟩
  | 0, k, u, l, h, _, _ => by have := Lib.nDigits_pos u; omega
  | j + 1, k, u, l, h, hu, hl => by
    rw [show k + (j + 1) = (k + j) + 1 from rfl, doorkeeperref1_Digits.l0]
    by_cases h10 : u < 10
    · have h1 : ¬ ((u : Int) ≥ 10) := by omega
      have h2 : (IntKind.u64.wrap (48 + (u : Int))) % 256 = ((48 + u : Nat) : Int) := by rw [u64_id (by omega) (by omega)]; omega
      rw [if_neg h1, h2]
      simp only [Option.bind_some]
      have e : strOfNums [((48 + u : Nat) : Int)] = ⟨([UInt8.ofNat (48 + u)] : List UInt8).toArray⟩ := num1 _
      rw [e, cat_, size_, size_, size_]
      rw [if_pos (by simp; omega), Lib.decDigits, dif_pos h10]
      by_cases ha : a < 0
      · rw [if_pos ha, if_pos (by simp; omega), pre, if_pos ha]
        rw [show (⟨#[45]⟩ : ByteArray) = ⟨([45] : List UInt8).toArray⟩ from rfl, cat_]
      · rw [if_neg ha, pre, if_neg ha]
        rfl
    · have h1 : (u : Int) ≥ 10 := by omega
      have h2 : (IntKind.u64.wrap (48 + Int.tmod (u : Int) 10)) % 256 = ((48 + u % 10 : Nat) : Int) := by
        have : Int.tmod (u : Int) 10 = ((u % 10 : Nat) : Int) := by rw [Int.tmod_eq_emod_of_nonneg (by omega)]; omega
        rw [this, u64_id (by omega) (by omega)]; omega
      have h3 : IntKind.u64.wrap (Int.tdiv (u : Int) 10) = ((u / 10 : Nat) : Int) := by
        have : Int.tdiv (u : Int) 10 = ((u / 10 : Nat) : Int) := by rw [Int.tdiv_eq_ediv_of_nonneg (by omega)]; omega
        rw [this, u64_id (by omega) (by omega)]
      rw [if_pos h1, h2, h3]
      simp only [Option.bind_some]
      have e : strOfNums [((48 + u % 10 : Nat) : Int)] = ⟨([UInt8.ofNat (48 + u % 10)] : List UInt8).toArray⟩ := num1 _
      rw [e, cat_, size_, size_]
      rw [if_pos (by simp; omega)]
      have hn : Lib.nDigits u = Lib.nDigits (u / 10) + 1 := Lib.nDigits_big h10
      rw [digits_l0 a j k (u / 10) _ (by omega) (by omega) (by simp; omega)]
      rw [show Lib.decDigits u = Lib.decDigits (u / 10) ++ [UInt8.ofNat (48 + u % 10)] from by rw [Lib.decDigits, dif_neg h10]]
      simp
theorem digits_eq (k : Nat) (a : Int) (h0 : -9223372036854775808 ≤ a) (h1 : a ≤ 9223372036854775807) : doorkeeperref1_Digits.f (k + 30) a = some ⟨(Lib.itoa a).toArray⟩ := by
  unfold doorkeeperref1_Digits.f
  by_cases ha : a < 0
  · have e1 : IntKind.u64.wrap a = a + 18446744073709551616 := by simp [IntKind.wrap, IntKind.signed, IntKind.bits]; omega
    have e2 : IntKind.u64.wrap (-(a + 18446744073709551616)) = ((a.natAbs : Nat) : Int) := by simp [IntKind.wrap, IntKind.signed, IntKind.bits]; omega
    rw [if_pos ha, e1, e2, show k + 30 = (k + 29) + 1 from rfl, doorkeeperref1_Digits.j0, show k + 29 = (k + 9) + 20 from rfl]
    rw [show (⟨#[]⟩ : ByteArray) = ⟨([] : List UInt8).toArray⟩ from rfl, digits_l0 a 20 (k + 9) a.natAbs [] (Lib.nDigits_le20 _ (by omega)) (by omega) (by simp)]
    simp [Lib.itoa, pre, ha]
  · have e1 : IntKind.u64.wrap a = ((a.toNat : Nat) : Int) := by rw [u64_id (by omega) (by omega)]; omega
    rw [if_neg ha, e1, show k + 30 = (k + 29) + 1 from rfl, doorkeeperref1_Digits.j0, show k + 29 = (k + 9) + 20 from rfl]
    rw [show (⟨#[]⟩ : ByteArray) = ⟨([] : List UInt8).toArray⟩ from rfl, digits_l0 a 20 (k + 9) a.toNat [] (Lib.nDigits_le20 _ (by omega)) (by omega) (by simp)]
    simp [Lib.itoa, pre, ha]
theorem itoa_eq (a : Int) (h0 : -9223372036854775808 ≤ a) (h1 : a ≤ 9223372036854775807) : strconv_Itoa.f a = some ⟨(Lib.itoa a).toArray⟩ := by
  unfold strconv_Itoa.f
  rw [if_pos h0, if_pos h1]
theorem text_eq (k : Nat) (a b c : Int) (ha : (Lit.int .i64 a).wf = true) (hb : (Lit.int .i64 b).wf = true) (hc : (Lit.int .i64 c).wf = true) : ∃ t, vec_Text.f a b c = some t ∧ doorkeeperref10_VecText.f (k + 30) a b c = some t := by
  obtain ⟨a0, a1⟩ := i64_in ha
  obtain ⟨b0, b1⟩ := i64_in hb
  obtain ⟨c0, c1⟩ := i64_in hc
  have la := Lib.itoa_length_le a a0 a1
  have lb := Lib.itoa_length_le b b0 b1
  have lc := Lib.itoa_length_le c c0 c1
  unfold vec_Text.f doorkeeperref10_VecText.f
  rw [digits_eq k a a0 a1, digits_eq k b b0 b1, digits_eq k c c0 c1, itoa_eq a a0 a1, itoa_eq b b0 b1, itoa_eq c c0 c1]
  simp only [Option.bind_some]
  generalize Lib.itoa a = x at *
  generalize Lib.itoa b = y at *
  generalize Lib.itoa c = z at *
  have s5 : (⟨#[99, 112, 117, 61]⟩ : ByteArray).size = 4 := rfl
  have s6 : (⟨#[32, 109, 101, 109, 61]⟩ : ByteArray).size = 5 := rfl
  have s7 : (⟨#[32, 112, 111, 100, 115, 61]⟩ : ByteArray).size = 6 := rfl
  simp only [ByteArray.size_append, size_, s5, s6, s7]
  rw [if_pos (by omega), if_pos (by omega), if_pos (by omega), if_pos (by omega), if_pos (by omega)]
  exact ⟨_, rfl, rfl⟩
theorem may_eq (a b c : Int) : vec_May.f a b c = doorkeeperref10_MayVec.f a b c := by
  unfold vec_May.f doorkeeperref10_MayVec.f vec_Le.f vec_Most.f doorkeeperref10_unit.f
  by_cases h1 : 0 ≤ a <;> by_cases h2 : 0 ≤ b <;> by_cases h3 : 0 ≤ c <;> by_cases h4 : a ≤ 1099511627776 <;> by_cases h5 : b ≤ 1099511627776 <;> by_cases h6 : c ≤ 1099511627776 <;> simp [h1, h2, h3, h4, h5, h6]
theorem mayIs (a b c : Int) : doorkeeperref10_MayVec.f a b c = some (decide (0 ≤ a ∧ a ≤ 1099511627776 ∧ 0 ≤ b ∧ b ≤ 1099511627776 ∧ 0 ≤ c ∧ c ≤ 1099511627776)) := by
  unfold doorkeeperref10_MayVec.f doorkeeperref10_unit.f
  by_cases h1 : 0 ≤ a <;> by_cases h2 : 0 ≤ b <;> by_cases h3 : 0 ≤ c <;> by_cases h4 : a ≤ 1099511627776 <;> by_cases h5 : b ≤ 1099511627776 <;> by_cases h6 : c ≤ 1099511627776 <;> simp [h1, h2, h3, h4, h5, h6]
theorem addAll3 (k : Nat) (x y z : S24) : doorkeeperref10_AddAll.f (k + 4) [x, y, z] = some (wrap64 (wrap64 (wrap64 (0 + x.f0) + y.f0) + z.f0), wrap64 (wrap64 (wrap64 (0 + x.f1) + y.f1) + z.f1), wrap64 (wrap64 (wrap64 (0 + x.f2) + y.f2) + z.f2)) := by
  simp [doorkeeperref10_AddAll.f, doorkeeperref10_AddAll.l0, doorkeeperref10_Add.f, rd_T24, w64]
theorem max3 (k : Nat) (x y z : S24) : vec_Max.f (k + 4) [x, y, z] = some (mx (mx (mx 0 x.f0) y.f0) z.f0, mx (mx (mx 0 x.f1) y.f1) z.f1, mx (mx (mx 0 x.f2) y.f2) z.f2) := by
  simp [vec_Max.f, vec_by.f, vec_by.l0, vec_Max_1.f, rd_T24, w64]
theorem mx0 {a : Int} (h : 0 ≤ a) : mx 0 a = a := by unfold mx; split <;> omega
theorem all_j1 (x y z : S24) (q : Bool) (hq : q = true ∨ 0 ≤ x.f0 ∧ 0 ≤ x.f1 ∧ 0 ≤ x.f2) : doorkeeperlaw10_VecAll.j1 5 q x.f0 x.f1 x.f2 y.f0 y.f1 y.f2 z.f0 z.f1 z.f2 = some true := by
  rw [doorkeeperlaw10_VecAll.j1]
  have h0 := awake_true 3
  cases q
  · obtain h | ⟨h1, h2, h3⟩ := hq
    · cases h
    · simp [add3 0, addAll3 0, sub1 2, doorkeeperref10_Sub.f, max3 0, doorkeeperref10_Max.f, vec_Most.f, doorkeeperref10_Most.f, vec_Le.f, doorkeeperref10_Le.f, h0, mx0 h1, mx0 h2, mx0 h3]
      by_cases h4 : x.f0 ≤ y.f0 <;> by_cases h5 : x.f1 ≤ y.f1 <;> simp [h4, h5]
  · simp [h0]
theorem all_j0 (x y z : S24) : doorkeeperlaw10_VecAll.j0 6 false x.f0 x.f1 x.f2 y.f0 y.f1 y.f2 z.f0 z.f1 z.f2 = some true := by
  rw [doorkeeperlaw10_VecAll.j0]
  simp only [mayIs, Option.bind_some, Bool.false_eq_true, if_false, decide_eq_true_eq]
  split
  · rename_i h
    split
    · exact all_j1 x y z _ (.inr ⟨h.1, h.2.2.1, h.2.2.2.2.1⟩)
    · exact all_j1 x y z _ (.inl rfl)
  · exact all_j1 x y z _ (.inl rfl)
theorem all_mono : ∀ (d k : Nat) (q : Bool) (a b c e f g h i j : Int) (r : Bool), doorkeeperlaw10_VecAll.j0 k q a b c e f g h i j = some r → doorkeeperlaw10_VecAll.j0 (k + d) q a b c e f g h i j = some r
  | 0, _, _, _, _, _, _, _, _, _, _, _, _, hh => hh
  | d + 1, k, q, a, b, c, e, f, g, h, i, j, r, hh => by
    have := all_mono d k q a b c e f g h i j r hh
    exact (doorkeeperlaw10_VecAll.mono_l (k + d)).1 q a b c e f g h i j r this
theorem VecAll (x y z : S24) (hx : ok24 x) (_hy : ok24 y) (_hz : ok24 z) : ∃ k, doorkeeperlaw10_VecAll.f k x.f0 x.f1 x.f2 y.f0 y.f1 y.f2 z.f0 z.f1 z.f2 = some true := by
  refine ⟨0 + 30, ?_⟩
  obtain ⟨t, h1, h2⟩ := text_eq 0 x.f0 x.f1 x.f2 hx.1 hx.2.1 hx.2.2
  unfold doorkeeperlaw10_VecAll.f
  rw [may_eq, h1, h2, mayIs]
  have h3 := all_mono 24 6 _ _ _ _ _ _ _ _ _ _ _ (all_j0 x y z)
  simp only [Option.bind_some, bne_self_eq_false, Bool.false_eq_true, if_false]
  exact h3
end Go.Proofs.YtebflncfgjnkkaaDoor.Pure
