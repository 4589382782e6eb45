/- Parts of a proof, one behind another: Wf3, Wf4, Wf5b, Wf6, WfJoins0, ScFunMade, LtFunMade, WfMade, Shelf, XE, SpecFunMade. -/
import Derived.Test.YtkbdinocadoelaaDoorZFunMade5
import Derived.Test.YtkbdinocadoelaaDoorProg
import Derived.KernelRfl
import Derived.Shelf.Strings.Builder1
import Derived.Shelf.Strings.Builder2
import Derived.Shelf.Strings.OnBuilder
import Derived.Shelf.Small.Wraps
import Derived.Shelf.Strings.BuilderF
import Derived.Shelf.Strings.BuilderK
import Derived.Shelf.Strings.Builder2Cap
import Derived.Shelf.Strconv.Itoa0
import Derived.Shelf.Strconv.Itoa1
import Derived.Shelf.LaysM
import Derived.Shelf.Strconv.Itoa2
import Derived.Shelf.Strconv.Itoa3
import Derived.Shelf.Strings.BuilderCap
/- Functions: arguments of the right kinds; a call. (Written by Wf3.py.) -/
namespace Go.Proofs.YtkbdinocadoelaaDoor.M
set_option linter.unusedSimpArgs false
set_option linter.unusedVariables false
open Go Classical
def kindOk (name : List UInt8) (i : Nat) (v : V) : Bool :=
  if name = [109, 105, 110] then numB v else
  if name = [109, 97, 120] then numB v else
  if name = [114, 97, 110, 103, 101] then numB v else
  if name = [97, 98, 115] then numB v else
  if name = [115, 117, 109] then listB v else
  if name = [99, 111, 110, 99, 97, 116] then listB v else
  if name = [104, 97, 115] then if i = 0 then listB v else true else
  if name = [106, 111, 105, 110] then if i = 1 then listB v else if i = 0 then textB v else true else
  if name = [108, 101, 110] then listB v || textB v else
  true
def innerOk (name : List UInt8) (l : List V) : Bool := if name = [115, 117, 109] then l.all numB else if name = [106, 111, 105, 110] then l.all textB else true
theorem innerOk_cons (name : List UInt8) (x : V) (m : List V) : innerOk name (x :: m) = ((if name = [115, 117, 109] then numB x else if name = [106, 111, 105, 110] then textB x else true) && innerOk name m) := by
  unfold innerOk
  by_cases h : name = [115, 117, 109]
  · simp [h]
  · by_cases h2 : name = [106, 111, 105, 110]
    · simp [h2]
    · simp [h, h2]
def rightF (name : List UInt8) (i : Nat) (v : V) : Bool := kindOk name i v && innerOk name v.l
theorem r_right_in (name : List UInt8) (l : List V) (i : Nat) (hi : i < l.length) (hl : l.length ≤ 1000) (hv : l[i].l.length ≤ 100000) (H : At_ref4_right_1 name l ((i : Nat) + 1) (mayAll (rightF name) (i + 1) (l.drop (i + 1)))) : ∀ (k j : Nat), j + k = l[i].l.length → At_ref4_right_2 name l i j (innerOk name (l[i].l.drop j) && mayAll (rightF name) (i + 1) (l.drop (i + 1))) := by
  intro k
  induction k with
  | zero =>
    intro j hj
    apply At_ref4_right_2_step
    rw [List.drop_of_length_le (by omega)]
    refine ⟨by omega, l[i], by simp [hi], fun h => by omega, fun _ => ⟨⟨by omega, by omega⟩, ?_⟩⟩
    have : innerOk name [] = true := by simp [innerOk]
    rw [this, Bool.true_and]
    exact H
  | succ k ih =>
    intro j hj
    apply At_ref4_right_2_step
    have hlt : j < l[i].l.length := by omega
    have h2 := ih (j + 1) (by omega)
    rw [List.drop_eq_getElem_cons hlt]
    refine ⟨by omega, l[i], by simp [hi], fun _ => ⟨fun hs => ⟨by omega, l[i].l[j], by simp [hlt], fun hk => ⟨⟨by omega, by omega⟩, ?_⟩, fun hk => ?_⟩, fun hs => ⟨fun hs2 => ⟨by omega, l[i].l[j], by simp [hlt], fun hk => ⟨⟨by omega, by omega⟩, ?_⟩, fun hk => ?_⟩, fun hs2 => ⟨⟨by omega, by omega⟩, ?_⟩⟩⟩, fun h => absurd (by omega) h⟩
    · have : innerOk name (l[i].l[j] :: l[i].l.drop (j + 1)) = innerOk name (l[i].l.drop (j + 1)) := by rw [innerOk_cons, if_pos hs]; simp only [numB, hk, decide_true, Bool.true_and]
      rw [this]
      exact h2
    · have : innerOk name (l[i].l[j] :: l[i].l.drop (j + 1)) = false := by rw [innerOk_cons, if_pos hs]; simp only [numB, hk, decide_false, Bool.false_and]
      rw [this]
      rfl
    · have : innerOk name (l[i].l[j] :: l[i].l.drop (j + 1)) = innerOk name (l[i].l.drop (j + 1)) := by rw [innerOk_cons, if_neg hs, if_pos hs2]; simp only [textB, hk, decide_true, Bool.true_and]
      rw [this]
      exact h2
    · have : innerOk name (l[i].l[j] :: l[i].l.drop (j + 1)) = false := by rw [innerOk_cons, if_neg hs, if_pos hs2]; simp only [textB, hk, decide_false, Bool.false_and]
      rw [this]
      rfl
    · have : innerOk name (l[i].l[j] :: l[i].l.drop (j + 1)) = innerOk name (l[i].l.drop (j + 1)) := by rw [innerOk_cons, if_neg hs, if_neg hs2, Bool.true_and]
      rw [this]
      exact h2
theorem r_right_loop (name : List UInt8) (l : List V) (hl : l.length ≤ 1000) (hv : ∀ v ∈ l, v.l.length ≤ 100000) : ∀ (k i : Nat), i + k = l.length → At_ref4_right_1 name l i (mayAll (rightF name) i (l.drop i)) := by
  intro k
  induction k with
  | zero =>
    intro i hi
    apply At_ref4_right_1_step
    rw [mayAll_end (by omega)]
    exact ⟨fun h => by omega, fun _ => rfl⟩
  | succ k ih =>
    intro i hi
    have hlt : i < l.length := by omega
    have H := r_right_in name l i hlt hl (hv _ (List.getElem_mem hlt)) (ih (i + 1) (by omega)) l[i].l.length 0 (by omega)
    rw [List.drop_zero] at H
    apply At_ref4_right_1_step
    rw [mayAll_at hlt, rightF, Bool.and_assoc]
    refine ⟨fun _ => ⟨by omega, l[i], by simp [hlt], ?_⟩, fun h => absurd (by omega) h⟩
    have yes : kindOk name i l[i] = true → At_ref4_right_2 name l i 0 (kindOk name i l[i] && (innerOk name l[i].l && mayAll (rightF name) (i + 1) (l.drop (i + 1)))) := fun e => by rw [e, Bool.true_and]; exact H
    have no : kindOk name i l[i] = false → false = (kindOk name i l[i] && (innerOk name l[i].l && mayAll (rightF name) (i + 1) (l.drop (i + 1)))) := fun e => by rw [e]; rfl
    have e0 : ((i : Int) = 0) = (i = 0) := by simp
    have e1 : ((i : Int) = 1) = (i = 1) := by simp; omega
    simp only [e0, e1]
    clear ih H
    generalize (kindOk name i l[i] && (innerOk name l[i].l && mayAll (rightF name) (i + 1) (l.drop (i + 1)))) = r at yes no ⊢
    generalize l[i] = x at yes no ⊢
    repeat' (first | refine ⟨fun _ => ?_, fun _ => ?_⟩ | fail)
    all_goals first
      | (apply no; simp [kindOk, numB, listB, textB, *]; done)
      | (apply yes; simp [kindOk, numB, listB, textB, *]; done)
theorem r_right (name : List UInt8) (l : List V) (hl : l.length ≤ 1000) (hv : ∀ v ∈ l, v.l.length ≤ 100000) : R_ref4_right name l (mayAll (rightF name) 0 l) := ref4_right_tree _ _ _ (r_right_loop name l hl hv l.length 0 (by omega))

theorem r_call_min (l : List V) (hl : l.length ≤ 1000) (hv : ∀ v ∈ l, v.l.length ≤ 100000) (R : mayAll mNum 0 l = true → R_fun_least l (tMin l).1 (tMin l).2) (i2 i3 : Int) (s4 : List UInt8) (l5 : List V) (g6 : Nat) : ∀ (k i : Nat), i + k = l.length → (mayAll mNum i (l.drop i) = mayAll mNum 0 l) → At_fun_Call_1 l i i2 i3 s4 l5 g6 (if mayAll mNum 0 l = true then tMin l else (zeroV, 7)).1 (if mayAll mNum 0 l = true then tMin l else (zeroV, 7)).2 := by
  intro k
  induction k with
  | zero =>
    intro i hi hm
    apply At_fun_Call_1_step
    have e := mayAll_end (f := mNum) (l := l) (i := i) (by omega)
    rw [e] at hm
    rw [if_pos hm.symm]
    exact ⟨fun h => by omega, fun _ => ⟨_, _, R hm.symm, rfl, rfl⟩⟩
  | succ k ih =>
    intro i hi hm
    apply At_fun_Call_1_step
    have hlt : i < l.length := by omega
    have hv1 := hv _ (List.getElem_mem hlt)
    have e := mayAll_at (f := mNum) hlt
    refine ⟨fun _ => ⟨by omega, l[i], by simp [hlt], fun _ => ⟨_, r_number _, fun hb => ?_, fun hb => ?_⟩, fun h => absurd ?_ h⟩, fun h => absurd (by omega) h⟩
    · refine ⟨⟨by omega, by omega⟩, ih (i + 1) (by omega) ?_⟩
      rw [← hm, e]
      have : mNum i l[i] = true := hb
      rw [this, Bool.true_and]
    · have hx : mNum i l[i] = false := Bool.eq_false_iff.2 hb
      rw [e, hx, Bool.false_and] at hm
      rw [← hm]
      exact ⟨rfl, rfl⟩
    · split <;> omega

theorem r_call_max (l : List V) (hl : l.length ≤ 1000) (hv : ∀ v ∈ l, v.l.length ≤ 100000) (R : mayAll mNum 0 l = true → R_fun_greatest l (tMax l).1 (tMax l).2) (i2 i3 : Int) (s4 : List UInt8) (l5 : List V) (g6 : Nat) : ∀ (k i : Nat), i + k = l.length → (mayAll mNum i (l.drop i) = mayAll mNum 0 l) → At_fun_Call_1b l i i2 i3 s4 l5 g6 (if mayAll mNum 0 l = true then tMax l else (zeroV, 7)).1 (if mayAll mNum 0 l = true then tMax l else (zeroV, 7)).2 := by
  intro k
  induction k with
  | zero =>
    intro i hi hm
    apply At_fun_Call_1b_step
    have e := mayAll_end (f := mNum) (l := l) (i := i) (by omega)
    rw [e] at hm
    rw [if_pos hm.symm]
    exact ⟨fun h => by omega, fun _ => ⟨_, _, R hm.symm, rfl, rfl⟩⟩
  | succ k ih =>
    intro i hi hm
    apply At_fun_Call_1b_step
    have hlt : i < l.length := by omega
    have hv1 := hv _ (List.getElem_mem hlt)
    have e := mayAll_at (f := mNum) hlt
    refine ⟨fun _ => ⟨by omega, l[i], by simp [hlt], fun _ => ⟨_, r_number _, fun hb => ?_, fun hb => ?_⟩, fun h => absurd ?_ h⟩, fun h => absurd (by omega) h⟩
    · refine ⟨⟨by omega, by omega⟩, ih (i + 1) (by omega) ?_⟩
      rw [← hm, e]
      have : mNum i l[i] = true := hb
      rw [this, Bool.true_and]
    · have hx : mNum i l[i] = false := Bool.eq_false_iff.2 hb
      rw [e, hx, Bool.false_and] at hm
      rw [← hm]
      exact ⟨rfl, rfl⟩
    · split <;> omega

theorem r_call_sum (l : List V) (hl : l.length ≤ 1000) (hv : ∀ v ∈ l, v.l.length ≤ 100000) (R : mayAll mNums 0 l = true → R_fun_sum l (tSum l).1 (tSum l).2) (i2 i3 : Int) (s4 : List UInt8) (l5 : List V) (g6 : Nat) : ∀ (k i : Nat), i + k = l.length → (mayAll mNums i (l.drop i) = mayAll mNums 0 l) → At_fun_Call_1c l i i2 i3 s4 l5 g6 (if mayAll mNums 0 l = true then tSum l else (zeroV, 7)).1 (if mayAll mNums 0 l = true then tSum l else (zeroV, 7)).2 := by
  intro k
  induction k with
  | zero =>
    intro i hi hm
    apply At_fun_Call_1c_step
    have e := mayAll_end (f := mNums) (l := l) (i := i) (by omega)
    rw [e] at hm
    rw [if_pos hm.symm]
    exact ⟨fun h => by omega, fun _ => ⟨_, _, R hm.symm, rfl, rfl⟩⟩
  | succ k ih =>
    intro i hi hm
    apply At_fun_Call_1c_step
    have hlt : i < l.length := by omega
    have hv1 := hv _ (List.getElem_mem hlt)
    have e := mayAll_at (f := mNums) hlt
    refine ⟨fun _ => ⟨by omega, l[i], by simp [hlt], fun _ => ⟨_, r_numbers _ hv1, fun hb => ?_, fun hb => ?_⟩, fun h => absurd ?_ h⟩, fun h => absurd (by omega) h⟩
    · refine ⟨⟨by omega, by omega⟩, ih (i + 1) (by omega) ?_⟩
      rw [← hm, e]
      have : mNums i l[i] = true := hb
      rw [this, Bool.true_and]
    · have hx : mNums i l[i] = false := Bool.eq_false_iff.2 hb
      rw [e, hx, Bool.false_and] at hm
      rw [← hm]
      exact ⟨rfl, rfl⟩
    · split <;> omega

theorem r_call_len (l : List V) (hl : l.length ≤ 1000) (hv : ∀ v ∈ l, v.l.length ≤ 100000) (R : mayAll mLong 0 l = true → R_fun_length l (tLen l).1 (tLen l).2) (i2 i3 : Int) (s4 : List UInt8) (l5 : List V) (g6 : Nat) : ∀ (k i : Nat), i + k = l.length → (mayAll mLong i (l.drop i) = mayAll mLong 0 l) → At_fun_Call_1d l i i2 i3 s4 l5 g6 (if mayAll mLong 0 l = true then tLen l else (zeroV, 7)).1 (if mayAll mLong 0 l = true then tLen l else (zeroV, 7)).2 := by
  intro k
  induction k with
  | zero =>
    intro i hi hm
    apply At_fun_Call_1d_step
    have e := mayAll_end (f := mLong) (l := l) (i := i) (by omega)
    rw [e] at hm
    rw [if_pos hm.symm]
    exact ⟨fun h => by omega, fun _ => ⟨_, _, R hm.symm, rfl, rfl⟩⟩
  | succ k ih =>
    intro i hi hm
    apply At_fun_Call_1d_step
    have hlt : i < l.length := by omega
    have hv1 := hv _ (List.getElem_mem hlt)
    have e := mayAll_at (f := mLong) hlt
    refine ⟨fun _ => ⟨by omega, l[i], by simp [hlt], fun _ => ⟨_, r_long _, fun hb => ?_, fun hb => ?_⟩, fun h => absurd ?_ h⟩, fun h => absurd (by omega) h⟩
    · refine ⟨⟨by omega, by omega⟩, ih (i + 1) (by omega) ?_⟩
      rw [← hm, e]
      have : mLong i l[i] = true := hb
      rw [this, Bool.true_and]
    · have hx : mLong i l[i] = false := Bool.eq_false_iff.2 hb
      rw [e, hx, Bool.false_and] at hm
      rw [← hm]
      exact ⟨rfl, rfl⟩
    · split <;> omega

theorem r_call_concat (l : List V) (hl : l.length ≤ 1000) (hv : ∀ v ∈ l, v.l.length ≤ 100000) (R : mayAll mList 0 l = true → R_fun_concat l (tConcat l).1 (tConcat l).2) (i2 i3 : Int) (s4 : List UInt8) (l5 : List V) (g6 : Nat) : ∀ (k i : Nat), i + k = l.length → (mayAll mList i (l.drop i) = mayAll mList 0 l) → At_fun_Call_1e l i i2 i3 s4 l5 g6 (if mayAll mList 0 l = true then tConcat l else (zeroV, 7)).1 (if mayAll mList 0 l = true then tConcat l else (zeroV, 7)).2 := by
  intro k
  induction k with
  | zero =>
    intro i hi hm
    apply At_fun_Call_1e_step
    have e := mayAll_end (f := mList) (l := l) (i := i) (by omega)
    rw [e] at hm
    rw [if_pos hm.symm]
    exact ⟨fun h => by omega, fun _ => ⟨_, _, R hm.symm, rfl, rfl⟩⟩
  | succ k ih =>
    intro i hi hm
    apply At_fun_Call_1e_step
    have hlt : i < l.length := by omega
    have hv1 := hv _ (List.getElem_mem hlt)
    have e := mayAll_at (f := mList) hlt
    refine ⟨fun _ => ⟨by omega, l[i], by simp [hlt], fun _ => ⟨_, r_list _, fun hb => ?_, fun hb => ?_⟩, fun h => absurd ?_ h⟩, fun h => absurd (by omega) h⟩
    · refine ⟨⟨by omega, by omega⟩, ih (i + 1) (by omega) ?_⟩
      rw [← hm, e]
      have : mList i l[i] = true := hb
      rw [this, Bool.true_and]
    · have hx : mList i l[i] = false := Bool.eq_false_iff.2 hb
      rw [e, hx, Bool.false_and] at hm
      rw [← hm]
      exact ⟨rfl, rfl⟩
    · split <;> omega

theorem r_call_join (l : List V) (hl : l.length ≤ 1000) (hv : ∀ v ∈ l, v.l.length ≤ 100000) (R : mayAll mJoin 0 l = true → R_fun_join l (tJoin l).1 (tJoin l).2) (i2 i3 : Int) (s4 : List UInt8) (l5 : List V) (g6 : Nat) : ∀ (k i : Nat), i + k = l.length → (mayAll mJoin i (l.drop i) = mayAll mJoin 0 l) → At_fun_Call_1f l i i2 i3 s4 l5 g6 (if mayAll mJoin 0 l = true then tJoin l else (zeroV, 7)).1 (if mayAll mJoin 0 l = true then tJoin l else (zeroV, 7)).2 := by
  intro k
  induction k with
  | zero =>
    intro i hi hm
    apply At_fun_Call_1f_step
    have e := mayAll_end (f := mJoin) (l := l) (i := i) (by omega)
    rw [e] at hm
    rw [if_pos hm.symm]
    exact ⟨fun h => by omega, fun _ => ⟨_, _, R hm.symm, rfl, rfl⟩⟩
  | succ k ih =>
    intro i hi hm
    apply At_fun_Call_1f_step
    have hlt : i < l.length := by omega
    have hv1 := hv _ (List.getElem_mem hlt)
    have e := mayAll_at (f := mJoin) hlt
    refine ⟨fun _ => ⟨by omega, l[i], by simp [hlt], fun h0 => ⟨_, r_text _, fun hb => ?_, fun hb => ?_⟩, fun h0 => ⟨fun h1 => ⟨_, r_texts _ hv1, fun hb => ?_, fun hb => ?_⟩, fun h => absurd ?_ h⟩⟩, fun h => absurd (by omega) h⟩
    · refine ⟨⟨by omega, by omega⟩, ih (i + 1) (by omega) ?_⟩
      have hi0 : i = 0 := by split at h0 <;> omega
      have : mJoin i l[i] = true := by rw [mJoin, if_pos hi0]; exact hb
      rw [← hm, e, this, Bool.true_and]
    · have hi0 : i = 0 := by split at h0 <;> omega
      have hx : mJoin i l[i] = false := by rw [mJoin, if_pos hi0]; exact Bool.eq_false_iff.2 hb
      rw [e, hx, Bool.false_and] at hm
      rw [← hm]
      exact ⟨rfl, rfl⟩
    · refine ⟨⟨by omega, by omega⟩, ih (i + 1) (by omega) ?_⟩
      have hi0 : ¬ i = 0 := by split at h0 <;> omega
      have : mJoin i l[i] = true := by rw [mJoin, if_neg hi0]; exact hb
      rw [← hm, e, this, Bool.true_and]
    · have hi0 : ¬ i = 0 := by split at h0 <;> omega
      have hx : mJoin i l[i] = false := by rw [mJoin, if_neg hi0]; exact Bool.eq_false_iff.2 hb
      rw [e, hx, Bool.false_and] at hm
      rw [← hm]
      exact ⟨rfl, rfl⟩
    · split at h0 <;> split <;> omega

theorem r_call_range (l : List V) (hl : l.length ≤ 1000) (hv : ∀ v ∈ l, v.l.length ≤ 100000) (R : mayAll mNum 0 l = true → R_fun_span l (tRange l).1 (tRange l).2) (i2 i3 : Int) (s4 : List UInt8) (l5 : List V) (g6 : Nat) : ∀ (k i : Nat), i + k = l.length → (mayAll mNum i (l.drop i) = mayAll mNum 0 l) → At_fun_Call_1g l i i2 i3 s4 l5 g6 (if mayAll mNum 0 l = true then tRange l else (zeroV, 7)).1 (if mayAll mNum 0 l = true then tRange l else (zeroV, 7)).2 := by
  intro k
  induction k with
  | zero =>
    intro i hi hm
    apply At_fun_Call_1g_step
    have e := mayAll_end (f := mNum) (l := l) (i := i) (by omega)
    rw [e] at hm
    rw [if_pos hm.symm]
    exact ⟨fun h => by omega, fun _ => ⟨_, _, R hm.symm, rfl, rfl⟩⟩
  | succ k ih =>
    intro i hi hm
    apply At_fun_Call_1g_step
    have hlt : i < l.length := by omega
    have hv1 := hv _ (List.getElem_mem hlt)
    have e := mayAll_at (f := mNum) hlt
    refine ⟨fun _ => ⟨by omega, l[i], by simp [hlt], fun _ => ⟨_, r_number _, fun hb => ?_, fun hb => ?_⟩, fun h => absurd ?_ h⟩, fun h => absurd (by omega) h⟩
    · refine ⟨⟨by omega, by omega⟩, ih (i + 1) (by omega) ?_⟩
      rw [← hm, e]
      have : mNum i l[i] = true := hb
      rw [this, Bool.true_and]
    · have hx : mNum i l[i] = false := Bool.eq_false_iff.2 hb
      rw [e, hx, Bool.false_and] at hm
      rw [← hm]
      exact ⟨rfl, rfl⟩
    · split <;> omega

theorem r_call_abs (l : List V) (hl : l.length ≤ 1000) (hv : ∀ v ∈ l, v.l.length ≤ 100000) (R : mayAll mNum 0 l = true → R_fun_abs l (tAbs l).1 (tAbs l).2) (i2 i3 : Int) (s4 : List UInt8) (l5 : List V) (g6 : Nat) : ∀ (k i : Nat), i + k = l.length → (mayAll mNum i (l.drop i) = mayAll mNum 0 l) → At_fun_Call_1h l i i2 i3 s4 l5 g6 (if mayAll mNum 0 l = true then tAbs l else (zeroV, 7)).1 (if mayAll mNum 0 l = true then tAbs l else (zeroV, 7)).2 := by
  intro k
  induction k with
  | zero =>
    intro i hi hm
    apply At_fun_Call_1h_step
    have e := mayAll_end (f := mNum) (l := l) (i := i) (by omega)
    rw [e] at hm
    rw [if_pos hm.symm]
    exact ⟨fun h => by omega, fun _ => ⟨_, _, R hm.symm, rfl, rfl⟩⟩
  | succ k ih =>
    intro i hi hm
    apply At_fun_Call_1h_step
    have hlt : i < l.length := by omega
    have hv1 := hv _ (List.getElem_mem hlt)
    have e := mayAll_at (f := mNum) hlt
    refine ⟨fun _ => ⟨by omega, l[i], by simp [hlt], fun _ => ⟨_, r_number _, fun hb => ?_, fun hb => ?_⟩, fun h => absurd ?_ h⟩, fun h => absurd (by omega) h⟩
    · refine ⟨⟨by omega, by omega⟩, ih (i + 1) (by omega) ?_⟩
      rw [← hm, e]
      have : mNum i l[i] = true := hb
      rw [this, Bool.true_and]
    · have hx : mNum i l[i] = false := Bool.eq_false_iff.2 hb
      rw [e, hx, Bool.false_and] at hm
      rw [← hm]
      exact ⟨rfl, rfl⟩
    · split <;> omega

theorem r_call_has (l : List V) (hl : l.length ≤ 1000) (hv : ∀ v ∈ l, v.l.length ≤ 100000) (R : mayAll mHas 0 l = true → R_fun_has l (tHas l).1 (tHas l).2) (i2 i3 : Int) (s4 : List UInt8) (l5 : List V) (g6 : Nat) : ∀ (k i : Nat), i + k = l.length → (mayAll mHas i (l.drop i) = mayAll mHas 0 l) → At_fun_Call_1i l i i2 i3 s4 l5 g6 (if mayAll mHas 0 l = true then tHas l else (zeroV, 7)).1 (if mayAll mHas 0 l = true then tHas l else (zeroV, 7)).2 := by
  intro k
  induction k with
  | zero =>
    intro i hi hm
    apply At_fun_Call_1i_step
    have e := mayAll_end (f := mHas) (l := l) (i := i) (by omega)
    rw [e] at hm
    rw [if_pos hm.symm]
    exact ⟨fun h => by omega, fun _ => ⟨_, _, R hm.symm, rfl, rfl⟩⟩
  | succ k ih =>
    intro i hi hm
    apply At_fun_Call_1i_step
    have hlt : i < l.length := by omega
    have hv1 := hv _ (List.getElem_mem hlt)
    have e := mayAll_at (f := mHas) hlt
    refine ⟨fun _ => ⟨by omega, l[i], by simp [hlt], fun h0 => ⟨_, r_list _, fun hb => ?_, fun hb => ?_⟩, fun h0 => ⟨fun h1 => ⟨_, r_any _, fun hb => ?_, fun hb => absurd rfl hb⟩, fun h => absurd ?_ h⟩⟩, fun h => absurd (by omega) h⟩
    · refine ⟨⟨by omega, by omega⟩, ih (i + 1) (by omega) ?_⟩
      have hi0 : i = 0 := by split at h0 <;> omega
      have : mHas i l[i] = true := by rw [mHas, if_pos hi0]; exact hb
      rw [← hm, e, this, Bool.true_and]
    · have hi0 : i = 0 := by split at h0 <;> omega
      have hx : mHas i l[i] = false := by rw [mHas, if_pos hi0]; exact Bool.eq_false_iff.2 hb
      rw [e, hx, Bool.false_and] at hm
      rw [← hm]
      exact ⟨rfl, rfl⟩
    · refine ⟨⟨by omega, by omega⟩, ih (i + 1) (by omega) ?_⟩
      have hi0 : ¬ i = 0 := by split at h0 <;> omega
      have : mHas i l[i] = true := by rw [mHas, if_neg hi0]
      rw [← hm, e, this, Bool.true_and]
    · split at h0 <;> split <;> omega

theorem r_call_text (l : List V) (hl : l.length ≤ 1000) (hv : ∀ v ∈ l, v.l.length ≤ 100000) (R : mayAll mAny 0 l = true → R_fun_textOf l (tText l).1 (tText l).2) (i2 i3 : Int) (s4 : List UInt8) (l5 : List V) (g6 : Nat) : ∀ (k i : Nat), i + k = l.length → (mayAll mAny i (l.drop i) = mayAll mAny 0 l) → At_fun_Call_1j l i i2 i3 s4 l5 g6 (if mayAll mAny 0 l = true then tText l else (zeroV, 7)).1 (if mayAll mAny 0 l = true then tText l else (zeroV, 7)).2 := by
  intro k
  induction k with
  | zero =>
    intro i hi hm
    apply At_fun_Call_1j_step
    have e := mayAll_end (f := mAny) (l := l) (i := i) (by omega)
    rw [e] at hm
    rw [if_pos hm.symm]
    exact ⟨fun h => by omega, fun _ => ⟨_, _, R hm.symm, rfl, rfl⟩⟩
  | succ k ih =>
    intro i hi hm
    apply At_fun_Call_1j_step
    have hlt : i < l.length := by omega
    have hv1 := hv _ (List.getElem_mem hlt)
    have e := mayAll_at (f := mAny) hlt
    refine ⟨fun _ => ⟨by omega, l[i], by simp [hlt], fun _ => ⟨_, r_any _, fun hb => ?_, fun hb => ?_⟩, fun h => absurd ?_ h⟩, fun h => absurd (by omega) h⟩
    · refine ⟨⟨by omega, by omega⟩, ih (i + 1) (by omega) ?_⟩
      rw [← hm, e]
      have : mAny i l[i] = true := rfl
      rw [this, Bool.true_and]
    · have hx : mAny i l[i] = false := absurd rfl hb
      rw [e, hx, Bool.false_and] at hm
      rw [← hm]
      exact ⟨rfl, rfl⟩
    · split <;> omega

theorem mayAll_all {f : Nat → V → Bool} {p : V → Prop} (h : ∀ i v, f i v = true → p v) : ∀ {l : List V} {i : Nat}, mayAll f i l = true → ∀ v ∈ l, p v := fun hm v hv => by
  obtain ⟨j, hj⟩ := mayAll_mem hm v hv
  exact h j v hj
theorem nums_of {l : List V} (h : Sane l) (hm : mayAll mNum 0 l = true) : ∀ x ∈ l, x.s = [] ∧ x.l = [] ∧ x.k = 1 := fun x hx => by
  have hk : x.k = 1 := mayAll_all (fun i v h => by simpa [mNum, numB] using h) hm x hx
  have := (h.2 x hx).num hk
  exact ⟨this.1, this.2, hk⟩
theorem lists_of {l : List V} (hm : mayAll mList 0 l = true) : ∀ x ∈ l, x.k = 4 := fun x hx => mayAll_all (fun i v h => by simpa [mList, listB] using h) hm x hx
theorem rule_call {lo hi : Nat} {may : Nat → V → Bool} {todo : List V → V × Int} {l : List V} {X : V → Int → Prop} (H : ¬ l.length < lo → ¬ hi < l.length → X (if mayAll may 0 l = true then todo l else (zeroV, 7)).1 (if mayAll may 0 l = true then todo l else (zeroV, 7)).2) :
    ((((l.length : Nat) : Int) < lo) → (V.mk 0 0 [] []) = (ruleS lo hi may todo l).1 ∧ 1 = (ruleS lo hi may todo l).2) ∧ (¬ (((l.length : Nat) : Int) < lo) → ((((hi : Nat) : Int) < ((l.length : Nat) : Int)) → (V.mk 0 0 [] []) = (ruleS lo hi may todo l).1 ∧ 1 = (ruleS lo hi may todo l).2) ∧ (¬ (((hi : Nat) : Int) < ((l.length : Nat) : Int)) → X (ruleS lo hi may todo l).1 (ruleS lo hi may todo l).2)) := by
  unfold ruleS
  refine ⟨fun h => ?_, fun h => ⟨fun h2 => ?_, fun h2 => ?_⟩⟩
  · rw [if_pos (by omega)]; exact ⟨rfl, rfl⟩
  · rw [if_neg (by omega), if_pos (by omega)]; exact ⟨rfl, rfl⟩
  · rw [if_neg (by omega), if_neg (by omega)]; exact H (by omega) (by omega)
/-- The program's own answer. -/
theorem r_Call (name : List UInt8) (l : List V) (h : Sane l) : R_fun_Call name l (callS name l).1 (callS name l).2 := by
  have hl := h.1
  have hv : ∀ v ∈ l, v.l.length ≤ 100000 := fun v hv => (h.2 v hv).ll
  apply fun_Call_tree
  refine ⟨fun hn => ?_, fun n0 => ?_⟩
  · rw [show callS name l = ruleS 1 1073741824 mNum tMin l by simp [callS, hn]]
    exact rule_call (lo := 1) (hi := 1073741824) fun h1 h2 => r_call_min l hl hv (fun hm => (by
    cases l with
    | nil => exact absurd (by simp) h1
    | cons v l => exact r_least v l (by omega) (nums_of h hm))) 0 0 [] [] 0 l.length 0 (by omega) (by rw [List.drop_zero])
  refine ⟨fun hn => ?_, fun n1 => ?_⟩
  · rw [show callS name l = ruleS 1 1073741824 mNum tMax l by simp [callS, hn]]
    exact rule_call (lo := 1) (hi := 1073741824) fun h1 h2 => r_call_max l hl hv (fun hm => (by
    cases l with
    | nil => exact absurd (by simp) h1
    | cons v l => exact r_greatest v l (by omega) (nums_of h hm))) 0 0 [] [] 0 l.length 0 (by omega) (by rw [List.drop_zero])
  refine ⟨fun hn => ?_, fun n2 => ?_⟩
  · rw [show callS name l = ruleS 1 1 mNums tSum l by simp [callS, hn]]
    exact rule_call (lo := 1) (hi := 1) fun h1 h2 => r_call_sum l hl hv (fun hm => (by
    cases l with
    | nil => exact absurd (by simp) h1
    | cons v l =>
      simp only [mayAll, mNums, Bool.and_eq_true, List.all_eq_true] at hm
      exact r_sum v l (by have := h.hd.ll; omega) fun x hx => ⟨by simpa [numB] using hm.1.2 x hx, (h.hd.each x hx).1⟩)) 0 0 [] [] 0 l.length 0 (by omega) (by rw [List.drop_zero])
  refine ⟨fun hn => ?_, fun n3 => ?_⟩
  · rw [show callS name l = ruleS 1 1 mLong tLen l by simp [callS, hn]]
    exact rule_call (lo := 1) (hi := 1) fun h1 h2 => r_call_len l hl hv (fun hm => (by
    cases l with
    | nil => exact absurd (by simp) h1
    | cons v l => exact r_length v l h.hd)) 0 0 [] [] 0 l.length 0 (by omega) (by rw [List.drop_zero])
  refine ⟨fun hn => ?_, fun n4 => ?_⟩
  · rw [show callS name l = ruleS 1 1073741824 mList tConcat l by simp [callS, hn]]
    exact rule_call (lo := 1) (hi := 1073741824) fun h1 h2 => r_call_concat l hl hv (fun hm => (r_concat l h (lists_of hm))) 0 0 [] [] 0 l.length 0 (by omega) (by rw [List.drop_zero])
  refine ⟨fun hn => ?_, fun n5 => ?_⟩
  · rw [show callS name l = ruleS 2 2 mJoin tJoin l by simp [callS, hn]]
    exact rule_call (lo := 2) (hi := 2) fun h1 h2 => r_call_join l hl hv (fun hm => (by
    match l, h1, h with
    | [], h1, _ => exact absurd (by simp) h1
    | [_], h1, _ => exact absurd (by simp) h1
    | v :: u :: l, _, h => exact r_join v u l (h.2 u (by simp)))) 0 0 [] [] 0 l.length 0 (by omega) (by rw [List.drop_zero])
  refine ⟨fun hn => ?_, fun n6 => ?_⟩
  · rw [show callS name l = ruleS 1 1 mNum tRange l by simp [callS, hn]]
    exact rule_call (lo := 1) (hi := 1) fun h1 h2 => r_call_range l hl hv (fun hm => (by
    cases l with
    | nil => exact absurd (by simp) h1
    | cons v l => exact r_span v l)) 0 0 [] [] 0 l.length 0 (by omega) (by rw [List.drop_zero])
  refine ⟨fun hn => ?_, fun n7 => ?_⟩
  · rw [show callS name l = ruleS 1 1 mNum tAbs l by simp [callS, hn]]
    exact rule_call (lo := 1) (hi := 1) fun h1 h2 => r_call_abs l hl hv (fun hm => (by
    cases l with
    | nil => exact absurd (by simp) h1
    | cons v l =>
      have := nums_of h hm v (by simp)
      exact r_abs v l h.hd.ok this.2.2 h.hd.num)) 0 0 [] [] 0 l.length 0 (by omega) (by rw [List.drop_zero])
  refine ⟨fun hn => ?_, fun n8 => ?_⟩
  · rw [show callS name l = ruleS 2 2 mHas tHas l by simp [callS, hn]]
    exact rule_call (lo := 2) (hi := 2) fun h1 h2 => r_call_has l hl hv (fun hm => (by
    match l, h1, h with
    | [], h1, _ => exact absurd (by simp) h1
    | [_], h1, _ => exact absurd (by simp) h1
    | v :: u :: l, _, h => exact r_has v u l h.hd)) 0 0 [] [] 0 l.length 0 (by omega) (by rw [List.drop_zero])
  refine ⟨fun hn => ?_, fun n9 => ?_⟩
  · rw [show callS name l = ruleS 1 1 mAny tText l by simp [callS, hn]]
    exact rule_call (lo := 1) (hi := 1) fun h1 h2 => r_call_text l hl hv (fun hm => (by
    cases l with
    | nil => exact absurd (by simp) h1
    | cons v l => exact r_textOf v l h.hd.ok)) 0 0 [] [] 0 l.length 0 (by omega) (by rw [List.drop_zero])
  rw [show callS name l = (zeroV, 2) by simp [callS, n0, n1, n2, n3, n4, n5, n6, n7, n8, n9]]
  exact ⟨rfl, rfl⟩
end Go.Proofs.YtkbdinocadoelaaDoor.M

/- Functions: the document's answer. (Written by Wf4.py.) -/
namespace Go.Proofs.YtkbdinocadoelaaDoor.M
set_option linter.unusedSimpArgs false
set_option linter.unusedVariables false
open Go Classical
theorem textV_le (v : V) (h : okV v) (hs : v.s.length ≤ 100000) : (textV v).1.length ≤ 1000000 := by
  have := Lib.itoa_length_le v.n h.1 h.2
  unfold textV
  split
  · simp; omega
  · split
    · simp; omega
    · split
      · by_cases h1 : v.n = 1 <;> simp [h1, formatBool_true, formatBool_false]
      · simp
theorem right_join (v u : V) (hv : Arg v) : mayAll (rightF [106, 111, 105, 110]) 0 [v, u] = mayAll mJoin 0 [v, u] := by
  have e : textB v = true → v.l = [] := fun h => hv.str (by simp only [textB, decide_eq_true_eq] at h; omega)
  cases h : textB v with
  | false => simp [mayAll, rightF, kindOk, mJoin, h]
  | true => simp [mayAll, rightF, kindOk, innerOk, mJoin, h, e h]

theorem rcall_min (l : List V) (h : Sane l) : R_ref4_Call [109, 105, 110] l ⟨(callS [109, 105, 110] l).1, (callS [109, 105, 110] l).2⟩ := by
  have hl := h.1
  have hv : ∀ v ∈ l, v.l.length ≤ 100000 := fun v hv => (h.2 v hv).ll
  apply ref4_Call_tree
  rw [show callS [109, 105, 110] l = ruleS 1 1073741824 mNum tMin l by simp [callS]]
  refine ⟨1, 1073741824, true, ?_, fun _ => ⟨fun h1 => ⟨_, r_bad 1, ?_⟩, fun h1 => ⟨fun h2 => ⟨_, r_bad 1, ?_⟩, fun h2 => ⟨_, r_right _ l hl hv, fun hm => ?_, fun hm => ⟨_, r_bad 7, ?_⟩⟩⟩⟩, fun h => absurd rfl h⟩
  · apply ref4_wants_tree
    simp
  · rw [ruleS, if_pos (by omega)]
  · rw [ruleS, if_neg (by omega), if_pos (by omega)]
  · rw [mayAll_congr (g := mNum) l 0 fun j v hv => by simp [rightF, kindOk, innerOk, mNum]] at hm
    have e : ruleS 1 1073741824 mNum tMin l = tMin l := by rw [ruleS, if_neg (by omega), if_neg (by omega), if_pos hm]
    rw [e]
    cases l with
    | nil => exact absurd (by simp) h1
    | cons v l => exact ⟨fun _ => ⟨_, r_edge true v l (by omega), rfl⟩, fun h => absurd rfl h⟩
  · rw [mayAll_congr (g := mNum) l 0 fun j v hv => by simp [rightF, kindOk, innerOk, mNum]] at hm
    rw [ruleS, if_neg (by omega), if_neg (by omega), if_neg hm]
theorem rcall_max (l : List V) (h : Sane l) : R_ref4_Call [109, 97, 120] l ⟨(callS [109, 97, 120] l).1, (callS [109, 97, 120] l).2⟩ := by
  have hl := h.1
  have hv : ∀ v ∈ l, v.l.length ≤ 100000 := fun v hv => (h.2 v hv).ll
  apply ref4_Call_tree
  rw [show callS [109, 97, 120] l = ruleS 1 1073741824 mNum tMax l by simp [callS]]
  refine ⟨1, 1073741824, true, ?_, fun _ => ⟨fun h1 => ⟨_, r_bad 1, ?_⟩, fun h1 => ⟨fun h2 => ⟨_, r_bad 1, ?_⟩, fun h2 => ⟨_, r_right _ l hl hv, fun hm => ?_, fun hm => ⟨_, r_bad 7, ?_⟩⟩⟩⟩, fun h => absurd rfl h⟩
  · apply ref4_wants_tree
    simp
  · rw [ruleS, if_pos (by omega)]
  · rw [ruleS, if_neg (by omega), if_pos (by omega)]
  · rw [mayAll_congr (g := mNum) l 0 fun j v hv => by simp [rightF, kindOk, innerOk, mNum]] at hm
    have e : ruleS 1 1073741824 mNum tMax l = tMax l := by rw [ruleS, if_neg (by omega), if_neg (by omega), if_pos hm]
    rw [e]
    cases l with
    | nil => exact absurd (by simp) h1
    | cons v l => exact ⟨fun h => absurd h (by decide), fun _ => ⟨fun _ => ⟨_, r_edge false v l (by omega), rfl⟩, fun h => absurd rfl h⟩⟩
  · rw [mayAll_congr (g := mNum) l 0 fun j v hv => by simp [rightF, kindOk, innerOk, mNum]] at hm
    rw [ruleS, if_neg (by omega), if_neg (by omega), if_neg hm]
theorem rcall_sum (l : List V) (h : Sane l) : R_ref4_Call [115, 117, 109] l ⟨(callS [115, 117, 109] l).1, (callS [115, 117, 109] l).2⟩ := by
  have hl := h.1
  have hv : ∀ v ∈ l, v.l.length ≤ 100000 := fun v hv => (h.2 v hv).ll
  apply ref4_Call_tree
  rw [show callS [115, 117, 109] l = ruleS 1 1 mNums tSum l by simp [callS]]
  refine ⟨1, 1, true, ?_, fun _ => ⟨fun h1 => ⟨_, r_bad 1, ?_⟩, fun h1 => ⟨fun h2 => ⟨_, r_bad 1, ?_⟩, fun h2 => ⟨_, r_right _ l hl hv, fun hm => ?_, fun hm => ⟨_, r_bad 7, ?_⟩⟩⟩⟩, fun h => absurd rfl h⟩
  · apply ref4_wants_tree
    simp
  · rw [ruleS, if_pos (by omega)]
  · rw [ruleS, if_neg (by omega), if_pos (by omega)]
  · rw [mayAll_congr (g := mNums) l 0 fun j v hv => by simp [rightF, kindOk, innerOk, mNums]] at hm
    have e : ruleS 1 1 mNums tSum l = tSum l := by rw [ruleS, if_neg (by omega), if_neg (by omega), if_pos hm]
    rw [e]
    cases l with
    | nil => exact absurd (by simp) h1
    | cons v l => exact ⟨fun h => absurd h (by decide), fun _ => ⟨fun h => absurd h (by decide), fun _ => ⟨fun _ => ⟨v, rfl, _, r_added v.l (by have := h.hd.ll; omega) (fun x hx => (h.hd.each x hx).2.1), rfl⟩, fun h => absurd rfl h⟩⟩⟩
  · rw [mayAll_congr (g := mNums) l 0 fun j v hv => by simp [rightF, kindOk, innerOk, mNums]] at hm
    rw [ruleS, if_neg (by omega), if_neg (by omega), if_neg hm]
theorem rcall_len (l : List V) (h : Sane l) : R_ref4_Call [108, 101, 110] l ⟨(callS [108, 101, 110] l).1, (callS [108, 101, 110] l).2⟩ := by
  have hl := h.1
  have hv : ∀ v ∈ l, v.l.length ≤ 100000 := fun v hv => (h.2 v hv).ll
  apply ref4_Call_tree
  rw [show callS [108, 101, 110] l = ruleS 1 1 mLong tLen l by simp [callS]]
  refine ⟨1, 1, true, ?_, fun _ => ⟨fun h1 => ⟨_, r_bad 1, ?_⟩, fun h1 => ⟨fun h2 => ⟨_, r_bad 1, ?_⟩, fun h2 => ⟨_, r_right _ l hl hv, fun hm => ?_, fun hm => ⟨_, r_bad 7, ?_⟩⟩⟩⟩, fun h => absurd rfl h⟩
  · apply ref4_wants_tree
    simp
  · rw [ruleS, if_pos (by omega)]
  · rw [ruleS, if_neg (by omega), if_pos (by omega)]
  · rw [mayAll_congr (g := mLong) l 0 fun j v hv => by simp [rightF, kindOk, innerOk, mLong]] at hm
    have e : ruleS 1 1 mLong tLen l = tLen l := by rw [ruleS, if_neg (by omega), if_neg (by omega), if_pos hm]
    rw [e]
    cases l with
    | nil => exact absurd (by simp) h1
    | cons v l => exact ⟨fun h => absurd h (by decide), fun _ => ⟨fun h => absurd h (by decide), fun _ => ⟨fun h => absurd h (by decide), fun _ => ⟨fun _ => ⟨v, rfl, ⟨by have := h.hd.ll; have := h.hd.sl; omega, by have := h.hd.ll; have := h.hd.sl; omega⟩, _, r_rnum _, rfl⟩, fun h => absurd rfl h⟩⟩⟩⟩
  · rw [mayAll_congr (g := mLong) l 0 fun j v hv => by simp [rightF, kindOk, innerOk, mLong]] at hm
    rw [ruleS, if_neg (by omega), if_neg (by omega), if_neg hm]
theorem rcall_concat (l : List V) (h : Sane l) : R_ref4_Call [99, 111, 110, 99, 97, 116] l ⟨(callS [99, 111, 110, 99, 97, 116] l).1, (callS [99, 111, 110, 99, 97, 116] l).2⟩ := by
  have hl := h.1
  have hv : ∀ v ∈ l, v.l.length ≤ 100000 := fun v hv => (h.2 v hv).ll
  apply ref4_Call_tree
  rw [show callS [99, 111, 110, 99, 97, 116] l = ruleS 1 1073741824 mList tConcat l by simp [callS]]
  refine ⟨1, 1073741824, true, ?_, fun _ => ⟨fun h1 => ⟨_, r_bad 1, ?_⟩, fun h1 => ⟨fun h2 => ⟨_, r_bad 1, ?_⟩, fun h2 => ⟨_, r_right _ l hl hv, fun hm => ?_, fun hm => ⟨_, r_bad 7, ?_⟩⟩⟩⟩, fun h => absurd rfl h⟩
  · apply ref4_wants_tree
    simp
  · rw [ruleS, if_pos (by omega)]
  · rw [ruleS, if_neg (by omega), if_pos (by omega)]
  · rw [mayAll_congr (g := mList) l 0 fun j v hv => by simp [rightF, kindOk, innerOk, mList]] at hm
    have e : ruleS 1 1073741824 mList tConcat l = tConcat l := by rw [ruleS, if_neg (by omega), if_neg (by omega), if_pos hm]
    rw [e]
    exact ⟨fun h => absurd h (by decide), fun _ => ⟨fun h => absurd h (by decide), fun _ => ⟨fun h => absurd h (by decide), fun _ => ⟨fun h => absurd h (by decide), fun _ => ⟨fun _ => r_rconcat _ h (lists_of hm), fun h => absurd rfl h⟩⟩⟩⟩⟩
  · rw [mayAll_congr (g := mList) l 0 fun j v hv => by simp [rightF, kindOk, innerOk, mList]] at hm
    rw [ruleS, if_neg (by omega), if_neg (by omega), if_neg hm]
theorem rcall_join (l : List V) (h : Sane l) : R_ref4_Call [106, 111, 105, 110] l ⟨(callS [106, 111, 105, 110] l).1, (callS [106, 111, 105, 110] l).2⟩ := by
  have hl := h.1
  have hv : ∀ v ∈ l, v.l.length ≤ 100000 := fun v hv => (h.2 v hv).ll
  apply ref4_Call_tree
  rw [show callS [106, 111, 105, 110] l = ruleS 2 2 mJoin tJoin l by simp [callS]]
  refine ⟨2, 2, true, ?_, fun _ => ⟨fun h1 => ⟨_, r_bad 1, ?_⟩, fun h1 => ⟨fun h2 => ⟨_, r_bad 1, ?_⟩, fun h2 => ⟨_, r_right _ l hl hv, fun hm => ?_, fun hm => ⟨_, r_bad 7, ?_⟩⟩⟩⟩, fun h => absurd rfl h⟩
  · apply ref4_wants_tree
    simp
  · rw [ruleS, if_pos (by omega)]
  · rw [ruleS, if_neg (by omega), if_pos (by omega)]
  · match l, h1, h2, h with
    | [], h1, _, _ => exact absurd (by simp) h1
    | [_], h1, _, _ => exact absurd (by simp) h1
    | _ :: _ :: _ :: _, _, h2, _ => exact absurd (by simp only [List.length_cons]; omega) h2
    | [v, u], _, _, h =>
      rw [right_join v u h.hd] at hm
      have e : ruleS 2 2 mJoin tJoin [v, u] = tJoin [v, u] := by rw [ruleS, if_neg (by simp), if_neg (by simp), if_pos hm]
      rw [e]
      exact ⟨fun h => absurd h (by decide), fun _ => ⟨fun h => absurd h (by decide), fun _ => ⟨fun h => absurd h (by decide), fun _ => ⟨fun h => absurd h (by decide), fun _ => ⟨fun h => absurd h (by decide), fun _ => ⟨fun _ => ⟨v, rfl, u, rfl, _, r_joined v.s u h.hd.sl (h.2 u (by simp)), rfl⟩, fun h => absurd rfl h⟩⟩⟩⟩⟩⟩
  · match l, h1, h2, h with
    | [], h1, _, _ => exact absurd (by simp) h1
    | [_], h1, _, _ => exact absurd (by simp) h1
    | _ :: _ :: _ :: _, _, h2, _ => exact absurd (by simp only [List.length_cons]; omega) h2
    | [v, u], _, _, h =>
      rw [right_join v u h.hd] at hm
      rw [ruleS, if_neg (by simp), if_neg (by simp), if_neg hm]
theorem rcall_range (l : List V) (h : Sane l) : R_ref4_Call [114, 97, 110, 103, 101] l ⟨(callS [114, 97, 110, 103, 101] l).1, (callS [114, 97, 110, 103, 101] l).2⟩ := by
  have hl := h.1
  have hv : ∀ v ∈ l, v.l.length ≤ 100000 := fun v hv => (h.2 v hv).ll
  apply ref4_Call_tree
  rw [show callS [114, 97, 110, 103, 101] l = ruleS 1 1 mNum tRange l by simp [callS]]
  refine ⟨1, 1, true, ?_, fun _ => ⟨fun h1 => ⟨_, r_bad 1, ?_⟩, fun h1 => ⟨fun h2 => ⟨_, r_bad 1, ?_⟩, fun h2 => ⟨_, r_right _ l hl hv, fun hm => ?_, fun hm => ⟨_, r_bad 7, ?_⟩⟩⟩⟩, fun h => absurd rfl h⟩
  · apply ref4_wants_tree
    simp
  · rw [ruleS, if_pos (by omega)]
  · rw [ruleS, if_neg (by omega), if_pos (by omega)]
  · rw [mayAll_congr (g := mNum) l 0 fun j v hv => by simp [rightF, kindOk, innerOk, mNum]] at hm
    have e : ruleS 1 1 mNum tRange l = tRange l := by rw [ruleS, if_neg (by omega), if_neg (by omega), if_pos hm]
    rw [e]
    cases l with
    | nil => exact absurd (by simp) h1
    | cons v l => exact ⟨fun h => absurd h (by decide), fun _ => ⟨fun h => absurd h (by decide), fun _ => ⟨fun h => absurd h (by decide), fun _ => ⟨fun h => absurd h (by decide), fun _ => ⟨fun h => absurd h (by decide), fun _ => ⟨fun h => absurd h (by decide), fun _ => ⟨fun _ => ⟨v, rfl, _, r_counted v l, rfl⟩, fun h => absurd rfl h⟩⟩⟩⟩⟩⟩⟩
  · rw [mayAll_congr (g := mNum) l 0 fun j v hv => by simp [rightF, kindOk, innerOk, mNum]] at hm
    rw [ruleS, if_neg (by omega), if_neg (by omega), if_neg hm]
theorem rcall_abs (l : List V) (h : Sane l) : R_ref4_Call [97, 98, 115] l ⟨(callS [97, 98, 115] l).1, (callS [97, 98, 115] l).2⟩ := by
  have hl := h.1
  have hv : ∀ v ∈ l, v.l.length ≤ 100000 := fun v hv => (h.2 v hv).ll
  apply ref4_Call_tree
  rw [show callS [97, 98, 115] l = ruleS 1 1 mNum tAbs l by simp [callS]]
  refine ⟨1, 1, true, ?_, fun _ => ⟨fun h1 => ⟨_, r_bad 1, ?_⟩, fun h1 => ⟨fun h2 => ⟨_, r_bad 1, ?_⟩, fun h2 => ⟨_, r_right _ l hl hv, fun hm => ?_, fun hm => ⟨_, r_bad 7, ?_⟩⟩⟩⟩, fun h => absurd rfl h⟩
  · apply ref4_wants_tree
    simp
  · rw [ruleS, if_pos (by omega)]
  · rw [ruleS, if_neg (by omega), if_pos (by omega)]
  · rw [mayAll_congr (g := mNum) l 0 fun j v hv => by simp [rightF, kindOk, innerOk, mNum]] at hm
    have e : ruleS 1 1 mNum tAbs l = tAbs l := by rw [ruleS, if_neg (by omega), if_neg (by omega), if_pos hm]
    rw [e]
    cases l with
    | nil => exact absurd (by simp) h1
    | cons v l => exact ⟨fun h => absurd h (by decide), fun _ => ⟨fun h => absurd h (by decide), fun _ => ⟨fun h => absurd h (by decide), fun _ => ⟨fun h => absurd h (by decide), fun _ => ⟨fun h => absurd h (by decide), fun _ => ⟨fun h => absurd h (by decide), fun _ => ⟨fun h => absurd h (by decide), fun _ => ⟨fun _ => ⟨v, rfl, fun h0 => ⟨_, r_rOne 9 v h.hd.ok, by simp [tAbs, h0]⟩, fun h0 => ⟨_, r_rnum _, by simp [tAbs, h0]⟩⟩, fun h => absurd rfl h⟩⟩⟩⟩⟩⟩⟩⟩
  · rw [mayAll_congr (g := mNum) l 0 fun j v hv => by simp [rightF, kindOk, innerOk, mNum]] at hm
    rw [ruleS, if_neg (by omega), if_neg (by omega), if_neg hm]
theorem rcall_has (l : List V) (h : Sane l) : R_ref4_Call [104, 97, 115] l ⟨(callS [104, 97, 115] l).1, (callS [104, 97, 115] l).2⟩ := by
  have hl := h.1
  have hv : ∀ v ∈ l, v.l.length ≤ 100000 := fun v hv => (h.2 v hv).ll
  apply ref4_Call_tree
  rw [show callS [104, 97, 115] l = ruleS 2 2 mHas tHas l by simp [callS]]
  refine ⟨2, 2, true, ?_, fun _ => ⟨fun h1 => ⟨_, r_bad 1, ?_⟩, fun h1 => ⟨fun h2 => ⟨_, r_bad 1, ?_⟩, fun h2 => ⟨_, r_right _ l hl hv, fun hm => ?_, fun hm => ⟨_, r_bad 7, ?_⟩⟩⟩⟩, fun h => absurd rfl h⟩
  · apply ref4_wants_tree
    simp
  · rw [ruleS, if_pos (by omega)]
  · rw [ruleS, if_neg (by omega), if_pos (by omega)]
  · rw [mayAll_congr (g := mHas) l 0 fun j v hv => by simp [rightF, kindOk, innerOk, mHas]] at hm
    have e : ruleS 2 2 mHas tHas l = tHas l := by rw [ruleS, if_neg (by omega), if_neg (by omega), if_pos hm]
    rw [e]
    match l, h1, h2, h with
    | [], h1, _, _ => exact absurd (by simp) h1
    | [_], h1, _, _ => exact absurd (by simp) h1
    | _ :: _ :: _ :: _, _, h2, _ => exact absurd (by simp only [List.length_cons]; omega) h2
    | [v, u], _, _, h => exact ⟨fun h => absurd h (by decide), fun _ => ⟨fun h => absurd h (by decide), fun _ => ⟨fun h => absurd h (by decide), fun _ => ⟨fun h => absurd h (by decide), fun _ => ⟨fun h => absurd h (by decide), fun _ => ⟨fun h => absurd h (by decide), fun _ => ⟨fun h => absurd h (by decide), fun _ => ⟨fun h => absurd h (by decide), fun _ => ⟨fun _ => (by have := r_rhas_loop v u [] h.hd 0 0 [] 0 [] v.l.length 0 (by omega); rw [List.drop_zero] at this; exact this), fun h => absurd rfl h⟩⟩⟩⟩⟩⟩⟩⟩⟩
  · rw [mayAll_congr (g := mHas) l 0 fun j v hv => by simp [rightF, kindOk, innerOk, mHas]] at hm
    rw [ruleS, if_neg (by omega), if_neg (by omega), if_neg hm]
theorem rcall_text (l : List V) (h : Sane l) : R_ref4_Call [116, 101, 120, 116] l ⟨(callS [116, 101, 120, 116] l).1, (callS [116, 101, 120, 116] l).2⟩ := by
  have hl := h.1
  have hv : ∀ v ∈ l, v.l.length ≤ 100000 := fun v hv => (h.2 v hv).ll
  apply ref4_Call_tree
  rw [show callS [116, 101, 120, 116] l = ruleS 1 1 mAny tText l by simp [callS]]
  refine ⟨1, 1, true, ?_, fun _ => ⟨fun h1 => ⟨_, r_bad 1, ?_⟩, fun h1 => ⟨fun h2 => ⟨_, r_bad 1, ?_⟩, fun h2 => ⟨_, r_right _ l hl hv, fun hm => ?_, fun hm => ⟨_, r_bad 7, ?_⟩⟩⟩⟩, fun h => absurd rfl h⟩
  · apply ref4_wants_tree
    simp
  · rw [ruleS, if_pos (by omega)]
  · rw [ruleS, if_neg (by omega), if_pos (by omega)]
  · rw [mayAll_congr (g := mAny) l 0 fun j v hv => by simp [rightF, kindOk, innerOk, mAny]] at hm
    have e : ruleS 1 1 mAny tText l = tText l := by rw [ruleS, if_neg (by omega), if_neg (by omega), if_pos hm]
    rw [e]
    cases l with
    | nil => exact absurd (by simp) h1
    | cons v l => exact ⟨fun h => absurd h (by decide), fun _ => ⟨fun h => absurd h (by decide), fun _ => ⟨fun h => absurd h (by decide), fun _ => ⟨fun h => absurd h (by decide), fun _ => ⟨fun h => absurd h (by decide), fun _ => ⟨fun h => absurd h (by decide), fun _ => ⟨fun h => absurd h (by decide), fun _ => ⟨fun h => absurd h (by decide), fun _ => ⟨fun h => absurd h (by decide), fun _ => ⟨v, rfl, _, r_rText v h.hd.ok, fun h0 => ⟨_, r_rJoin [(textV v).1] (by simp) (by simp only [List.mem_singleton, forall_eq]; exact textV_le v h.hd.ok h.hd.sl), by simp [tText] at h0 ⊢; simp [h0]⟩, fun h0 => ⟨_, r_bad _, by simp at h0; simp [tText, h0]⟩⟩⟩⟩⟩⟩⟩⟩⟩⟩⟩
  · rw [mayAll_congr (g := mAny) l 0 fun j v hv => by simp [rightF, kindOk, innerOk, mAny]] at hm
    rw [ruleS, if_neg (by omega), if_neg (by omega), if_neg hm]
/-- The document's answer. -/
theorem r_rCall (name : List UInt8) (l : List V) (h : Sane l) : R_ref4_Call name l ⟨(callS name l).1, (callS name l).2⟩ := by
  by_cases n0 : name = [109, 105, 110]
  · subst n0
    exact rcall_min l h
  by_cases n1 : name = [109, 97, 120]
  · subst n1
    exact rcall_max l h
  by_cases n2 : name = [115, 117, 109]
  · subst n2
    exact rcall_sum l h
  by_cases n3 : name = [108, 101, 110]
  · subst n3
    exact rcall_len l h
  by_cases n4 : name = [99, 111, 110, 99, 97, 116]
  · subst n4
    exact rcall_concat l h
  by_cases n5 : name = [106, 111, 105, 110]
  · subst n5
    exact rcall_join l h
  by_cases n6 : name = [114, 97, 110, 103, 101]
  · subst n6
    exact rcall_range l h
  by_cases n7 : name = [97, 98, 115]
  · subst n7
    exact rcall_abs l h
  by_cases n8 : name = [104, 97, 115]
  · subst n8
    exact rcall_has l h
  by_cases n9 : name = [116, 101, 120, 116]
  · subst n9
    exact rcall_text l h
  apply ref4_Call_tree
  rw [show callS name l = (zeroV, 2) by simp [callS, n0, n1, n2, n3, n4, n5, n6, n7, n8, n9]]
  refine ⟨0, 0, false, ref4_wants_tree _ _ _ _ ?_, fun h => (by cases h), fun _ => ⟨_, r_bad 2, rfl⟩⟩
  simp only [n0, n1, n2, n3, n4, n5, n6, n7, n8, n9, false_implies, not_false_eq_true, true_implies, true_and, and_self]

end Go.Proofs.YtkbdinocadoelaaDoor.M

/- Functions: what a call's answer is like; awake. -/
namespace Go.Proofs.YtkbdinocadoelaaDoor.M
set_option linter.unusedSimpArgs false
set_option linter.unusedVariables false
open Go Classical
/-- Every number within fits 64 bits. -/
def wide : V → Prop
  | .mk _ n _ l => (-9223372036854775808 ≤ n ∧ n ≤ 9223372036854775807) ∧ wideA l
where
  wideA : List V → Prop
    | [] => True
    | v :: vs => wide v ∧ wideA vs
theorem wideA_mem : ∀ {l : List V}, wide.wideA l → ∀ v ∈ l, wide v
  | [], _, v, h => by cases h
  | u :: l, h, v, hv => by
    simp only [wide.wideA] at h
    rcases List.mem_cons.1 hv with rfl | hv
    · exact h.1
    · exact wideA_mem h.2 v hv
theorem wide_ok {v : V} (h : wide v) : okV v := by cases v; simp only [wide] at h; exact h.1
theorem wide_l {v : V} (h : wide v) : ∀ x ∈ v.l, wide x := by cases v; simp only [wide] at h; exact wideA_mem h.2
theorem wide_num {n : Int} (h : I64 n) : wide (numV n) := by simp only [numV, wide, wide.wideA, and_true]; exact h
theorem small_num (n : Int) : small (numV n) := by simp [numV, small, smallA]
theorem small_zero : small zeroV := by simp [zeroV, small, smallA]
theorem arg_num {n : Int} (h : I64 n) : Arg (numV n) := ⟨small_num n, h, fun h => by simp [numV, V.k] at h, by simp [numV, V.l], by simp [numV, V.s], fun _ => ⟨rfl, rfl⟩, fun _ => rfl, by simp [numV, deep], fun x hx => by cases hx⟩
theorem sane_cons {v : V} {l : List V} (h : Arg v) (hl : Sane l) (hn : l.length < 1000) : Sane (v :: l) := ⟨by simp; omega, fun u hu => (List.mem_cons.1 hu).elim (fun e => e ▸ h) (hl.2 u)⟩
theorem sane_nil : Sane [] := ⟨by simp, fun v hv => by cases hv⟩
theorem r5_awake : R_law5_awake true := by
  apply law5_awake_tree
  have h3 : Arg (numV 3) := arg_num ⟨by omega, by omega⟩
  have h2 : Arg (numV 2) := arg_num ⟨by omega, by omega⟩
  have h := r_Call [109, 105, 110] [numV 3, numV 2] (sane_cons h3 (sane_cons h2 sane_nil (by simp)) (by simp))
  have e : callS [109, 105, 110] [numV 3, numV 2] = (numV 2, 0) := by
    simp [callS, ruleS, mayAll, mNum, numB, numV, V.k, tMin, leastS, V.n]
  rw [e] at h
  exact ⟨_, law5_num_tree _ _ rfl, _, law5_num_tree _ _ rfl, _, _, h, _, r_Num _, fun _ => ⟨fun _ => by simp [numV, V.n], fun h => absurd rfl h⟩, fun h => absurd rfl h⟩
theorem listS_small (l : List V) (h : smallL l) : small (listS l).1 := by
  unfold listS
  split
  · exact small_zero
  · simp only [small]; exact h
theorem joinV_small (l : List (List UInt8)) : small (joinV l).1 := by
  unfold joinV
  split
  · simp [small, smallA]
  · exact small_zero
theorem sumS_small : ∀ (l : List V) (n : Int), small (sumS n l).1
  | [], n => small_num n
  | v :: l, n => by
    unfold sumS
    split
    · exact sumS_small l _
    · exact small_zero
theorem callS_small (name : List UInt8) (l : List V) (h : Sane l) : small (callS name l).1 := by
  have rule : ∀ (lo hi : Nat) (may : Nat → V → Bool) (todo : List V → V × Int), (mayAll may 0 l = true → small (todo l).1) → small (ruleS lo hi may todo l).1 := by
    intro lo hi may todo hs
    unfold ruleS
    split
    · exact small_zero
    · split
      · exact small_zero
      · split
        · rename_i hm; exact hs hm
        · exact small_zero
  unfold callS
  split
  · refine rule _ _ _ _ fun _ => ?_
    cases l
    · exact small_zero
    · exact small_num _
  split
  · refine rule _ _ _ _ fun _ => ?_
    cases l
    · exact small_zero
    · exact small_num _
  split
  · refine rule _ _ _ _ fun _ => ?_
    cases l
    · exact small_zero
    · exact sumS_small _ _
  split
  · refine rule _ _ _ _ fun _ => ?_
    cases l
    · exact small_zero
    · exact small_num _
  split
  · refine rule _ _ _ _ fun hm => ?_
    have hk := lists_of hm
    have hf := flat_deep l fun v hv => ⟨h.2 v hv, hk v hv⟩
    have hfl := flat_le 100000 l fun v hv => (h.2 v hv).ll
    have := h.1
    exact listS_small _ ⟨by omega, hf.1⟩
  split
  · refine rule _ _ _ _ fun _ => ?_
    match l with
    | [] => exact small_zero
    | [_] => exact small_zero
    | _ :: _ :: _ => exact joinV_small _
  split
  · refine rule _ _ _ _ fun _ => ?_
    cases l with
    | nil => exact small_zero
    | cons v l =>
      unfold tRange
      dsimp only
      split
      · exact small_zero
      · split
        · exact small_zero
        · exact listS_small _ (countV_small _ (by omega)).1
  split
  · refine rule _ _ _ _ fun _ => ?_
    cases l with
    | nil => exact small_zero
    | cons v l =>
      unfold tAbs
      dsimp only
      split
      · exact oneT_small _ _
      · exact small_num _
  split
  · refine rule _ _ _ _ fun _ => ?_
    match l with
    | [] => exact small_zero
    | [_] => exact small_zero
    | _ :: _ :: _ => simp [tHas, small, smallA]
  split
  · refine rule _ _ _ _ fun _ => ?_
    cases l with
    | nil => exact small_zero
    | cons v l =>
      unfold tText
      dsimp only
      split
      · exact joinV_small _
      · exact small_zero
  · exact small_zero
end Go.Proofs.YtkbdinocadoelaaDoor.M

/- Functions: lists of numbers. -/
namespace Go.Proofs.YtkbdinocadoelaaDoor.M
set_option linter.unusedSimpArgs false
set_option linter.unusedVariables false
open Go Classical
def numL (ns : List Int) : List V := ns.map numV
theorem numL_len (ns : List Int) : (numL ns).length = ns.length := by simp [numL]
theorem numL_mem {ns : List Int} {v : V} (h : v ∈ numL ns) : ∃ n ∈ ns, v = numV n := by
  simp only [numL, List.mem_map] at h
  obtain ⟨n, hn, rfl⟩ := h
  exact ⟨n, hn, rfl⟩
theorem numL_small (ns : List Int) : smallA (numL ns) := smallA_of fun v hv => by
  obtain ⟨n, _, rfl⟩ := numL_mem hv
  exact small_num n
theorem numL_deep (ns : List Int) : deepL (numL ns) ≤ 0 := deepL_le fun v hv => by
  obtain ⟨n, _, rfl⟩ := numL_mem hv
  simp [numV, deep]
theorem numL_app (a b : List Int) : numL (a ++ b) = numL a ++ numL b := by simp [numL]
theorem arg_list (ns : List Int) (hl : ns.length ≤ 1000) (hn : ∀ n ∈ ns, I64 n) : Arg (.mk 4 0 [] (numL ns)) := by
  refine ⟨?_, ⟨by simp [V.n], by simp [V.n]⟩, fun h => by simp [V.k] at h, ?_, by simp [V.s], fun h => by simp [V.k] at h, fun h => absurd rfl h, ?_, fun x hx => ?_⟩
  · simp only [small]
    exact ⟨by rw [numL_len]; omega, numL_small ns⟩
  · simp only [V.l, numL_len]; omega
  · have := numL_deep ns
    simp [deep]
    omega
  · obtain ⟨n, hn', rfl⟩ := numL_mem hx
    exact ⟨small_num n, hn n hn', fun h => by simp [numV, V.k] at h, by simp [numV, V.s]⟩
theorem sane_nums (ns : List Int) (hl : ns.length ≤ 1000) (hn : ∀ n ∈ ns, I64 n) : Sane (numL ns) := ⟨by rw [numL_len]; exact hl, fun v hv => by
  obtain ⟨n, hn', rfl⟩ := numL_mem hv
  exact arg_num (hn n hn')⟩
theorem call_is {name : List UInt8} {l : List V} {v : V} {e : Int} (h : Sane l) (hc : callS name l = (v, e)) : R_fun_Call name l v e := by
  have := r_Call name l h
  rw [hc] at this
  exact this
theorem listS_nums (ns : List Int) : listS (numL ns) = if 64 < ns.length then (zeroV, 4) else (.mk 4 0 [] (numL ns), 0) := by
  have := numL_deep ns
  unfold listS
  rw [numL_len]
  by_cases h : 64 < ns.length
  · rw [if_pos h, if_pos (.inl h)]
  · rw [if_neg h, if_neg (by omega)]
theorem r_list5_loop (ns : List Int) (hl : ns.length ≤ 1000) (hn : ∀ n ∈ ns, I64 n) : ∀ (k i : Nat), i + k = ns.length → At_law5_list_1 ns i (numL (ns.take i)) (numL ns) := by
  intro k
  induction k with
  | zero =>
    intro i hi
    apply At_law5_list_1_step
    rw [List.take_of_length_le (by omega)]
    exact ⟨fun h => by omega, fun _ => rfl⟩
  | succ k ih =>
    intro i hi
    apply At_law5_list_1_step
    have hlt : i < ns.length := by omega
    have := ih (i + 1) (by omega)
    rw [List.take_succ_eq_append_getElem hlt, numL_app] at this
    refine ⟨fun _ => ⟨by omega, ns[i], by simp [hlt], hn _ (List.getElem_mem hlt), _, law5_num_tree _ _ rfl, ⟨?_, ?_, by omega⟩, ⟨by omega, by omega⟩, this⟩, fun h => absurd (by omega) h⟩
    · rw [numL_len, List.length_take]; omega
    · rw [numL_len, List.length_take]; omega
theorem r_list5 (ns : List Int) (hl : ns.length ≤ 1000) (hn : ∀ n ∈ ns, I64 n) : R_law5_list ns (numL ns) := law5_list_tree _ _ (r_list5_loop ns hl hn ns.length 0 (by omega))
theorem i32_rng {x : Int} (h : IntKind.min .i32 ≤ x ∧ x ≤ IntKind.max .i32) : -2147483648 ≤ x ∧ x ≤ 2147483647 := by simpa [IntKind.min, IntKind.max, IntKind.signed, IntKind.bits] using h
theorem i16_rng {x : Int} (h : IntKind.min .i16 ≤ x ∧ x ≤ IntKind.max .i16) : -32768 ≤ x ∧ x ≤ 32767 := by simpa [IntKind.min, IntKind.max, IntKind.signed, IntKind.bits] using h
theorem i32_I64 {x : Int} (h : IntKind.min .i32 ≤ x ∧ x ≤ IntKind.max .i32) : I64 x := by have := i32_rng h; exact ⟨by omega, by omega⟩
theorem sane2 {u v : V} (h : Arg u) (h2 : Arg v) : Sane [u, v] := sane_cons h (sane_cons h2 sane_nil (by simp)) (by simp)
theorem sane1 {u : V} (h : Arg u) : Sane [u] := sane_cons h sane_nil (by simp)
end Go.Proofs.YtkbdinocadoelaaDoor.M

/- Functions: texts as values. -/
namespace Go.Proofs.YtkbdinocadoelaaDoor.M
set_option linter.unusedSimpArgs false
set_option linter.unusedVariables false
open Go Classical
def strV (t : List UInt8) : V := .mk 2 0 t []
theorem arg_str {t : List UInt8} (h : t.length ≤ 100000) : Arg (strV t) := ⟨by simp [strV, small, smallA], ⟨by simp [strV, V.n], by simp [strV, V.n]⟩, fun h => by simp [strV, V.k] at h, by simp [strV, V.l], by simpa [strV, V.s] using h, fun h => by simp [strV, V.k] at h, fun _ => rfl, by simp [strV, deep], fun x hx => by cases hx⟩
theorem arg_strs (l : List (List UInt8)) (hl : l.length ≤ 1000) (h : ∀ t ∈ l, t.length ≤ 100000) : Arg (.mk 4 0 [] (l.map strV)) := by
  have hm : ∀ v ∈ l.map strV, ∃ t ∈ l, v = strV t := fun v hv => by
    rw [List.mem_map] at hv
    obtain ⟨t, ht, rfl⟩ := hv
    exact ⟨t, ht, rfl⟩
  refine ⟨?_, ⟨by simp [V.n], by simp [V.n]⟩, fun h => by simp [V.k] at h, by simp [V.l]; omega, by simp [V.s], fun h => by simp [V.k] at h, fun h => absurd rfl h, ?_, fun x hx => ?_⟩
  · simp only [small, List.length_map]
    refine ⟨by omega, smallA_of fun v hv => ?_⟩
    obtain ⟨t, ht, rfl⟩ := hm v hv
    exact (arg_str (h t ht)).sm
  · have : deepL (l.map strV) ≤ 0 := deepL_le fun v hv => by
      obtain ⟨t, ht, rfl⟩ := hm v hv
      simp [strV, deep]
    simp [deep]
    omega
  · obtain ⟨t, ht, rfl⟩ := hm x hx
    have ha := arg_str (h t ht)
    exact ⟨ha.sm, ha.ok, ha.tr, ha.sl⟩
end Go.Proofs.YtkbdinocadoelaaDoor.M

/- The machine's code of the functions, printed by a program of this session (sc2.py) out of the translation. Not trusted: Lean checks each by its own computation. -/
namespace Go.Proofs.YtkbdinocadoelaaDoor.M
open Go
set_option linter.unusedVariables false
/-- doorkeeper/doorkeeperlaw5.FunMade -/
def c_law5_FunMade_1 : SC := .seq (.dreg [⟨(some 58), none, (.v (.load (some 4) (.t 10)))⟩, ⟨(some 59), none, (.v (.faddr 0 (.t 12)))⟩, ⟨(some 60), none, (.v (.load (some 4) (.t 59)))⟩, ⟨(some 61), none, (.call (.c (.func 15 [])) [(.t 58), (.t 60)])⟩, ⟨(some 62), none, (.v (.mov (.t 61)))⟩, ⟨(some 63), (some (62, true)), (.v (.mov (.t 11)))⟩, ⟨(some 64), (some (62, true)), (.call (.c (.func 16 [])) [(.t 63)])⟩, ⟨(some 65), (some (62, true)), (.v (.faddr 4 (.t 12)))⟩, ⟨(some 66), (some (62, true)), (.v (.load none (.t 65)))⟩, ⟨(some 67), (some (62, true)), (.v (.bin .eql (.t 64) (.t 66)))⟩, ⟨(some 68), none, (.v (.pick (.t 62) (.t 67) (.c (.bool false))))⟩, ⟨(some 69), none, (.v (.mov (.t 68)))⟩, ⟨(some 70), (some (69, true)), (.v (.faddr 4 (.t 12)))⟩, ⟨(some 71), (some (69, true)), (.v (.load none (.t 70)))⟩, ⟨(some 72), (some (69, true)), (.v (.bin .neq (.t 71) (.c (.int .i64 0))))⟩, ⟨(some 73), (some (69, true)), (.v (.mov (.t 72)))⟩, ⟨(some 74), (some (73, false)), (.v (.load (some 4) (.t 10)))⟩, ⟨(some 75), (some (73, false)), (.call (.c (.func 12 [])) [(.t 74)])⟩, ⟨(some 76), (some (69, true)), (.v (.pick (.t 73) (.c (.bool true)) (.t 75)))⟩, ⟨(some 77), none, (.v (.pick (.t 69) (.t 76) (.c (.bool false))))⟩, ⟨(some 78), none, (.v (.mov (.t 77)))⟩, ⟨(some 79), (some (78, true)), (.call (.c (.func 10 [])) [])⟩, ⟨(some 80), none, (.v (.pick (.t 78) (.t 79) (.c (.bool false))))⟩, ⟨(some 6), none, (.v (.mov (.t 80)))⟩] [false, false, false, true, true, false, false, false, false, true, true, true, true, true, true, true, true, true, true, true, true, true, true, true]) .ret
def c_law5_FunMade_2 : SC := .seq (.reg [⟨(some 55), none, (.v (.mov (.t 9)))⟩, ⟨(some 56), none, (.v (.mov (.t 7)))⟩, ⟨(some 57), none, (.call (.c (.func 14 [])) [(.t 55), (.t 56)])⟩, ⟨(some 12), none, (.alloc [(.int .i64 0), (.int .i64 0), (.str []), (.nils 4), (.int .i64 0)])⟩, ⟨none, none, (.store 5 (.t 12) (.t 57))⟩]) c_law5_FunMade_1
def c_law5_FunMade_3 : SC := .seq (.reg [⟨(some 50), none, (.v (.mov (.t 9)))⟩, ⟨(some 51), none, (.v (.mov (.t 7)))⟩, ⟨(some 52), none, (.call (.c (.func 13 [])) [(.t 50), (.t 51)])⟩, ⟨(some 49), none, (.v (.mov (.t 52)))⟩, ⟨(some 53), none, (.v (.extract 0 (.t 49)))⟩, ⟨(some 54), none, (.v (.extract 1 (.t 49)))⟩, ⟨(some 10), none, (.alloc [(.int .i64 0), (.int .i64 0), (.str []), (.nils 4)])⟩, ⟨none, none, (.store 4 (.t 10) (.t 53))⟩, ⟨(some 11), none, (.v (.mov (.t 54)))⟩]) c_law5_FunMade_2
def c_law5_FunMade_4 : SC := .seq (.reg [⟨(some 44), none, (.bslice 1 11 [(.str [])] [(0, (.c (.str [109, 105, 110]))), (1, (.c (.str [109, 97, 120]))), (2, (.c (.str [115, 117, 109]))), (3, (.c (.str [108, 101, 110]))), (4, (.c (.str [99, 111, 110, 99, 97, 116]))), (5, (.c (.str [106, 111, 105, 110]))), (6, (.c (.str [114, 97, 110, 103, 101]))), (7, (.c (.str [97, 98, 115]))), (8, (.c (.str [104, 97, 115]))), (9, (.c (.str [116, 101, 120, 116]))), (10, (.c (.str [110, 111, 112, 101])))])⟩, ⟨(some 45), none, (.v (.mov (.t 0)))⟩, ⟨(some 46), none, (.v (.bin .rem (.t 45) (.c (.int .u8 11))))⟩, ⟨(some 47), none, (.v (.iaddr 1 (.t 44) (.t 46)))⟩, ⟨(some 48), none, (.v (.load none (.t 47)))⟩, ⟨(some 9), none, (.v (.mov (.t 48)))⟩]) c_law5_FunMade_3
def b_law5_FunMade_1 : SC := .seq (.seq (.reg [⟨(some 22), none, (.v (.mov (.t 8)))⟩, ⟨(some 23), none, (.v (.mov (.t 1)))⟩, ⟨(some 24), none, (.v (.len false (.t 23)))⟩, ⟨(some 25), none, (.v (.bin .lss (.t 22) (.t 24)))⟩]) (.cond (.t 25) .skip (.exit 0))) (.seq (.block 1 (.seq (.seq (.reg [⟨(some 28), none, (.v (.mov (.t 1)))⟩, ⟨(some 29), none, (.v (.mov (.t 8)))⟩, ⟨(some 30), none, (.v (.iaddr 1 (.t 28) (.t 29)))⟩, ⟨(some 31), none, (.v (.load none (.t 30)))⟩, ⟨(some 32), none, (.v (.len false (.t 31)))⟩, ⟨(some 33), none, (.v (.bin .gtr (.t 32) (.c (.int .i64 12))))⟩]) (.cond (.t 33) (.seq (.reg [⟨(some 34), none, (.call (.c (.func 10 [])) [])⟩, ⟨(some 6), none, (.v (.mov (.t 34)))⟩]) .ret) .skip)) (.reg [⟨(some 35), none, (.v (.mov (.t 7)))⟩, ⟨(some 36), none, (.v (.mov (.t 1)))⟩, ⟨(some 37), none, (.v (.mov (.t 8)))⟩, ⟨(some 38), none, (.v (.iaddr 1 (.t 36) (.t 37)))⟩, ⟨(some 39), none, (.v (.load none (.t 38)))⟩, ⟨(some 40), none, (.v (.mov (.t 2)))⟩, ⟨(some 41), none, (.call (.c (.func 17 [])) [(.t 39), (.t 40)])⟩, ⟨(some 42), none, (.bslice 4 1 [(.int .i64 0), (.int .i64 0), (.str []), (.nils 4)] [(0, (.t 41))])⟩, ⟨(some 43), none, (.append 4 56 (.t 35) (.t 42))⟩, ⟨(some 7), none, (.v (.mov (.t 43)))⟩]))) (.reg [⟨(some 26), none, (.v (.mov (.t 8)))⟩, ⟨(some 27), none, (.v (.bin .add (.t 26) (.c (.int .i64 1))))⟩, ⟨(some 8), none, (.v (.mov (.t 27)))⟩]))
def c_law5_FunMade_5 : SC := .seq (.seq (.reg [⟨(some 8), none, (.v (.mov (.c (.int .i64 0))))⟩]) (.block 0 (.loop b_law5_FunMade_1))) c_law5_FunMade_4
def c_law5_FunMade_6 : SC := .seq (.reg [⟨(some 7), none, (.nilv 4)⟩]) c_law5_FunMade_5
def c_law5_FunMade_7 : SC := .seq (.seq (.reg [⟨(some 13), none, (.v (.mov (.t 1)))⟩, ⟨(some 14), none, (.v (.len false (.t 13)))⟩, ⟨(some 15), none, (.v (.bin .gtr (.t 14) (.c (.int .i64 6))))⟩, ⟨(some 16), none, (.v (.mov (.t 15)))⟩, ⟨(some 17), (some (16, false)), (.v (.mov (.t 2)))⟩, ⟨(some 18), (some (16, false)), (.v (.len true (.t 17)))⟩, ⟨(some 19), (some (16, false)), (.v (.bin .gtr (.t 18) (.c (.int .i64 100))))⟩, ⟨(some 20), none, (.v (.pick (.t 16) (.c (.bool true)) (.t 19)))⟩]) (.cond (.t 20) (.seq (.reg [⟨(some 21), none, (.call (.c (.func 10 [])) [])⟩, ⟨(some 6), none, (.v (.mov (.t 21)))⟩]) .ret) .skip)) c_law5_FunMade_6
def sc_law5_FunMade : SFunc := ⟨3, 81, .seq (.reg [⟨(some 6), none, (.v (.mov (.c (.bool false))))⟩]) c_law5_FunMade_7, [(.t 6)]⟩
noncomputable def k_law5_FunMade_1 (SP : Prg) (x : EO) : CO := fin [(.t 6)] (thC SP (inBlk 0 (x)) c_law5_FunMade_4)
theorem U_law5_FunMade : type_of% (And.intro (fun (SP : Prg) (ac : Ac) => congrFun (congrArg (E SP) c_law5_FunMade_1.eq_1) ac) <| And.intro (fun (SP : Prg) (ac : Ac) => congrFun (congrArg (E SP) c_law5_FunMade_2.eq_1) ac) <| And.intro (fun (SP : Prg) (ac : Ac) => congrFun (congrArg (E SP) c_law5_FunMade_3.eq_1) ac) <| And.intro (fun (SP : Prg) (ac : Ac) => congrFun (congrArg (E SP) c_law5_FunMade_4.eq_1) ac) <| And.intro (fun (SP : Prg) (ac : Ac) => congrFun (congrArg (E SP) b_law5_FunMade_1.eq_1) ac) <| And.intro (fun (SP : Prg) (ac : Ac) => congrFun (congrArg (E SP) c_law5_FunMade_5.eq_1) ac) <| And.intro (fun (SP : Prg) (ac : Ac) => congrFun (congrArg (E SP) c_law5_FunMade_6.eq_1) ac) <| And.intro (fun (SP : Prg) (ac : Ac) => congrFun (congrArg (E SP) c_law5_FunMade_7.eq_1) ac) <| sc_law5_FunMade.eq_1) := And.intro (fun (SP : Prg) (ac : Ac) => congrFun (congrArg (E SP) c_law5_FunMade_1.eq_1) ac) <| And.intro (fun (SP : Prg) (ac : Ac) => congrFun (congrArg (E SP) c_law5_FunMade_2.eq_1) ac) <| And.intro (fun (SP : Prg) (ac : Ac) => congrFun (congrArg (E SP) c_law5_FunMade_3.eq_1) ac) <| And.intro (fun (SP : Prg) (ac : Ac) => congrFun (congrArg (E SP) c_law5_FunMade_4.eq_1) ac) <| And.intro (fun (SP : Prg) (ac : Ac) => congrFun (congrArg (E SP) b_law5_FunMade_1.eq_1) ac) <| And.intro (fun (SP : Prg) (ac : Ac) => congrFun (congrArg (E SP) c_law5_FunMade_5.eq_1) ac) <| And.intro (fun (SP : Prg) (ac : Ac) => congrFun (congrArg (E SP) c_law5_FunMade_6.eq_1) ac) <| And.intro (fun (SP : Prg) (ac : Ac) => congrFun (congrArg (E SP) c_law5_FunMade_7.eq_1) ac) <| sc_law5_FunMade.eq_1
theorem comp_law5_FunMade : comp Tryd.prog Tryd.f4 = some sc_law5_FunMade := by kernel_rfl
end Go.Proofs.YtkbdinocadoelaaDoor.M

/- Trees of functions, printed by a program of this session (lift.py): what a run asks, over plain data. Lean proves each. -/
namespace Go.Proofs.YtkbdinocadoelaaDoor.M
set_option linter.unusedSimpArgs false
set_option linter.unusedVariables false
open Go Classical
theorem sp_law5_FunMade : SP 4 = some (.code sc_law5_FunMade) := SPof_code rfl Tryd.func4 comp_law5_FunMade
/-! doorkeeper/doorkeeperlaw5.FunMade -/
def At_law5_FunMade_1 (which : UInt8) (ns : List (List UInt8)) (s : List UInt8) (i3 : Int) (l4 : List V) (r : Bool) : Prop := ∀ (S : Sto) (e : Nat → PV) (f : Fr), e 0 = .int .u8 ((which.toNat : Nat) : Int) ∧ e 1 = .list 1 (ns.map eLB) false ∧ e 2 = .str s ∧ e 7 = .sl 0 (.slot 7) 0 l4.length l4.length 0 false ∧ e 8 = .int .i64 i3 ∧ f.arr (.slot 7) = some ⟨4, encL l4, false, 0⟩ → k_law5_FunMade_1 SP (E SP (.loop b_law5_FunMade_1) ⟨e, f :: S⟩) = .ok (.v (.bool r)) S
set_option maxHeartbeats 4000000 in
theorem At_law5_FunMade_1_step (which : UInt8) (ns : List (List UInt8)) (s : List UInt8) (i3 : Int) (l4 : List V) (r : Bool) (T :
  ((i3 < ((ns.length : Nat) : Int)) →
  (0 ≤ i3) ∧
  ∃ (v5 : List UInt8), (ns[i3.toNat]? = some v5) ∧
  ((12 < ((v5.length : Nat) : Int)) →
   ∃ (r6 : Bool), (R_law5_awake r6) ∧
   r6 = r) ∧
  (¬ (12 < ((v5.length : Nat) : Int)) →
   ∃ (r7 : V), (R_law4_Make v5 s r7) ∧
   (bigRow (l4.length + 1) 56) ∧
   (I64 (i3 + 1)) ∧
   At_law5_FunMade_1 which ns s (i3 + 1) (l4 ++ [r7]) r)) ∧
 (¬ (i3 < ((ns.length : Nat) : Int)) →
  (0 ≤ (((which.toNat : Nat) : Int).tmod 11)) ∧
  ∃ (v8 : List UInt8), (([[109, 105, 110], [109, 97, 120], [115, 117, 109], [108, 101, 110], [99, 111, 110, 99, 97, 116], [106, 111, 105, 110], [114, 97, 110, 103, 101], [97, 98, 115], [104, 97, 115], [116, 101, 120, 116], [110, 111, 112, 101]] : List (List UInt8))[(((which.toNat : Nat) : Int).tmod 11).toNat]? = some v8) ∧
  ∃ (r9 : V) (r10 : Int), (R_fun_Call v8 l4 r9 r10) ∧
  ∃ (r11 : Got), (R_ref4_Call v8 l4 r11) ∧
  ∃ (r12 : Bool), (R_ref4_SameVal r9 r11.V r12) ∧
  ((r12 = true) →
   ∃ (r13 : Int), (R_law1_Num r10 r13) ∧
   ((r13 = r11.E) →
    ((r11.E = 0) →
     ∃ (r14 : Bool), (R_ref4_MayVal r9 r14) ∧
     ((r14 = true) →
      ∃ (r15 : Bool), (R_law5_awake r15) ∧
      r15 = r) ∧
     (¬ (r14 = true) →
      false = r)) ∧
    (¬ (r11.E = 0) →
     ∃ (r16 : Bool), (R_law5_awake r16) ∧
     r16 = r)) ∧
   (¬ (r13 = r11.E) →
    false = r)) ∧
  (¬ (r12 = true) →
   false = r))) : At_law5_FunMade_1 which ns s i3 l4 r := by
 intro S e f h
 unfold k_law5_FunMade_1
 rw [E_loop]
 by_cases c1 : i3 < ((ns.length : Nat) : Int)
 · replace T := T.1 c1
   obtain ⟨p2, v5, q3, T⟩ := T
   by_cases c4 : 12 < ((v5.length : Nat) : Int)
   · replace T := T.1 c4
     obtain ⟨r6, q5, rfl⟩ := T
     simp only [R_law5_awake, le] at q5
     simp only [h, eq_true c1, p2, q3, eq_true c4, q5, U_law5_FunMade, lw, le, Nat.zero_le, Nat.sub_zero, take_app3, set_get, take_set, List.length_set, List.map_set, reduceIte, reduceCtorEq, Nat.reduceEqDiff, Nat.reduceAdd, Nat.reduceLeDiff, Nat.reduceSub, Nat.reduceLT, Int.reduceEq, Int.reduceLT, Int.reduceLE, Int.reduceToNat, Int.reduceAdd, Int.reduceSub, Int.reduceMul, Int.reduceNeg, Int.cast_ofNat_Int]
   · replace T := T.2 c4
     obtain ⟨r7, q6, p7, p8, T⟩ := T
     simp only [R_law4_Make, le] at q6
     simp only [bigRow] at p7
     try simp only [h, eq_true c1, p2, q3, eq_false c4, q6, p7, p8.wrap, U_law5_FunMade, lw, le, Nat.zero_le, Nat.sub_zero, take_app3, set_get, take_set, List.length_set, List.map_set, reduceIte, reduceCtorEq, Nat.reduceEqDiff, Nat.reduceAdd, Nat.reduceLeDiff, Nat.reduceSub, Nat.reduceLT, Int.reduceEq, Int.reduceLT, Int.reduceLE, Int.reduceToNat, Int.reduceAdd, Int.reduceSub, Int.reduceMul, Int.reduceNeg, Int.cast_ofNat_Int]
     refine T S _ _ ?_
     simp only [h, eq_true c1, p2, q3, eq_false c4, q6, p7, p8.wrap, U_law5_FunMade, lw, le, Nat.zero_le, Nat.sub_zero, take_app3, set_get, take_set, List.length_set, List.map_set, reduceIte, reduceCtorEq, Nat.reduceEqDiff, Nat.reduceAdd, Nat.reduceLeDiff, Nat.reduceSub, Nat.reduceLT, Int.reduceEq, Int.reduceLT, Int.reduceLE, Int.reduceToNat, Int.reduceAdd, Int.reduceSub, Int.reduceMul, Int.reduceNeg, Int.cast_ofNat_Int]
 · replace T := T.2 c1
   obtain ⟨p9, v8, q10, r9, r10, q11, r11, q12, r12, q13, T⟩ := T
   replace q10 := congrArg (Option.map eS) q10
   rw [← List.getElem?_map] at q10
   simp only [le, Option.map_some] at q10
   simp only [R_fun_Call, le] at q11
   simp only [R_ref4_Call, le] at q12
   simp only [R_ref4_SameVal, le] at q13
   by_cases c14 : r12 = true
   · replace T := T.1 c14
     obtain ⟨r13, q15, T⟩ := T
     simp only [R_law1_Num, le] at q15
     by_cases c16 : r13 = r11.E
     · replace T := T.1 c16
       by_cases c17 : r11.E = 0
       · replace T := T.1 c17
         obtain ⟨r14, q18, T⟩ := T
         simp only [R_ref4_MayVal, le] at q18
         by_cases c19 : r14 = true
         · replace T := T.1 c19
           obtain ⟨r15, q20, rfl⟩ := T
           simp only [R_law5_awake, le] at q20
           simp only [h, eq_false c1, p9, q10, q11, q12, q13, c14, q15, eq_true c16, eq_true c17, q18, c19, q20, U_law5_FunMade, lw, le, Nat.zero_le, Nat.sub_zero, take_app3, set_get, take_set, List.length_set, List.map_set, reduceIte, reduceCtorEq, Nat.reduceEqDiff, Nat.reduceAdd, Nat.reduceLeDiff, Nat.reduceSub, Nat.reduceLT, Int.reduceEq, Int.reduceLT, Int.reduceLE, Int.reduceToNat, Int.reduceAdd, Int.reduceSub, Int.reduceMul, Int.reduceNeg, Int.cast_ofNat_Int]
         · replace T := T.2 c19
           replace c19 := Bool.eq_false_iff.2 c19
           obtain rfl := T
           simp only [h, eq_false c1, p9, q10, q11, q12, q13, c14, q15, eq_true c16, eq_true c17, q18, c19, U_law5_FunMade, lw, le, Nat.zero_le, Nat.sub_zero, take_app3, set_get, take_set, List.length_set, List.map_set, reduceIte, reduceCtorEq, Nat.reduceEqDiff, Nat.reduceAdd, Nat.reduceLeDiff, Nat.reduceSub, Nat.reduceLT, Int.reduceEq, Int.reduceLT, Int.reduceLE, Int.reduceToNat, Int.reduceAdd, Int.reduceSub, Int.reduceMul, Int.reduceNeg, Int.cast_ofNat_Int]
       · replace T := T.2 c17
         obtain ⟨r16, q21, rfl⟩ := T
         simp only [R_law5_awake, le] at q21
         simp only [h, eq_false c1, p9, q10, q11, q12, q13, c14, q15, eq_true c16, eq_false c17, q21, U_law5_FunMade, lw, le, Nat.zero_le, Nat.sub_zero, take_app3, set_get, take_set, List.length_set, List.map_set, reduceIte, reduceCtorEq, Nat.reduceEqDiff, Nat.reduceAdd, Nat.reduceLeDiff, Nat.reduceSub, Nat.reduceLT, Int.reduceEq, Int.reduceLT, Int.reduceLE, Int.reduceToNat, Int.reduceAdd, Int.reduceSub, Int.reduceMul, Int.reduceNeg, Int.cast_ofNat_Int]
     · replace T := T.2 c16
       obtain rfl := T
       simp only [h, eq_false c1, p9, q10, q11, q12, q13, c14, q15, eq_false c16, U_law5_FunMade, lw, le, Nat.zero_le, Nat.sub_zero, take_app3, set_get, take_set, List.length_set, List.map_set, reduceIte, reduceCtorEq, Nat.reduceEqDiff, Nat.reduceAdd, Nat.reduceLeDiff, Nat.reduceSub, Nat.reduceLT, Int.reduceEq, Int.reduceLT, Int.reduceLE, Int.reduceToNat, Int.reduceAdd, Int.reduceSub, Int.reduceMul, Int.reduceNeg, Int.cast_ofNat_Int]
   · replace T := T.2 c14
     replace c14 := Bool.eq_false_iff.2 c14
     obtain rfl := T
     simp only [h, eq_false c1, p9, q10, q11, q12, q13, c14, U_law5_FunMade, lw, le, Nat.zero_le, Nat.sub_zero, take_app3, set_get, take_set, List.length_set, List.map_set, reduceIte, reduceCtorEq, Nat.reduceEqDiff, Nat.reduceAdd, Nat.reduceLeDiff, Nat.reduceSub, Nat.reduceLT, Int.reduceEq, Int.reduceLT, Int.reduceLE, Int.reduceToNat, Int.reduceAdd, Int.reduceSub, Int.reduceMul, Int.reduceNeg, Int.cast_ofNat_Int]
set_option maxHeartbeats 4000000 in
theorem law5_FunMade_tree (which : UInt8) (ns : List (List UInt8)) (s : List UInt8) (r : Bool) (T :
  ((6 < ((ns.length : Nat) : Int)) →
  ∃ (r1 : Bool), (R_law5_awake r1) ∧
  r1 = r) ∧
 (¬ (6 < ((ns.length : Nat) : Int)) →
  ((100 < ((s.length : Nat) : Int)) →
   ∃ (r2 : Bool), (R_law5_awake r2) ∧
   r2 = r) ∧
  (¬ (100 < ((s.length : Nat) : Int)) →
   At_law5_FunMade_1 which ns s 0 [] r))) : R_law5_FunMade which ns s r := by
 intro S
 rw [call_code sp_law5_FunMade _ _ rfl]
 by_cases c1 : 6 < ((ns.length : Nat) : Int)
 · replace T := T.1 c1
   obtain ⟨r1, q2, rfl⟩ := T
   simp only [R_law5_awake, le] at q2
   simp only [eq_true c1, q2, U_law5_FunMade, lw, le, Nat.zero_le, Nat.sub_zero, take_app3, set_get, take_set, List.length_set, List.map_set, reduceIte, reduceCtorEq, Nat.reduceEqDiff, Nat.reduceAdd, Nat.reduceLeDiff, Nat.reduceSub, Nat.reduceLT, Int.reduceEq, Int.reduceLT, Int.reduceLE, Int.reduceToNat, Int.reduceAdd, Int.reduceSub, Int.reduceMul, Int.reduceNeg, Int.cast_ofNat_Int]
 · replace T := T.2 c1
   by_cases c3 : 100 < ((s.length : Nat) : Int)
   · replace T := T.1 c3
     obtain ⟨r2, q4, rfl⟩ := T
     simp only [R_law5_awake, le] at q4
     simp only [eq_false c1, eq_true c3, q4, U_law5_FunMade, lw, le, Nat.zero_le, Nat.sub_zero, take_app3, set_get, take_set, List.length_set, List.map_set, reduceIte, reduceCtorEq, Nat.reduceEqDiff, Nat.reduceAdd, Nat.reduceLeDiff, Nat.reduceSub, Nat.reduceLT, Int.reduceEq, Int.reduceLT, Int.reduceLE, Int.reduceToNat, Int.reduceAdd, Int.reduceSub, Int.reduceMul, Int.reduceNeg, Int.cast_ofNat_Int]
   · replace T := T.2 c3
     try simp only [eq_false c1, eq_false c3, U_law5_FunMade, lw, le, Nat.zero_le, Nat.sub_zero, take_app3, set_get, take_set, List.length_set, List.map_set, reduceIte, reduceCtorEq, Nat.reduceEqDiff, Nat.reduceAdd, Nat.reduceLeDiff, Nat.reduceSub, Nat.reduceLT, Int.reduceEq, Int.reduceLT, Int.reduceLE, Int.reduceToNat, Int.reduceAdd, Int.reduceSub, Int.reduceMul, Int.reduceNeg, Int.cast_ofNat_Int]
     refine T S _ _ ?_
     simp only [eq_false c1, eq_false c3, U_law5_FunMade, lw, le, Nat.zero_le, Nat.sub_zero, take_app3, set_get, take_set, List.length_set, List.map_set, reduceIte, reduceCtorEq, Nat.reduceEqDiff, Nat.reduceAdd, Nat.reduceLeDiff, Nat.reduceSub, Nat.reduceLT, Int.reduceEq, Int.reduceLT, Int.reduceLE, Int.reduceToNat, Int.reduceAdd, Int.reduceSub, Int.reduceMul, Int.reduceNeg, Int.cast_ofNat_Int]
end Go.Proofs.YtkbdinocadoelaaDoor.M

/- FunMade. -/
namespace Go.Proofs.YtkbdinocadoelaaDoor.M
set_option linter.unusedSimpArgs false
set_option linter.unusedVariables false
open Go Classical
/-- A value by numbers. -/
def mkV (s : List UInt8) : Nat → List UInt8 → V
  | 0, _ => numV 0
  | f + 1, [] => numV 0
  | f + 1, b :: ns =>
    if b.toNat % 5 = 0 then (if s.length ≤ 60 then .mk 2 0 (s ++ Lib.itoa ((b.toNat / 5 % 3 : Nat) : Int)) [] else numV (((b.toNat / 5 : Nat) : Int) - 20))
    else if b.toNat % 5 = 1 then .mk 3 ((b.toNat / 5 % 2 : Nat) : Int) [] []
    else if b.toNat % 5 = 2 then .mk 4 0 [] ((List.range' 0 (min ns.length (b.toNat / 5 % 6))).map fun i => mkV s f (((b :: ns).drop (i + 1)).take (min (ns.length + 1) (i + 1 + b.toNat / 30 % 3 + 1) - (i + 1))))
    else numV (((b.toNat / 5 : Nat) : Int) - 20)
theorem r_Make_loop (s : List UInt8) (f : Nat) (b : UInt8) (ns : List UInt8) (hn : ns.length ≤ 100) (ih : ∀ ms : List UInt8, ms.length ≤ f → ms.length ≤ 100 → R_law4_Make ms s (mkV s f ms)) (hf : ns.length ≤ f) (g : Nat) :
    ∀ (k i : Nat), i + k = min ns.length (b.toNat / 5 % 6) → ∀ l : List V, l.length = i → At_law4_Make_1 (b :: ns) s b ((i + 1 : Nat) : Int) l g (.mk 4 0 [] (l ++ (List.range' i k).map fun i => mkV s f (((b :: ns).drop (i + 1)).take (min (ns.length + 1) (i + 1 + b.toNat / 30 % 3 + 1) - (i + 1))))) := by
  have hb : b.toNat < 256 := b.toNat_lt
  have d5 := tdivN b.toNat 5
  have d30 := tdivN b.toNat 30
  have m6 := tmodN (b.toNat / 5) 6
  have m3 := tmodN (b.toNat / 30) 3
  simp only [Int.cast_ofNat_Int] at d5 d30 m6 m3
  intro k
  induction k with
  | zero =>
    intro i hi l hl
    apply At_law4_Make_1_step
    simp only [d5, d30, m6, m3, List.length_cons]
    refine ⟨fun h => ⟨⟨by omega, by omega⟩, fun h2 => by omega, fun _ => by simp⟩, fun _ => by simp⟩
  | succ k ihk =>
    intro i hi l hl
    apply At_law4_Make_1_step
    simp only [d5, d30, m6, m3, List.length_cons]
    refine ⟨fun h => ⟨⟨by omega, by omega⟩, fun h2 => ?_, fun h2 => by omega⟩, fun h => by omega⟩
    have e : (if (((i + 1 : Nat) : Int) + ((b.toNat / 30 % 3 : Nat) : Int)) + 1 < ((ns.length + 1 : Nat) : Int) then ((((i + 1 : Nat) : Int) + ((b.toNat / 30 % 3 : Nat) : Int)) + 1) else ((ns.length + 1 : Nat) : Int)) = ((min (ns.length + 1) (i + 1 + b.toNat / 30 % 3 + 1) : Nat) : Int) := by split <;> omega
    simp only [e, Int.toNat_natCast]
    refine ⟨⟨by omega, by omega⟩, ⟨by omega, by omega⟩, ⟨by omega, by omega⟩, by omega, by omega, by omega, by omega, _, ih _ ?_ ?_, by simp only [bigRow]; omega, ⟨by omega, by omega⟩, ?_⟩
    · simp only [List.length_take, List.length_drop, List.length_cons]; omega
    · simp only [List.length_take, List.length_drop, List.length_cons]; omega
    · have := ihk (i + 1) (by omega) (l ++ [mkV s f (((b :: ns).drop (i + 1)).take (min (ns.length + 1) (i + 1 + b.toNat / 30 % 3 + 1) - (i + 1)))]) (by simp [hl])
      simp only [List.range'_succ, List.map_cons]
      rw [List.append_assoc] at this
      exact this
theorem r_Make (s : List UInt8) (hs : s.length ≤ 1000) : ∀ (f : Nat) (ns : List UInt8), ns.length ≤ f → ns.length ≤ 100 → R_law4_Make ns s (mkV s f ns) := by
  intro f
  induction f with
  | zero =>
    intro ns h h2
    obtain rfl : ns = [] := List.eq_nil_of_length_eq_zero (by omega)
    apply law4_Make_tree
    exact ⟨fun _ => rfl, fun h => by simp at h⟩
  | succ f ih =>
    intro ns h h2
    apply law4_Make_tree
    cases ns with
    | nil => exact ⟨fun _ => rfl, fun h => by simp at h⟩
    | cons b ns =>
      have hb : b.toNat < 256 := b.toNat_lt
      have d5 := tdivN b.toNat 5
      have m5 := tmodN b.toNat 5
      have m2 := tmodN (b.toNat / 5) 2
      have m3 := tmodN (b.toNat / 5) 3
      simp only [Int.cast_ofNat_Int] at d5 m5 m2 m3
      have hI : I64 ((b.toNat / 5 % 3 : Nat) : Int) := ⟨by omega, by omega⟩
      have hle := Lib.itoa_length_le _ hI.1 hI.2
      simp only [mkV]
      simp only [List.length_cons] at h h2 ⊢
      refine ⟨fun h => by omega, fun _ => ⟨b, by simp, ⟨by omega, by omega⟩, ?_⟩⟩
      simp only [d5, m5, m2, m3]
      refine ⟨fun h0 => ⟨fun hl => ⟨⟨by omega, by omega⟩, _, r_Digits _ hI, by simp only [maxInt]; omega, ?_⟩, fun hl => ⟨⟨by omega, by omega⟩, ⟨by omega, by omega⟩, ?_⟩⟩, fun h0 => ⟨fun h1 => ⟨⟨by omega, by omega⟩, ?_⟩, fun h1 => ⟨fun h2 => ?_, fun h2 => ⟨⟨by omega, by omega⟩, ⟨by omega, by omega⟩, ?_⟩⟩⟩⟩
      · rw [if_pos (by omega), if_pos (by omega)]
      · rw [if_pos (by omega), if_neg (by omega)]; rfl
      · rw [if_neg (by omega), if_pos (by omega)]
      · rw [if_neg (by omega), if_neg (by omega), if_pos (by omega)]
        have := r_Make_loop s f b ns (by omega) ih (by omega) 1 (min ns.length (b.toNat / 5 % 6)) 0 (by omega) [] rfl
        simpa using this
      · rw [if_neg (by omega), if_neg (by omega), if_neg (by omega)]; rfl
/-- A value that may be. -/
def Fine (d : Nat) (v : V) : Prop := Arg v ∧ plainV v = true ∧ deep v ≤ d
theorem fine_num {d : Nat} {x : Int} (h : I64 x) : Fine d (numV x) := ⟨arg_num h, by simp [numV, plainV], by simp [numV, deep]⟩
theorem plainA_of : ∀ {l : List V}, (∀ v ∈ l, plainV v = true) → plainV.plainA l = true
  | [], _ => rfl
  | v :: l, h => by simp only [plainV.plainA, h v (by simp), Bool.true_and]; exact plainA_of fun u hu => h u (by simp [hu])
theorem mkV_fine (s : List UInt8) (hs : s.length ≤ 300) : ∀ (f : Nat), f ≤ 1000 → ∀ ns : List UInt8, Fine f (mkV s f ns)
  | 0, _, _ => by simp only [mkV]; exact fine_num ⟨by omega, by omega⟩
  | f + 1, _, [] => by simp only [mkV]; exact fine_num ⟨by omega, by omega⟩
  | f + 1, hf, b :: ns => by
    have hb : b.toNat < 256 := b.toNat_lt
    simp only [mkV]
    split
    · split
      · have hI : I64 ((b.toNat / 5 % 3 : Nat) : Int) := ⟨by omega, by omega⟩
        have hle := Lib.itoa_length_le _ hI.1 hI.2
        have hle2 := hle
        rw [show ((b.toNat / 5 % 3 : Nat) : Int) = (b.toNat : Int) / 5 % 3 by omega] at hle2
        exact ⟨arg_str (by simp only [List.length_append]; omega), by simp [plainV]; omega, by simp [deep]⟩
      · exact fine_num ⟨by omega, by omega⟩
    · split
      · have h01 : ((b.toNat / 5 % 2 : Nat) : Int) = 0 ∨ ((b.toNat / 5 % 2 : Nat) : Int) = 1 := by omega
        refine ⟨⟨by simp [small, smallA], ⟨by simp only [V.n]; omega, by simp only [V.n]; omega⟩, fun _ => h01, by simp [V.l], by simp [V.s], fun h => by simp [V.k] at h, fun _ => rfl, by simp [deep], fun x hx => by cases hx⟩, ?_, by simp [deep]⟩
        simp only [plainV]
        simp
        omega
      · split
        · generalize hg : (List.range' 0 (min ns.length (b.toNat / 5 % 6))).map (fun i => mkV s f (((b :: ns).drop (i + 1)).take (min (ns.length + 1) (i + 1 + b.toNat / 30 % 3 + 1) - (i + 1)))) = l
          have hl : l.length ≤ 5 := by rw [← hg]; simp only [List.length_map, List.length_range']; omega
          have hx : ∀ x ∈ l, Fine f x := fun x hx => by
            rw [← hg] at hx
            obtain ⟨i, _, rfl⟩ := List.mem_map.1 hx
            exact mkV_fine s hs f (by omega) _
          have hd : deepL l ≤ f := deepL_le fun x h => (hx x h).2.2
          refine ⟨⟨by simp only [small]; exact ⟨by omega, smallA_of fun x h => (hx x h).1.sm⟩, ⟨by simp [V.n], by simp [V.n]⟩, fun h => by simp [V.k] at h, by simp only [V.l]; omega, by simp [V.s], fun h => by simp [V.k] at h, fun h => absurd rfl h, by simp only [deep, if_true]; omega, fun x h => ⟨(hx x h).1.sm, (hx x h).1.ok, (hx x h).1.tr, (hx x h).1.sl⟩⟩, ?_, by simp only [deep, if_true]; omega⟩
          simp [plainV, plainA_of fun x h => (hx x h).2.1]
          omega
        · exact fine_num ⟨by omega, by omega⟩
/-! ### What comes of it may be -/
def May2 (r : V × Int) : Prop := r.2 = 0 → plainV r.1 = true ∧ deep r.1 ≤ 64
theorem may_num (n : Int) (e : Int) : May2 (numV n, e) := fun _ => ⟨by simp [numV, plainV], by simp [numV, deep]⟩
theorem may_err {e : Int} (h : e ≠ 0) : May2 (zeroV, e) := fun h' => absurd h' h
theorem may_join (l : List (List UInt8)) : May2 (joinV l) := by
  unfold joinV
  split
  · rename_i h
    rw [List.length_flatten] at h
    exact fun _ => ⟨by simp [plainV]; omega, by simp [deep]⟩
  · exact may_err (by decide)
theorem may_list (l : List V) (h : ∀ v ∈ l, plainV v = true) : May2 (listS l) := by
  unfold listS
  split
  · exact may_err (by decide)
  · refine fun _ => ⟨?_, by simp only [deep, if_true]; omega⟩
    simp [plainV, plainA_of h]
    omega
theorem may_sum : ∀ (l : List V) (n : Int), May2 (sumS n l)
  | [], n => may_num n 0
  | v :: l, n => by
    unfold sumS
    split
    · exact may_sum l _
    · rename_i h; exact may_err h
theorem may_one (v : V) (e : Int) (h : v.k = 1) : May2 (oneT 9 v) := by
  unfold May2 oneT
  simp [h]
  split <;> simp [zeroV, numV, plainV, deep]
theorem plain_in {v : V} (h : plainV v = true) (hk : v.k = 4) : ∀ x ∈ v.l, plainV x = true := by
  rw [plainV_eq] at h
  simp only [hk] at h
  simp at h
  exact h.2
theorem callS_may (name : List UInt8) (l : List V) (h : ∀ v ∈ l, Fine 64 v) : May2 (callS name l) := by
  have rule : ∀ (lo hi : Nat) (may : Nat → V → Bool) (todo : List V → V × Int), (mayAll may 0 l = true → May2 (todo l) ∨ l = []) → lo ≠ 0 → May2 (ruleS lo hi may todo l) := by
    intro lo hi may todo hs h0
    unfold ruleS
    split
    · exact may_err (by decide)
    · split
      · exact may_err (by decide)
      · split
        · rename_i hlo _ hm
          rcases hs hm with h | h
          · exact h
          · rw [h] at hlo; simp at hlo; exact absurd hlo h0
        · exact may_err (by decide)
  unfold callS
  split
  · refine rule _ _ _ _ (fun _ => ?_) (by decide)
    cases l
    · exact .inr rfl
    · exact .inl (may_num _ _)
  split
  · refine rule _ _ _ _ (fun _ => ?_) (by decide)
    cases l
    · exact .inr rfl
    · exact .inl (may_num _ _)
  split
  · refine rule _ _ _ _ (fun _ => ?_) (by decide)
    cases l
    · exact .inr rfl
    · exact .inl (may_sum _ _)
  split
  · refine rule _ _ _ _ (fun _ => ?_) (by decide)
    cases l
    · exact .inr rfl
    · exact .inl (may_num _ _)
  split
  · refine rule _ _ _ _ (fun hm => .inl ?_) (by decide)
    have hk := lists_of hm
    refine may_list _ fun x hx => ?_
    rw [List.mem_flatten] at hx
    obtain ⟨m, hm, hx⟩ := hx
    rw [List.mem_map] at hm
    obtain ⟨v, hv, rfl⟩ := hm
    exact plain_in (h v hv).2.1 (hk v hv) x hx
  split
  · unfold ruleS
    split
    · exact may_err (by decide)
    · split
      · exact may_err (by decide)
      · split
        · rename_i h1 h2 _
          match l, h1 with
          | [], h1 => exact absurd (by simp) h1
          | [_], h1 => exact absurd (by simp) h1
          | _ :: _ :: _, _ => exact may_join _
        · exact may_err (by decide)
  split
  · refine rule _ _ _ _ (fun _ => ?_) (by decide)
    cases l with
    | nil => exact .inr rfl
    | cons v l =>
      left
      unfold tRange
      dsimp only
      split
      · exact may_err (by decide)
      · split
        · exact may_err (by decide)
        · refine may_list _ fun x hx => ?_
          simp only [countV, List.mem_map] at hx
          obtain ⟨i, _, rfl⟩ := hx
          simp [numV, plainV]
  split
  · refine rule _ _ _ _ (fun hm => ?_) (by decide)
    cases l with
    | nil => exact .inr rfl
    | cons v l =>
      left
      have hk : v.k = 1 := mayAll_all (fun i v h => by simpa [mNum, numB] using h) hm v (by simp)
      unfold tAbs
      dsimp only
      split
      · exact may_one v 0 hk
      · exact may_num _ _
  split
  · unfold ruleS
    split
    · exact may_err (by decide)
    · split
      · exact may_err (by decide)
      · split
        · rename_i h1 h2 _
          match l, h1 with
          | [], h1 => exact absurd (by simp) h1
          | [_], h1 => exact absurd (by simp) h1
          | v :: u :: l, _ =>
            intro _
            unfold tHas
            dsimp only
            split <;> simp [plainV, deep]
        · exact may_err (by decide)
  split
  · refine rule _ _ _ _ (fun _ => ?_) (by decide)
    cases l with
    | nil => exact .inr rfl
    | cons v l =>
      left
      unfold tText
      dsimp only
      split
      · exact may_join _
      · rename_i h; exact may_err h
  · exact may_err (by decide)
theorem r_FunMade_loop (which : UInt8) (ns : List (List UInt8)) (hn : ns.length ≤ 6) (s : List UInt8) (hs : s.length ≤ 100) : ∀ (k i : Nat), i + k = ns.length → ∀ l : List V, l.length = i → (∀ v ∈ l, Fine 64 v) → At_law5_FunMade_1 which ns s i l true := by
  have hm : ((which.toNat : Nat) : Int).tmod 11 = ((which.toNat % 11 : Nat) : Int) := tmodN which.toNat 11
  have hlt11 : which.toNat % 11 < 11 := Nat.mod_lt _ (by omega)
  intro k
  induction k with
  | zero =>
    intro i hi l hl hf
    apply At_law5_FunMade_1_step
    have hS : Sane l := ⟨by omega, fun v hv => (hf v hv).1⟩
    rw [hm]
    refine ⟨fun h => by omega, fun _ => ⟨by omega, _, by rw [Int.toNat_natCast]; exact List.getElem?_eq_getElem (by simp only [List.length_cons, List.length_nil]; omega), _, _, r_Call _ l hS, _, r_rCall _ l hS, _, r_SameVal _ _ (callS_small _ l hS), fun _ => ⟨_, r_Num _, fun _ => ⟨fun he => ⟨_, r_MayVal _ (callS_small _ l hS), fun _ => ⟨_, r5_awake, rfl⟩, fun hq => ?_⟩, fun _ => ⟨_, r5_awake, rfl⟩⟩, fun hq => absurd rfl hq⟩, fun hq => absurd (sameV_refl _) hq⟩⟩
    exfalso
    obtain ⟨h1, h2⟩ := callS_may _ l hf he
    apply hq
    rw [h1]
    simp [h2]
  | succ k ih =>
    intro i hi l hl hf
    apply At_law5_FunMade_1_step
    have hlt : i < ns.length := by omega
    refine ⟨fun _ => ⟨by omega, ns[i], by simp [hlt], fun _ => ⟨_, r5_awake, rfl⟩, fun h12 => ⟨_, r_Make s (by omega) 12 ns[i] (by omega) (by omega), ⟨by omega, by omega, by omega⟩, ⟨by omega, by omega⟩, ?_⟩⟩, fun h => absurd (by omega) h⟩
    refine ih (i + 1) (by omega) _ (by simp [hl]) fun v hv => ?_
    rcases List.mem_append.1 hv with hv | hv
    · exact hf v hv
    · rw [List.mem_singleton.1 hv]
      obtain ⟨h1, h2, h3⟩ := mkV_fine s (by omega) 12 (by omega) ns[i]
      exact ⟨h1, h2, by omega⟩
theorem r_FunMade (which : UInt8) (ns : List (List UInt8)) (s : List UInt8) : R_law5_FunMade which ns s true := by
  apply law5_FunMade_tree
  exact ⟨fun _ => ⟨_, r5_awake, rfl⟩, fun h => ⟨fun _ => ⟨_, r5_awake, rfl⟩, fun h2 => r_FunMade_loop which ns (by omega) s (by omega) ns.length 0 (by omega) [] rfl (fun v hv => by cases hv)⟩⟩
end Go.Proofs.YtkbdinocadoelaaDoor.M

/-
  DERIVED: THE SHELF's CONTRACTS AT THIS DUMP, IN PLAIN WORDS (tools/lay-plain.mjs out of 'TrydShelf.lean', which tools/lay-shelf.mjs wrote): THE SAME DECLARATIONS UNDER THE SAME NAMES: 'import', 'namespace', 'open', 'def', 'theorem' AND NOTHING ELSE: no command of the shelf's: FOR A HAND-IN. Each laying: the table of numbers ('.._ren') and one theorem, a field a fact of the dump's own or the kernel's comparison; each contract: ONE APPLICATION.
-/
namespace Go.Proofs
open Go.Shelf
def Tryd.lays169_ren : Go.Shelf.Ren := ⟨fun | 169 => 82 | n => n, fun | 70 => 91 | 9 => 9 | 0 => 0 | 72 => 93 | 37 => 38 | 127 => 100 | 3 => 3 | 5 => 5 | n => n, fun | n => n⟩
theorem Tryd.lays169 : Go.Proofs.Lays.n169 Tryd.prog Tryd.lays169_ren := {
  mixed := by kernel_rfl
  f169 := Tryd.func82.trans (congrArg some (by kernel_rfl))
  t0 := Tryd.underlying0
  a0 := Tryd.isAgg0
  z0 := Tryd.sizeOf0
  v0 := Tryd.zeroValue0
  t3 := Tryd.underlying3
  a3 := Tryd.isAgg3
  z3 := Tryd.sizeOf3
  v3 := Tryd.zeroValue3
  t9 := Tryd.underlying9
  a9 := Tryd.isAgg9
  z9 := Tryd.sizeOf9
  v9 := Tryd.zeroValue9
  t37 := Tryd.underlying38
  a37 := Tryd.isAgg38
  z37 := Tryd.sizeOf38
  v37 := Tryd.zeroValue38
  t70 := Tryd.underlying91
  a70 := Tryd.isAgg91
  z70 := Tryd.sizeOf91
  v70 := Tryd.zeroValue91
  t72 := Tryd.underlying93
  a72 := Tryd.isAgg93
  z72 := Tryd.sizeOf93
  v72 := Tryd.zeroValue93
  t127 := Tryd.underlying100
  a127 := Tryd.isAgg100
  z127 := Tryd.sizeOf100
  v127 := Tryd.zeroValue100 }
theorem Tryd.Builder_Extra_169 : Builder.Extra Tryd.prog Tryd.lays169_ren := {
  sizeBuilder := by kernel_rfl
  liesBuilder := by kernel_rfl
  t5 := Tryd.underlying5
  a5 := Tryd.isAgg5
  z5 := Tryd.sizeOf5
  v5 := Tryd.zeroValue5
  infoByte := by kernel_rfl
  cellsByte := by kernel_rfl
  sizeByte := by kernel_rfl
  neB5 := by decide }
open Go.RowKit in
/-- (*strings.Builder).String: "String returns the accumulated string.": OF A BUILDER THAT HOLDS AT LEAST ONE BYTE. ✋ THE MODEL FREEZES THOSE BYTES IN THE BUFFER (unsafe.String): a later write INTO them ends the model's run without an answer; a later append BEHIND them goes on. The statement's order of evaluation is drawn: one draw. (LAID: no walk: one application.) -/
theorem Tryd.Builder_String (B b : Nat) (l : List UInt8) (w : World) (h : Lib.IsBuilder 93 5 B b (Lib.byteCells l) w) (h0 : l ≠ []) :
    Calls Tryd.prog 82 #[.pointer (some ⟨b, 0, none⟩)] w fun e w' => e = .returned (.string ⟨l.toArray⟩) ∧ Below B w w' := Any.Builder_String Tryd.lays169 Tryd.Builder_Extra_169 B b l w h h0
open Go.RowKit in
/-- (*strings.Builder).String OF A BUILDER THAT HOLDS NO BYTE: the empty string. (Its buffer is nil, or a row of which it has taken nothing yet; where that row has NO capacity the model lays one new block for unsafe.SliceData's 'some address'.) One draw. (LAID: no walk: one application.) -/
theorem Tryd.Builder_String_empty (B b : Nat) (w : World) (h : Lib.IsBuilder 93 5 B b [] w) (hBw : B ≤ w.heap.size) :
    Calls Tryd.prog 82 #[.pointer (some ⟨b, 0, none⟩)] w fun e w' => e = .returned (.string ⟨#[]⟩) ∧ Below B w w' := Any.Builder_String_empty Tryd.lays169 Tryd.Builder_Extra_169 B b w h hBw
open Go.RowKit in
/-- (*strings.Builder).String: "String returns the accumulated string.": WHATEVER THE BUILDER HOLDS. (LAID: no walk: one application.) -/
theorem Tryd.Builder_String_any (B b : Nat) (l : List UInt8) (w : World) (h : Lib.IsBuilder 93 5 B b (Lib.byteCells l) w) (hBw : B ≤ w.heap.size) :
    Calls Tryd.prog 82 #[.pointer (some ⟨b, 0, none⟩)] w fun e w' => e = .returned (.string ⟨l.toArray⟩) ∧ Below B w w' := Any.Builder_String_any Tryd.lays169 Tryd.Builder_Extra_169 B b l w h hBw
def Tryd.lays241_ren : Go.Shelf.Ren := ⟨fun | 241 => 86 | 277 => 89 | n => n, fun | 70 => 91 | 3 => 3 | 0 => 0 | 72 => 93 | 37 => 38 | 5 => 5 | n => n, fun | n => n⟩
theorem Tryd.lays241 : Go.Proofs.Lays.n241 Tryd.prog Tryd.lays241_ren := {
  mixed := by kernel_rfl
  f241 := Tryd.func86.trans (congrArg some (by kernel_rfl))
  f277 := Tryd.func89.trans (congrArg some (by kernel_rfl))
  t0 := Tryd.underlying0
  a0 := Tryd.isAgg0
  z0 := Tryd.sizeOf0
  v0 := Tryd.zeroValue0
  t3 := Tryd.underlying3
  a3 := Tryd.isAgg3
  z3 := Tryd.sizeOf3
  v3 := Tryd.zeroValue3
  t37 := Tryd.underlying38
  a37 := Tryd.isAgg38
  z37 := Tryd.sizeOf38
  v37 := Tryd.zeroValue38
  t70 := Tryd.underlying91
  a70 := Tryd.isAgg91
  z70 := Tryd.sizeOf91
  v70 := Tryd.zeroValue91
  t72 := Tryd.underlying93
  a72 := Tryd.isAgg93
  z72 := Tryd.sizeOf93
  v72 := Tryd.zeroValue93 }
theorem Tryd.Builder_Extra_241 : Builder.Extra Tryd.prog Tryd.lays241_ren := {
  sizeBuilder := by kernel_rfl
  liesBuilder := by kernel_rfl
  t5 := Tryd.underlying5
  a5 := Tryd.isAgg5
  z5 := Tryd.sizeOf5
  v5 := Tryd.zeroValue5
  infoByte := by kernel_rfl
  cellsByte := by kernel_rfl
  sizeByte := by kernel_rfl
  neB5 := by decide }
open Go.RowKit in
/-- (*strings.Builder).grow (no doc but "grow copies the buffer to a new, larger buffer so that there are at least n bytes of capacity beyond len(b.buf)."): AT A BUILDER WITHOUT A BUFFER: a new row of whatever bytes for its buffer, none of them its own yet. Three draws. (LAID: no walk: one application.) -/
theorem Tryd.Builder_grow_fresh (B b n : Nat) (w : World) (hB : B ≤ b) (hbk : w.heap[b]? = some (.cells #[.pointer (some ⟨b, 0, none⟩), .slice none 0 0] 93 (0, 0))) (hBw : B ≤ w.heap.size) (hn : n ≤ 281474976710656) :
    Calls Tryd.prog 86 #[.pointer (some ⟨b, 0, none⟩), .int .i64 n] w fun e w' => e = .returned (.tuple #[]) ∧ (Lib.BuilderAt 93 5 B b (.pointer (some ⟨b, 0, none⟩)) [] w' ∧ Below B w w') := Any.Builder_grow_fresh Tryd.lays241 Tryd.Builder_Extra_241 B b n w hB hbk hBw hn
def Tryd.lays165_ren : Go.Shelf.Ren := ⟨fun | 165 => 80 | 240 => 85 | 241 => 86 | 276 => 88 | 277 => 89 | n => n, fun | 70 => 91 | 3 => 3 | 0 => 0 | 4 => 4 | 9 => 9 | 20 => 20 | 72 => 93 | 37 => 38 | 164 => 102 | 5 => 5 | n => n, fun | n => n⟩
theorem Tryd.lays165 : Go.Proofs.Lays.n165 Tryd.prog Tryd.lays165_ren := {
  mixed := by kernel_rfl
  f165 := Tryd.func80.trans (congrArg some (by kernel_rfl))
  f240 := Tryd.func85.trans (congrArg some (by kernel_rfl))
  f241 := Tryd.func86.trans (congrArg some (by kernel_rfl))
  f276 := Tryd.func88.trans (congrArg some (by kernel_rfl))
  f277 := Tryd.func89.trans (congrArg some (by kernel_rfl))
  t0 := Tryd.underlying0
  a0 := Tryd.isAgg0
  z0 := Tryd.sizeOf0
  v0 := Tryd.zeroValue0
  t3 := Tryd.underlying3
  a3 := Tryd.isAgg3
  z3 := Tryd.sizeOf3
  v3 := Tryd.zeroValue3
  t4 := Tryd.underlying4
  a4 := Tryd.isAgg4
  z4 := Tryd.sizeOf4
  v4 := Tryd.zeroValue4
  t9 := Tryd.underlying9
  a9 := Tryd.isAgg9
  z9 := Tryd.sizeOf9
  v9 := Tryd.zeroValue9
  t20 := Tryd.underlying20
  a20 := Tryd.isAgg20
  z20 := Tryd.sizeOf20
  v20 := Tryd.zeroValue20
  t37 := Tryd.underlying38
  a37 := Tryd.isAgg38
  z37 := Tryd.sizeOf38
  v37 := Tryd.zeroValue38
  t70 := Tryd.underlying91
  a70 := Tryd.isAgg91
  z70 := Tryd.sizeOf91
  v70 := Tryd.zeroValue91
  t72 := Tryd.underlying93
  a72 := Tryd.isAgg93
  z72 := Tryd.sizeOf93
  v72 := Tryd.zeroValue93
  t164 := Tryd.underlying102
  a164 := Tryd.isAgg102
  z164 := Tryd.sizeOf102
  v164 := Tryd.zeroValue102 }
theorem Tryd.Builder_Extra_165 : Builder.Extra Tryd.prog Tryd.lays165_ren := {
  sizeBuilder := by kernel_rfl
  liesBuilder := by kernel_rfl
  t5 := Tryd.underlying5
  a5 := Tryd.isAgg5
  z5 := Tryd.sizeOf5
  v5 := Tryd.zeroValue5
  infoByte := by kernel_rfl
  cellsByte := by kernel_rfl
  sizeByte := by kernel_rfl
  neB5 := by decide }
open Go.RowKit in
/-- (*strings.Builder).Grow AT A BUILDER THAT HAS NOT BEEN WRITTEN ('var b strings.Builder; b.Grow(n)'): "Grow grows b's capacity, if necessary, to guarantee space for another n bytes.": it holds no byte behind it as before it. (LAID: no walk: one application.) -/
theorem Tryd.Builder_Grow_fresh (B b n : Nat) (w : World) (hB : B ≤ b) (hbk : w.heap[b]? = some (.cells #[.pointer none, .slice none 0 0] 93 (0, 0))) (hBw : B ≤ w.heap.size) (hn : n ≤ 281474976710656) :
    Calls Tryd.prog 80 #[.pointer (some ⟨b, 0, none⟩), .int .i64 n] w fun e w' => e = .returned (.tuple #[]) ∧ (Lib.BuilderAt 93 5 B b (.pointer (some ⟨b, 0, none⟩)) [] w' ∧ Below B w w') := Any.Builder_Grow_fresh Tryd.lays165 Tryd.Builder_Extra_165 B b n w hB hbk hBw hn
def Tryd.lays156_ren : Go.Shelf.Ren := ⟨fun | 156 => 75 | 165 => 80 | 166 => 81 | 169 => 82 | 240 => 85 | 241 => 86 | 276 => 88 | 277 => 89 | n => n, fun | 31 => 40 | 9 => 9 | 3 => 3 | 4 => 4 | 0 => 0 | 20 => 20 | 72 => 93 | 76 => 97 | 70 => 91 | 37 => 38 | 75 => 96 | 127 => 100 | 164 => 102 | 5 => 5 | 80 => 99 | n => n, fun | n => n⟩
theorem Tryd.lays156 : Go.Proofs.Lays.n156 Tryd.prog Tryd.lays156_ren := {
  mixed := by kernel_rfl
  f156 := Tryd.func75.trans (congrArg some (by kernel_rfl))
  f165 := Tryd.func80.trans (congrArg some (by kernel_rfl))
  f166 := Tryd.func81.trans (congrArg some (by kernel_rfl))
  f169 := Tryd.func82.trans (congrArg some (by kernel_rfl))
  f240 := Tryd.func85.trans (congrArg some (by kernel_rfl))
  f241 := Tryd.func86.trans (congrArg some (by kernel_rfl))
  f276 := Tryd.func88.trans (congrArg some (by kernel_rfl))
  f277 := Tryd.func89.trans (congrArg some (by kernel_rfl))
  t0 := Tryd.underlying0
  a0 := Tryd.isAgg0
  z0 := Tryd.sizeOf0
  v0 := Tryd.zeroValue0
  t3 := Tryd.underlying3
  a3 := Tryd.isAgg3
  z3 := Tryd.sizeOf3
  v3 := Tryd.zeroValue3
  t4 := Tryd.underlying4
  a4 := Tryd.isAgg4
  z4 := Tryd.sizeOf4
  v4 := Tryd.zeroValue4
  t9 := Tryd.underlying9
  a9 := Tryd.isAgg9
  z9 := Tryd.sizeOf9
  v9 := Tryd.zeroValue9
  t20 := Tryd.underlying20
  a20 := Tryd.isAgg20
  z20 := Tryd.sizeOf20
  v20 := Tryd.zeroValue20
  t31 := Tryd.underlying40
  a31 := Tryd.isAgg40
  z31 := Tryd.sizeOf40
  v31 := Tryd.zeroValue40
  t37 := Tryd.underlying38
  a37 := Tryd.isAgg38
  z37 := Tryd.sizeOf38
  v37 := Tryd.zeroValue38
  t70 := Tryd.underlying91
  a70 := Tryd.isAgg91
  z70 := Tryd.sizeOf91
  v70 := Tryd.zeroValue91
  t72 := Tryd.underlying93
  a72 := Tryd.isAgg93
  z72 := Tryd.sizeOf93
  v72 := Tryd.zeroValue93
  t75 := Tryd.underlying96
  a75 := Tryd.isAgg96
  z75 := Tryd.sizeOf96
  v75 := Tryd.zeroValue96
  t76 := Tryd.underlying97
  a76 := Tryd.isAgg97
  z76 := Tryd.sizeOf97
  v76 := Tryd.zeroValue97
  t127 := Tryd.underlying100
  a127 := Tryd.isAgg100
  z127 := Tryd.sizeOf100
  v127 := Tryd.zeroValue100
  t164 := Tryd.underlying102
  a164 := Tryd.isAgg102
  z164 := Tryd.sizeOf102
  v164 := Tryd.zeroValue102 }
theorem Tryd.Builder_Extra_156 : Builder.Extra Tryd.prog Tryd.lays156_ren := {
  sizeBuilder := by kernel_rfl
  liesBuilder := by kernel_rfl
  t5 := Tryd.underlying5
  a5 := Tryd.isAgg5
  z5 := Tryd.sizeOf5
  v5 := Tryd.zeroValue5
  infoByte := by kernel_rfl
  cellsByte := by kernel_rfl
  sizeByte := by kernel_rfl
  neB5 := by decide }
open Go.RowKit in
/-- No element: the empty string; the world is as it was. (Whatever the slice's address and capacity: a nil slice too.) (LAID: no walk: one application.) -/
theorem Tryd.strings_Join_none (a : Option Addr) (c : Nat) (sep : ByteArray) (w : World) :
    Calls Tryd.prog 75 #[.slice a 0 c, .string sep] w fun e w' => e = .returned (.string ⟨#[]⟩) ∧ w' = w := Any.strings_Join_none Tryd.lays156 Tryd.Builder_Extra_156 a c sep w
open Go.RowKit in
/-- strings.Join: "Join concatenates the elements of its first argument to create a single string. The separator string sep is placed between elements in the resulting string.": HOWEVER MANY ELEMENTS. Below the heap's end the world is as it was. (LAID: no walk: one application.) -/
theorem Tryd.strings_Join (bk o c : Nat) (xs : List ByteArray) (sep : ByteArray) (w : World) (hcells : ∀ (j : Nat) x, xs[j]? = some x → w.cell? ⟨bk, o + j, none⟩ = some (.string x)) (hbk : bk < w.heap.size) (hN : xs.length ≤ 140737488355328) (hcap : xs.length ≤ c) (hlen : (Lib.join (xs.map (·.data.toList)) sep.data.toList).length ≤ 140737488355328) :
    Calls Tryd.prog 75 #[.slice (some ⟨bk, o, none⟩) xs.length c, .string sep] w fun e w' => e = .returned (.string ⟨(Lib.join (xs.map (·.data.toList)) sep.data.toList).toArray⟩) ∧ Below w.heap.size w w' := Any.strings_Join Tryd.lays156 Tryd.Builder_Extra_156 bk o c xs sep w hcells hbk hN hcap hlen
def Tryd.lays214_ren : Go.Shelf.Ren := ⟨fun | 214 => 84 | n => n, fun | 4 => 4 | 9 => 9 | n => n, fun | n => n⟩
theorem Tryd.lays214 : Go.Proofs.Lays.n214 Tryd.prog Tryd.lays214_ren := {
  mixed := by kernel_rfl
  f214 := Tryd.func84.trans (congrArg some (by kernel_rfl))
  t4 := Tryd.underlying4
  a4 := Tryd.isAgg4
  z4 := Tryd.sizeOf4
  v4 := Tryd.zeroValue4
  t9 := Tryd.underlying9
  a9 := Tryd.isAgg9
  z9 := Tryd.sizeOf9
  v9 := Tryd.zeroValue9 }
open Go.RowKit in
/-- internal/strconv.FormatBool (what strconv.FormatBool calls). (LAID: no walk: one application.) -/
theorem Tryd.internal_strconv_FormatBool (b : Bool) (w : World) :
    Calls Tryd.prog 84 #[.bool b] w fun e w' => e = .returned (.string ⟨(Lib.formatBool b).toArray⟩) ∧ w' = w := Any.internal_strconv_FormatBool Tryd.lays214 b w
def Tryd.lays121_ren : Go.Shelf.Ren := ⟨fun | 121 => 79 | 214 => 84 | n => n, fun | 4 => 4 | 9 => 9 | n => n, fun | n => n⟩
theorem Tryd.lays121 : Go.Proofs.Lays.n121 Tryd.prog Tryd.lays121_ren := {
  mixed := by kernel_rfl
  f121 := Tryd.func79.trans (congrArg some (by kernel_rfl))
  f214 := Tryd.func84.trans (congrArg some (by kernel_rfl))
  t4 := Tryd.underlying4
  a4 := Tryd.isAgg4
  z4 := Tryd.sizeOf4
  v4 := Tryd.zeroValue4
  t9 := Tryd.underlying9
  a9 := Tryd.isAgg9
  z9 := Tryd.sizeOf9
  v9 := Tryd.zeroValue9 }
open Go.RowKit in
/-- strconv.FormatBool: "FormatBool returns "true" or "false" according to the value of b.": IT RETURNS 'Lib.formatBool b'; the world is as it was. (LAID: no walk: one application.) -/
theorem Tryd.strconv_FormatBool (b : Bool) (w : World) :
    Calls Tryd.prog 79 #[.bool b] w fun e w' => e = .returned (.string ⟨(Lib.formatBool b).toArray⟩) ∧ w' = w := Any.strconv_FormatBool Tryd.lays121 b w
open Go.RowKit in
/-- (*strings.Builder).String: "String returns the accumulated string.": OF A BUILDER THAT HOLDS AT LEAST ONE BYTE. ✋ THE MODEL FREEZES THOSE BYTES IN THE BUFFER (unsafe.String): a later write INTO them ends the model's run without an answer; a later append BEHIND them goes on. The statement's order of evaluation is drawn: one draw. THE FORM '_f': IT SAYS BESIDES THAT THE BUILDER IS A BUILDER STILL ('Lib.IsBuilderF', the same bytes): SO IT CAN BE WRITTEN ON: 'b.WriteString(b.String()[:k])'. (LAID: no walk: one application.) -/
theorem Tryd.Builder_String_f (B b : Nat) (l : List UInt8) (w : World) (h : Lib.IsBuilderF 93 5 B b (Lib.byteCells l) w) (h0 : l ≠ []) :
    Calls Tryd.prog 82 #[.pointer (some ⟨b, 0, none⟩)] w fun e w' => e = .returned (.string ⟨l.toArray⟩) ∧ (Lib.IsBuilderF 93 5 B b (Lib.byteCells l) w' ∧ Below B w w') := Any.Builder_String_f Tryd.lays169 Tryd.Builder_Extra_169 B b l w h h0
open Go.RowKit in
/-- (*strings.Builder).String OF A BUILDER THAT HOLDS NO BYTE: the empty string; THE FORM '_f': a builder still. (LAID: no walk: one application.) -/
theorem Tryd.Builder_String_empty_f (B b : Nat) (w : World) (h : Lib.IsBuilderF 93 5 B b [] w) (hBw : B ≤ w.heap.size) :
    Calls Tryd.prog 82 #[.pointer (some ⟨b, 0, none⟩)] w fun e w' => e = .returned (.string ⟨#[]⟩) ∧ (Lib.IsBuilderF 93 5 B b [] w' ∧ Below B w w') := Any.Builder_String_empty_f Tryd.lays169 Tryd.Builder_Extra_169 B b w h hBw
open Go.RowKit in
/-- (*strings.Builder).String: "String returns the accumulated string.": WHATEVER THE BUILDER HOLDS; THE FORM '_f': OF A BUILDER THAT MAY HAVE BEEN READ BEFORE; AND IT IS A BUILDER STILL, holding the same bytes: it can be written on. (LAID: no walk: one application.) -/
theorem Tryd.Builder_String_any_f (B b : Nat) (l : List UInt8) (w : World) (h : Lib.IsBuilderF 93 5 B b (Lib.byteCells l) w) (hBw : B ≤ w.heap.size) :
    Calls Tryd.prog 82 #[.pointer (some ⟨b, 0, none⟩)] w fun e w' => e = .returned (.string ⟨l.toArray⟩) ∧ (Lib.IsBuilderF 93 5 B b (Lib.byteCells l) w' ∧ Below B w w') := Any.Builder_String_any_f Tryd.lays169 Tryd.Builder_Extra_169 B b l w h hBw
open Go.RowKit in
/-- (*strings.Builder).String: "String returns the accumulated string.": OF A BUILDER THAT HOLDS AT LEAST ONE BYTE. ✋ THE MODEL FREEZES THOSE BYTES IN THE BUFFER (unsafe.String): a later write INTO them ends the model's run without an answer; a later append BEHIND them goes on. The statement's order of evaluation is drawn: one draw. THE FORM '_k': OVER 'Lib.IsBuilderF' (a builder that 'String()' may have read), AND WITH THE FRAME THAT REACHES ABOVE THE BUILDER: 'Lib.OthersKept': every block that is not b and is no row of uint8's stands as it stood: the iterator of a range among them. (LAID: no walk: one application.) -/
theorem Tryd.Builder_String_k (B b : Nat) (l : List UInt8) (w : World) (h : Lib.IsBuilderF 93 5 B b (Lib.byteCells l) w) (h0 : l ≠ []) :
    Calls Tryd.prog 82 #[.pointer (some ⟨b, 0, none⟩)] w fun e w' => e = .returned (.string ⟨l.toArray⟩) ∧ (Lib.IsBuilderF 93 5 B b (Lib.byteCells l) w' ∧ Below B w w' ∧ Lib.OthersKept 5 (some b) w w') := Any.Builder_String_k Tryd.lays169 Tryd.Builder_Extra_169 B b l w h h0
open Go.RowKit in
/-- (*strings.Builder).String OF A BUILDER THAT HOLDS NO BYTE: the empty string; THE FORM '_k': OVER 'Lib.IsBuilderF' (a builder that 'String()' may have read), AND WITH THE FRAME THAT REACHES ABOVE THE BUILDER: 'Lib.OthersKept': every block that is not b and is no row of uint8's stands as it stood: the iterator of a range among them. (LAID: no walk: one application.) -/
theorem Tryd.Builder_String_empty_k (B b : Nat) (w : World) (h : Lib.IsBuilderF 93 5 B b [] w) (hBw : B ≤ w.heap.size) :
    Calls Tryd.prog 82 #[.pointer (some ⟨b, 0, none⟩)] w fun e w' => e = .returned (.string ⟨#[]⟩) ∧ (Lib.IsBuilderF 93 5 B b [] w' ∧ Below B w w' ∧ Lib.OthersKept 5 (some b) w w') := Any.Builder_String_empty_k Tryd.lays169 Tryd.Builder_Extra_169 B b w h hBw
open Go.RowKit in
/-- (*strings.Builder).String: "String returns the accumulated string.": WHATEVER THE BUILDER HOLDS; THE FORM '_k': OVER 'Lib.IsBuilderF' (a builder that 'String()' may have read), AND WITH THE FRAME THAT REACHES ABOVE THE BUILDER: 'Lib.OthersKept': every block that is not b and is no row of uint8's stands as it stood: the iterator of a range among them. (LAID: no walk: one application.) -/
theorem Tryd.Builder_String_any_k (B b : Nat) (l : List UInt8) (w : World) (h : Lib.IsBuilderF 93 5 B b (Lib.byteCells l) w) (hBw : B ≤ w.heap.size) :
    Calls Tryd.prog 82 #[.pointer (some ⟨b, 0, none⟩)] w fun e w' => e = .returned (.string ⟨l.toArray⟩) ∧ (Lib.IsBuilderF 93 5 B b (Lib.byteCells l) w' ∧ Below B w w' ∧ Lib.OthersKept 5 (some b) w w') := Any.Builder_String_any_k Tryd.lays169 Tryd.Builder_Extra_169 B b l w h hBw
open Go.RowKit in
/-- (*strings.Builder).grow (no doc but "grow copies the buffer to a new, larger buffer so that there are at least n bytes of capacity beyond len(b.buf)."): AT A BUILDER WITHOUT A BUFFER: a new row of whatever bytes for its buffer, none of them its own yet. Three draws. (LAID: no walk: one application.) -/
theorem Tryd.Builder_grow_fresh_cap (B b n : Nat) (w : World) (hB : B ≤ b) (hbk : w.heap[b]? = some (.cells #[.pointer (some ⟨b, 0, none⟩), .slice none 0 0] 93 (0, 0))) (hBw : B ≤ w.heap.size) (hn : n ≤ 281474976710656) :
    Calls Tryd.prog 86 #[.pointer (some ⟨b, 0, none⟩), .int .i64 n] w fun e w' => e = .returned (.tuple #[]) ∧ (Lib.BuilderAt 93 5 B b (.pointer (some ⟨b, 0, none⟩)) [] w' ∧ Below B w w') ∧ ∃ p cap, w'.cell? ⟨b, 1, none⟩ = some (.slice p 0 cap) ∧ n ≤ cap := Any.Builder_grow_fresh_cap Tryd.lays241 Tryd.Builder_Extra_241 B b n w hB hbk hBw hn
open Go.RowKit in
/-- (*strings.Builder).Grow AT A BUILDER THAT HAS NOT BEEN WRITTEN ('var b strings.Builder; b.Grow(n)'): "Grow grows b's capacity, if necessary, to guarantee space for another n bytes.": it holds no byte behind it as before it. (LAID: no walk: one application.) -/
theorem Tryd.Builder_Grow_fresh_cap (B b n : Nat) (w : World) (hB : B ≤ b) (hbk : w.heap[b]? = some (.cells #[.pointer none, .slice none 0 0] 93 (0, 0))) (hBw : B ≤ w.heap.size) (hn : n ≤ 281474976710656) :
    Calls Tryd.prog 80 #[.pointer (some ⟨b, 0, none⟩), .int .i64 n] w fun e w' => e = .returned (.tuple #[]) ∧ (Lib.BuilderAt 93 5 B b (.pointer (some ⟨b, 0, none⟩)) [] w' ∧ Below B w w') ∧ ∃ p cap, w'.cell? ⟨b, 1, none⟩ = some (.slice p 0 cap) ∧ n ≤ cap := Any.Builder_Grow_fresh_cap Tryd.lays165 Tryd.Builder_Extra_165 B b n w hB hbk hBw hn
def Tryd.lays129_ren : Go.Shelf.Ren := ⟨fun | 129 => 95 | n => n, fun | 53 => 71 | 3 => 3 | 4 => 4 | 46 => 116 | 5 => 5 | 9 => 9 | n => n, fun | n => n⟩
theorem Tryd.lays129 : Go.Proofs.Lays.n129 Tryd.prog Tryd.lays129_ren := {
  mixed := by kernel_rfl
  f129 := Tryd.func95.trans (congrArg some (by kernel_rfl))
  t3 := Tryd.underlying3
  a3 := Tryd.isAgg3
  z3 := Tryd.sizeOf3
  v3 := Tryd.zeroValue3
  t4 := Tryd.underlying4
  a4 := Tryd.isAgg4
  z4 := Tryd.sizeOf4
  v4 := Tryd.zeroValue4
  t5 := Tryd.underlying5
  a5 := Tryd.isAgg5
  z5 := Tryd.sizeOf5
  v5 := Tryd.zeroValue5
  t9 := Tryd.underlying9
  a9 := Tryd.isAgg9
  z9 := Tryd.sizeOf9
  v9 := Tryd.zeroValue9
  t46 := Tryd.underlying116
  a46 := Tryd.isAgg116
  z46 := Tryd.sizeOf116
  v46 := Tryd.zeroValue116
  t53 := Tryd.underlying71
  a53 := Tryd.isAgg71
  z53 := Tryd.sizeOf71
  v53 := Tryd.zeroValue71 }
/-- bits.Len64: "Len64 returns the minimum number of bits required to represent x; the result is 0 for x == 0.": IT RETURNS 'Lib.bitLen x'; the world is as it was. ('h0', 'h1': x is a uint64.) (LAID: no walk: one application.) -/
theorem Tryd.bits_Len64 (x : Int) (w : World) (h0 : 0 ≤ x) (h1 : x ≤ 18446744073709551615) :
    Calls Tryd.prog 95 #[.int .u64 x] w fun e w' => e = .returned (.int .i64 (Lib.bitLen x.toNat)) ∧ w' = w := Any.bits_Len64 Tryd.lays129 x w h0 h1
def Tryd.lays317_ren : Go.Shelf.Ren := ⟨fun | 317 => 94 | n => n, fun | 3 => 3 | 46 => 116 | n => n, fun | n => n⟩
theorem Tryd.lays317 : Go.Proofs.Lays.n317 Tryd.prog Tryd.lays317_ren := {
  mixed := by kernel_rfl
  f317 := Tryd.func94.trans (congrArg some (by kernel_rfl))
  t3 := Tryd.underlying3
  a3 := Tryd.isAgg3
  z3 := Tryd.sizeOf3
  v3 := Tryd.zeroValue3
  t46 := Tryd.underlying116
  a46 := Tryd.isAgg116
  z46 := Tryd.sizeOf116
  v46 := Tryd.zeroValue116 }
open Go.Lib in
/-- internal/strconv.log10Pow2: "log10Pow2(x) returns ⌊log₁₀ 2**x⌋ = ⌊x * log₁₀ 2⌋.": '(x * 78913) >> 18', at an x up to 64 (a length in bits). The world is as it was. (LAID: no walk: one application.) -/
theorem Tryd.internal_strconv_log10Pow2 (x : Nat) (h : x ≤ 64) (w : World) :
    Calls Tryd.prog 94 #[.int .i64 x] w fun e w' => e = .returned (.int .i64 (Lib.l10 x)) ∧ w' = w := Any.internal_strconv_log10Pow2 Tryd.lays317 x h w
def Tryd.lays318_ren : Go.Shelf.Ren := ⟨fun | 318 => 96 | n => n, fun | 3 => 3 | 4 => 4 | n => n, fun | n => n⟩
theorem Tryd.lays318 : Go.Proofs.Lays.n318 Tryd.prog Tryd.lays318_ren := {
  mixed := by kernel_rfl
  f318 := Tryd.func96.trans (congrArg some (by kernel_rfl))
  t3 := Tryd.underlying3
  a3 := Tryd.isAgg3
  z3 := Tryd.sizeOf3
  v3 := Tryd.zeroValue3
  t4 := Tryd.underlying4
  a4 := Tryd.isAgg4
  z4 := Tryd.sizeOf4
  v4 := Tryd.zeroValue4 }
open Go.Lib in
/-- internal/strconv.bool2: "bool2 converts b to an integer: 1 for true, 0 for false." The world is as it was. (LAID: no walk: one application.) -/
theorem Tryd.internal_strconv_bool2_int (b : Bool) (w : World) :
    Calls Tryd.prog 96 #[.bool b] w fun e w' => e = .returned (.int .i64 (if b then 1 else 0)) ∧ w' = w := Any.internal_strconv_bool2_int Tryd.lays318 b w
def Tryd.lays283_ren : Go.Shelf.Ren := ⟨fun | 283 => 90 | n => n, fun | 3 => 3 | 9 => 9 | 4 => 4 | n => n, fun | n => n⟩
theorem Tryd.lays283 : Go.Proofs.Lays.n283 Tryd.prog Tryd.lays283_ren := {
  mixed := by kernel_rfl
  f283 := Tryd.func90.trans (congrArg some (by kernel_rfl))
  t3 := Tryd.underlying3
  a3 := Tryd.isAgg3
  z3 := Tryd.sizeOf3
  v3 := Tryd.zeroValue3
  t4 := Tryd.underlying4
  a4 := Tryd.isAgg4
  z4 := Tryd.sizeOf4
  v4 := Tryd.zeroValue4
  t9 := Tryd.underlying9
  a9 := Tryd.isAgg9
  z9 := Tryd.sizeOf9
  v9 := Tryd.zeroValue9 }
open Go.Lib in
/-- internal/strconv.small: "small returns the string for an i with 0 <= i < nSmalls.": i's decimal numeral. The world is as it was. (LAID: no walk: one application.) -/
theorem Tryd.internal_strconv_small (i : Nat) (h : i < 100) (w : World) :
    Calls Tryd.prog 90 #[.int .i64 i] w fun e w' => e = .returned (.string ⟨(Lib.decDigits i).toArray⟩) ∧ w' = w := Any.internal_strconv_small Tryd.lays283 i h w
def Tryd.laysM284_ren : Go.Shelf.Ren := ⟨fun | 284 => 91 | 129 => 95 | 317 => 94 | 318 => 96 | n => n, fun | 53 => 71 | 3 => 3 | 212 => 112 | 0 => 0 | 4 => 4 | 46 => 116 | 5 => 5 | 9 => 9 | n => n, fun | 17 => 1 | n => n⟩
theorem Tryd.laysM284 : Go.Proofs.LaysM.n284 Tryd.prog Tryd.laysM284_ren := {
  mixed := by kernel_rfl
  f129 := Tryd.func95.trans (congrArg some (by kernel_rfl))
  f284 := Tryd.func91.trans (congrArg some (by kernel_rfl))
  f317 := Tryd.func94.trans (congrArg some (by kernel_rfl))
  f318 := Tryd.func96.trans (congrArg some (by kernel_rfl))
  t0 := Tryd.underlying0
  a0 := Tryd.isAgg0
  z0 := Tryd.sizeOf0
  v0 := Tryd.zeroValue0
  t3 := Tryd.underlying3
  a3 := Tryd.isAgg3
  z3 := Tryd.sizeOf3
  v3 := Tryd.zeroValue3
  t4 := Tryd.underlying4
  a4 := Tryd.isAgg4
  z4 := Tryd.sizeOf4
  v4 := Tryd.zeroValue4
  t5 := Tryd.underlying5
  a5 := Tryd.isAgg5
  z5 := Tryd.sizeOf5
  v5 := Tryd.zeroValue5
  t9 := Tryd.underlying9
  a9 := Tryd.isAgg9
  z9 := Tryd.sizeOf9
  v9 := Tryd.zeroValue9
  t46 := Tryd.underlying116
  a46 := Tryd.isAgg116
  z46 := Tryd.sizeOf116
  v46 := Tryd.zeroValue116
  t53 := Tryd.underlying71
  a53 := Tryd.isAgg71
  z53 := Tryd.sizeOf71
  v53 := Tryd.zeroValue71
  t212 := Tryd.underlying112
  a212 := Tryd.isAgg112
  z212 := Tryd.sizeOf112
  v212 := Tryd.zeroValue112
  g17 := by kernel_rfl
  i0 := by kernel_rfl
  i3 := by kernel_rfl
  i4 := by kernel_rfl
  i5 := by kernel_rfl
  i9 := by kernel_rfl
  i46 := by kernel_rfl
  i53 := by kernel_rfl
  i212 := by kernel_rfl
  m17 := by kernel_rfl }
open Go.Lib in
/-- internal/strconv.numDigits, at a d that is not 0: THE NUMBER OF d's DECIMAL DIGITS. The world is as it was. (LAID: no walk: one application.) -/
theorem Tryd.internal_strconv_numDigits (u : Nat) (h1 : 1 ≤ u) (h2 : u < 18446744073709551616) (w : World) (htab : Lib.TabIs Tryd.prog w "internal/strconv.uint64pow10" .u64 Lib.pow10Tab) :
    Calls Tryd.prog 91 #[.int .u64 u] w fun e w' => e = .returned (.int .i64 (Lib.nDigits u)) ∧ w' = w := Any.internal_strconv_numDigits Tryd.laysM284 u h1 h2 w htab
def Tryd.lays285_ren : Go.Shelf.Ren := ⟨fun | 285 => 92 | n => n, fun | 37 => 38 | 53 => 71 | 3 => 3 | 4 => 4 | 51 => 113 | 9 => 9 | 5 => 5 | 0 => 0 | n => n, fun | n => n⟩
theorem Tryd.lays285 : Go.Proofs.Lays.n285 Tryd.prog Tryd.lays285_ren := {
  mixed := by kernel_rfl
  f285 := Tryd.func92.trans (congrArg some (by kernel_rfl))
  t0 := Tryd.underlying0
  a0 := Tryd.isAgg0
  z0 := Tryd.sizeOf0
  v0 := Tryd.zeroValue0
  t3 := Tryd.underlying3
  a3 := Tryd.isAgg3
  z3 := Tryd.sizeOf3
  v3 := Tryd.zeroValue3
  t4 := Tryd.underlying4
  a4 := Tryd.isAgg4
  z4 := Tryd.sizeOf4
  v4 := Tryd.zeroValue4
  t5 := Tryd.underlying5
  a5 := Tryd.isAgg5
  z5 := Tryd.sizeOf5
  v5 := Tryd.zeroValue5
  t9 := Tryd.underlying9
  a9 := Tryd.isAgg9
  z9 := Tryd.sizeOf9
  v9 := Tryd.zeroValue9
  t37 := Tryd.underlying38
  a37 := Tryd.isAgg38
  z37 := Tryd.sizeOf38
  v37 := Tryd.zeroValue38
  t51 := Tryd.underlying113
  a51 := Tryd.isAgg113
  z51 := Tryd.sizeOf113
  v51 := Tryd.zeroValue113
  t53 := Tryd.underlying71
  a53 := Tryd.isAgg71
  z53 := Tryd.sizeOf71
  v53 := Tryd.zeroValue71 }
open Go.RowKit Go.Sort Go.Lib in
/-- internal/strconv.formatBase10: "formatBase10 formats the decimal representation of u into a. The caller is responsible for ensuring that a is big enough to hold u. If a is too big, leading zeros will be filled in as needed.": THE ROW HOLDS u's DIGITS ('FmtInv .. 0 ..': every place t holds 'dg u (len - 1 - t)'); all else is as it was but for the count of draws. (LAID: no walk: one application.) -/
theorem Tryd.internal_strconv_formatBase10 (blk off cap : Nat) (u : Nat) (d : Array UInt8) (w : World) (hH : Holds (fun (b : UInt8) => Value.int .u8 (b.toNat : Int)) w blk off d) (hu : u < 10 ^ d.size) (hu64 : u < 18446744073709551616) (hsz : d.size < 4611686018427387904) :
    Calls Tryd.prog 92 #[.slice (some ⟨blk, off, none⟩) d.size cap, .int .u64 u] w fun e w' =>
      e = .returned (.tuple #[]) ∧ ∃ (n v' : Nat) (dk : Array UInt8), w' = (putRow (fun (b : UInt8) => Value.int .u8 (b.toNat : Int)) w blk off dk).drewN n ∧ FmtInv d.size u 0 v' dk := Any.internal_strconv_formatBase10 Tryd.lays285 blk off cap u d w hH hu hu64 hsz
def Tryd.laysM246_ren : Go.Shelf.Ren := ⟨fun | 246 => 87 | 283 => 90 | 284 => 91 | 285 => 92 | 286 => 93 | 129 => 95 | 317 => 94 | 318 => 96 | 319 => 97 | 320 => 98 | 337 => 99 | 338 => 100 | n => n, fun | 2 => 2 | 3 => 3 | 9 => 9 | 4 => 4 | 171 => 105 | 0 => 0 | 53 => 71 | 37 => 38 | 5 => 5 | 173 => 108 | 212 => 112 | 51 => 113 | 20 => 20 | 213 => 114 | 46 => 116 | 232 => 119 | 233 => 120 | n => n, fun | 17 => 1 | 18 => 2 | 19 => 3 | n => n⟩
theorem Tryd.laysM246 : Go.Proofs.LaysM.n246 Tryd.prog Tryd.laysM246_ren := {
  mixed := by kernel_rfl
  f129 := Tryd.func95.trans (congrArg some (by kernel_rfl))
  f246 := Tryd.func87.trans (congrArg some (by kernel_rfl))
  f283 := Tryd.func90.trans (congrArg some (by kernel_rfl))
  f284 := Tryd.func91.trans (congrArg some (by kernel_rfl))
  f285 := Tryd.func92.trans (congrArg some (by kernel_rfl))
  f286 := Tryd.func93.trans (congrArg some (by kernel_rfl))
  f317 := Tryd.func94.trans (congrArg some (by kernel_rfl))
  f318 := Tryd.func96.trans (congrArg some (by kernel_rfl))
  f319 := Tryd.func97.trans (congrArg some (by kernel_rfl))
  f320 := Tryd.func98.trans (congrArg some (by kernel_rfl))
  f337 := Tryd.func99.trans (congrArg some (by kernel_rfl))
  f338 := Tryd.func100.trans (congrArg some (by kernel_rfl))
  t0 := Tryd.underlying0
  a0 := Tryd.isAgg0
  z0 := Tryd.sizeOf0
  v0 := Tryd.zeroValue0
  t2 := Tryd.underlying2
  a2 := Tryd.isAgg2
  z2 := Tryd.sizeOf2
  v2 := Tryd.zeroValue2
  t3 := Tryd.underlying3
  a3 := Tryd.isAgg3
  z3 := Tryd.sizeOf3
  v3 := Tryd.zeroValue3
  t4 := Tryd.underlying4
  a4 := Tryd.isAgg4
  z4 := Tryd.sizeOf4
  v4 := Tryd.zeroValue4
  t5 := Tryd.underlying5
  a5 := Tryd.isAgg5
  z5 := Tryd.sizeOf5
  v5 := Tryd.zeroValue5
  t9 := Tryd.underlying9
  a9 := Tryd.isAgg9
  z9 := Tryd.sizeOf9
  v9 := Tryd.zeroValue9
  t20 := Tryd.underlying20
  a20 := Tryd.isAgg20
  z20 := Tryd.sizeOf20
  v20 := Tryd.zeroValue20
  t37 := Tryd.underlying38
  a37 := Tryd.isAgg38
  z37 := Tryd.sizeOf38
  v37 := Tryd.zeroValue38
  t46 := Tryd.underlying116
  a46 := Tryd.isAgg116
  z46 := Tryd.sizeOf116
  v46 := Tryd.zeroValue116
  t51 := Tryd.underlying113
  a51 := Tryd.isAgg113
  z51 := Tryd.sizeOf113
  v51 := Tryd.zeroValue113
  t53 := Tryd.underlying71
  a53 := Tryd.isAgg71
  z53 := Tryd.sizeOf71
  v53 := Tryd.zeroValue71
  t171 := Tryd.underlying105
  a171 := Tryd.isAgg105
  z171 := Tryd.sizeOf105
  v171 := Tryd.zeroValue105
  t173 := Tryd.underlying108
  a173 := Tryd.isAgg108
  z173 := Tryd.sizeOf108
  v173 := Tryd.zeroValue108
  t212 := Tryd.underlying112
  a212 := Tryd.isAgg112
  z212 := Tryd.sizeOf112
  v212 := Tryd.zeroValue112
  t213 := Tryd.underlying114
  a213 := Tryd.isAgg114
  z213 := Tryd.sizeOf114
  t232 := Tryd.underlying119
  a232 := Tryd.isAgg119
  z232 := Tryd.sizeOf119
  v232 := Tryd.zeroValue119
  t233 := Tryd.underlying120
  a233 := Tryd.isAgg120
  z233 := Tryd.sizeOf120
  v233 := Tryd.zeroValue120
  g17 := by kernel_rfl
  g18 := by kernel_rfl
  g19 := by kernel_rfl
  i0 := by kernel_rfl
  i2 := by kernel_rfl
  i3 := by kernel_rfl
  i4 := by kernel_rfl
  i5 := by kernel_rfl
  i9 := by kernel_rfl
  i20 := by kernel_rfl
  i37 := by kernel_rfl
  i46 := by kernel_rfl
  i51 := by kernel_rfl
  i53 := by kernel_rfl
  i171 := by kernel_rfl
  i173 := by kernel_rfl
  i212 := by kernel_rfl
  i232 := by kernel_rfl
  i233 := by kernel_rfl
  m17 := by kernel_rfl
  m18 := by kernel_rfl
  m19 := by kernel_rfl }
open Go.RowKit Go.Sort Go.Lib in
/-- internal/strconv.FormatInt: "FormatInt returns the string representation of i in the given base": AT BASE 10: i's decimal numeral, for every int64. The world behind the call: the world before it, new blocks behind the heap, draws. (LAID: no walk: one application.) -/
theorem Tryd.internal_strconv_FormatInt_10 (n : Int) (h0 : -9223372036854775808 ≤ n) (h1 : n ≤ 9223372036854775807) (w : World) (htab : Lib.TabIs Tryd.prog w "internal/strconv.uint64pow10" .u64 Lib.pow10Tab) :
    Calls Tryd.prog 87 #[.int .i64 n, .int .i64 10] w fun e w' => e = .returned (.string ⟨(Lib.itoa n).toArray⟩) ∧ ∃ k os, w' = grow (w.drewN k) os := Any.internal_strconv_FormatInt_10 Tryd.laysM246 n h0 h1 w htab
def Tryd.lays246_ren : Go.Shelf.Ren := ⟨fun | 246 => 87 | 283 => 90 | 284 => 91 | 285 => 92 | 286 => 93 | 129 => 95 | 317 => 94 | 318 => 96 | 319 => 97 | 320 => 98 | 337 => 99 | 338 => 100 | n => n, fun | 2 => 2 | 3 => 3 | 9 => 9 | 4 => 4 | 171 => 105 | 0 => 0 | 53 => 71 | 37 => 38 | 5 => 5 | 173 => 108 | 212 => 112 | 51 => 113 | 20 => 20 | 213 => 114 | 46 => 116 | 232 => 119 | 233 => 120 | n => n, fun | 17 => 1 | 18 => 2 | 19 => 3 | n => n⟩
theorem Tryd.lays246 : Go.Proofs.Lays.n246 Tryd.prog Tryd.lays246_ren := {
  mixed := by kernel_rfl
  f129 := Tryd.func95.trans (congrArg some (by kernel_rfl))
  f246 := Tryd.func87.trans (congrArg some (by kernel_rfl))
  f283 := Tryd.func90.trans (congrArg some (by kernel_rfl))
  f284 := Tryd.func91.trans (congrArg some (by kernel_rfl))
  f285 := Tryd.func92.trans (congrArg some (by kernel_rfl))
  f286 := Tryd.func93.trans (congrArg some (by kernel_rfl))
  f317 := Tryd.func94.trans (congrArg some (by kernel_rfl))
  f318 := Tryd.func96.trans (congrArg some (by kernel_rfl))
  f319 := Tryd.func97.trans (congrArg some (by kernel_rfl))
  f320 := Tryd.func98.trans (congrArg some (by kernel_rfl))
  f337 := Tryd.func99.trans (congrArg some (by kernel_rfl))
  f338 := Tryd.func100.trans (congrArg some (by kernel_rfl))
  t0 := Tryd.underlying0
  a0 := Tryd.isAgg0
  z0 := Tryd.sizeOf0
  v0 := Tryd.zeroValue0
  t2 := Tryd.underlying2
  a2 := Tryd.isAgg2
  z2 := Tryd.sizeOf2
  v2 := Tryd.zeroValue2
  t3 := Tryd.underlying3
  a3 := Tryd.isAgg3
  z3 := Tryd.sizeOf3
  v3 := Tryd.zeroValue3
  t4 := Tryd.underlying4
  a4 := Tryd.isAgg4
  z4 := Tryd.sizeOf4
  v4 := Tryd.zeroValue4
  t5 := Tryd.underlying5
  a5 := Tryd.isAgg5
  z5 := Tryd.sizeOf5
  v5 := Tryd.zeroValue5
  t9 := Tryd.underlying9
  a9 := Tryd.isAgg9
  z9 := Tryd.sizeOf9
  v9 := Tryd.zeroValue9
  t20 := Tryd.underlying20
  a20 := Tryd.isAgg20
  z20 := Tryd.sizeOf20
  v20 := Tryd.zeroValue20
  t37 := Tryd.underlying38
  a37 := Tryd.isAgg38
  z37 := Tryd.sizeOf38
  v37 := Tryd.zeroValue38
  t46 := Tryd.underlying116
  a46 := Tryd.isAgg116
  z46 := Tryd.sizeOf116
  v46 := Tryd.zeroValue116
  t51 := Tryd.underlying113
  a51 := Tryd.isAgg113
  z51 := Tryd.sizeOf113
  v51 := Tryd.zeroValue113
  t53 := Tryd.underlying71
  a53 := Tryd.isAgg71
  z53 := Tryd.sizeOf71
  v53 := Tryd.zeroValue71
  t171 := Tryd.underlying105
  a171 := Tryd.isAgg105
  z171 := Tryd.sizeOf105
  v171 := Tryd.zeroValue105
  t173 := Tryd.underlying108
  a173 := Tryd.isAgg108
  z173 := Tryd.sizeOf108
  v173 := Tryd.zeroValue108
  t212 := Tryd.underlying112
  a212 := Tryd.isAgg112
  z212 := Tryd.sizeOf112
  v212 := Tryd.zeroValue112
  t213 := Tryd.underlying114
  a213 := Tryd.isAgg114
  z213 := Tryd.sizeOf114
  t232 := Tryd.underlying119
  a232 := Tryd.isAgg119
  z232 := Tryd.sizeOf119
  v232 := Tryd.zeroValue119
  t233 := Tryd.underlying120
  a233 := Tryd.isAgg120
  z233 := Tryd.sizeOf120
  v233 := Tryd.zeroValue120
  g17 := by kernel_rfl
  g18 := by kernel_rfl
  g19 := by kernel_rfl }
open Go.RowKit Go.Sort Go.Lib in
/-- THE ROAD WITHOUT THE TABLE: 0 <= i < 100: two constants are read, nothing is laid: no premise on the world, and the world is as it was. (LAID: no walk: one application.) -/
theorem Tryd.internal_strconv_FormatInt_10_small (i : Nat) (hi : i < 100) (w : World) :
    Calls Tryd.prog 87 #[.int .i64 i, .int .i64 10] w fun e w' => e = .returned (.string ⟨(Lib.decDigits i).toArray⟩) ∧ w' = w := Any.internal_strconv_FormatInt_10_small Tryd.lays246 i hi w
def Tryd.laysM243_ren : Go.Shelf.Ren := ⟨fun | 243 => 83 | 246 => 87 | 283 => 90 | 284 => 91 | 285 => 92 | 286 => 93 | 129 => 95 | 317 => 94 | 318 => 96 | 319 => 97 | 320 => 98 | 337 => 99 | 338 => 100 | n => n, fun | 3 => 3 | 9 => 9 | 2 => 2 | 4 => 4 | 171 => 105 | 0 => 0 | 53 => 71 | 37 => 38 | 5 => 5 | 173 => 108 | 212 => 112 | 51 => 113 | 20 => 20 | 213 => 114 | 46 => 116 | 232 => 119 | 233 => 120 | n => n, fun | 17 => 1 | 18 => 2 | 19 => 3 | n => n⟩
theorem Tryd.laysM243 : Go.Proofs.LaysM.n243 Tryd.prog Tryd.laysM243_ren := {
  mixed := by kernel_rfl
  f129 := Tryd.func95.trans (congrArg some (by kernel_rfl))
  f243 := Tryd.func83.trans (congrArg some (by kernel_rfl))
  f246 := Tryd.func87.trans (congrArg some (by kernel_rfl))
  f283 := Tryd.func90.trans (congrArg some (by kernel_rfl))
  f284 := Tryd.func91.trans (congrArg some (by kernel_rfl))
  f285 := Tryd.func92.trans (congrArg some (by kernel_rfl))
  f286 := Tryd.func93.trans (congrArg some (by kernel_rfl))
  f317 := Tryd.func94.trans (congrArg some (by kernel_rfl))
  f318 := Tryd.func96.trans (congrArg some (by kernel_rfl))
  f319 := Tryd.func97.trans (congrArg some (by kernel_rfl))
  f320 := Tryd.func98.trans (congrArg some (by kernel_rfl))
  f337 := Tryd.func99.trans (congrArg some (by kernel_rfl))
  f338 := Tryd.func100.trans (congrArg some (by kernel_rfl))
  t0 := Tryd.underlying0
  a0 := Tryd.isAgg0
  z0 := Tryd.sizeOf0
  v0 := Tryd.zeroValue0
  t2 := Tryd.underlying2
  a2 := Tryd.isAgg2
  z2 := Tryd.sizeOf2
  v2 := Tryd.zeroValue2
  t3 := Tryd.underlying3
  a3 := Tryd.isAgg3
  z3 := Tryd.sizeOf3
  v3 := Tryd.zeroValue3
  t4 := Tryd.underlying4
  a4 := Tryd.isAgg4
  z4 := Tryd.sizeOf4
  v4 := Tryd.zeroValue4
  t5 := Tryd.underlying5
  a5 := Tryd.isAgg5
  z5 := Tryd.sizeOf5
  v5 := Tryd.zeroValue5
  t9 := Tryd.underlying9
  a9 := Tryd.isAgg9
  z9 := Tryd.sizeOf9
  v9 := Tryd.zeroValue9
  t20 := Tryd.underlying20
  a20 := Tryd.isAgg20
  z20 := Tryd.sizeOf20
  v20 := Tryd.zeroValue20
  t37 := Tryd.underlying38
  a37 := Tryd.isAgg38
  z37 := Tryd.sizeOf38
  v37 := Tryd.zeroValue38
  t46 := Tryd.underlying116
  a46 := Tryd.isAgg116
  z46 := Tryd.sizeOf116
  v46 := Tryd.zeroValue116
  t51 := Tryd.underlying113
  a51 := Tryd.isAgg113
  z51 := Tryd.sizeOf113
  v51 := Tryd.zeroValue113
  t53 := Tryd.underlying71
  a53 := Tryd.isAgg71
  z53 := Tryd.sizeOf71
  v53 := Tryd.zeroValue71
  t171 := Tryd.underlying105
  a171 := Tryd.isAgg105
  z171 := Tryd.sizeOf105
  v171 := Tryd.zeroValue105
  t173 := Tryd.underlying108
  a173 := Tryd.isAgg108
  z173 := Tryd.sizeOf108
  v173 := Tryd.zeroValue108
  t212 := Tryd.underlying112
  a212 := Tryd.isAgg112
  z212 := Tryd.sizeOf112
  v212 := Tryd.zeroValue112
  t213 := Tryd.underlying114
  a213 := Tryd.isAgg114
  z213 := Tryd.sizeOf114
  t232 := Tryd.underlying119
  a232 := Tryd.isAgg119
  z232 := Tryd.sizeOf119
  v232 := Tryd.zeroValue119
  t233 := Tryd.underlying120
  a233 := Tryd.isAgg120
  z233 := Tryd.sizeOf120
  v233 := Tryd.zeroValue120
  g17 := by kernel_rfl
  g18 := by kernel_rfl
  g19 := by kernel_rfl
  i0 := by kernel_rfl
  i2 := by kernel_rfl
  i3 := by kernel_rfl
  i4 := by kernel_rfl
  i5 := by kernel_rfl
  i9 := by kernel_rfl
  i20 := by kernel_rfl
  i37 := by kernel_rfl
  i46 := by kernel_rfl
  i51 := by kernel_rfl
  i53 := by kernel_rfl
  i171 := by kernel_rfl
  i173 := by kernel_rfl
  i212 := by kernel_rfl
  i232 := by kernel_rfl
  i233 := by kernel_rfl
  m17 := by kernel_rfl
  m18 := by kernel_rfl
  m19 := by kernel_rfl }
open Go.RowKit Go.Sort Go.Lib in
/-- internal/strconv.Itoa: "Itoa is equivalent to FormatInt(int64(i), 10).": i's decimal numeral, for every int. (LAID: no walk: one application.) -/
theorem Tryd.internal_strconv_Itoa (n : Int) (h0 : -9223372036854775808 ≤ n) (h1 : n ≤ 9223372036854775807) (w : World) (htab : Lib.TabIs Tryd.prog w "internal/strconv.uint64pow10" .u64 Lib.pow10Tab) :
    Calls Tryd.prog 83 #[.int .i64 n] w fun e w' => e = .returned (.string ⟨(Lib.itoa n).toArray⟩) ∧ ∃ k os, w' = grow (w.drewN k) os := Any.internal_strconv_Itoa Tryd.laysM243 n h0 h1 w htab
def Tryd.lays243_ren : Go.Shelf.Ren := ⟨fun | 243 => 83 | 246 => 87 | 283 => 90 | 284 => 91 | 285 => 92 | 286 => 93 | 129 => 95 | 317 => 94 | 318 => 96 | 319 => 97 | 320 => 98 | 337 => 99 | 338 => 100 | n => n, fun | 3 => 3 | 9 => 9 | 2 => 2 | 4 => 4 | 171 => 105 | 0 => 0 | 53 => 71 | 37 => 38 | 5 => 5 | 173 => 108 | 212 => 112 | 51 => 113 | 20 => 20 | 213 => 114 | 46 => 116 | 232 => 119 | 233 => 120 | n => n, fun | 17 => 1 | 18 => 2 | 19 => 3 | n => n⟩
theorem Tryd.lays243 : Go.Proofs.Lays.n243 Tryd.prog Tryd.lays243_ren := {
  mixed := by kernel_rfl
  f129 := Tryd.func95.trans (congrArg some (by kernel_rfl))
  f243 := Tryd.func83.trans (congrArg some (by kernel_rfl))
  f246 := Tryd.func87.trans (congrArg some (by kernel_rfl))
  f283 := Tryd.func90.trans (congrArg some (by kernel_rfl))
  f284 := Tryd.func91.trans (congrArg some (by kernel_rfl))
  f285 := Tryd.func92.trans (congrArg some (by kernel_rfl))
  f286 := Tryd.func93.trans (congrArg some (by kernel_rfl))
  f317 := Tryd.func94.trans (congrArg some (by kernel_rfl))
  f318 := Tryd.func96.trans (congrArg some (by kernel_rfl))
  f319 := Tryd.func97.trans (congrArg some (by kernel_rfl))
  f320 := Tryd.func98.trans (congrArg some (by kernel_rfl))
  f337 := Tryd.func99.trans (congrArg some (by kernel_rfl))
  f338 := Tryd.func100.trans (congrArg some (by kernel_rfl))
  t0 := Tryd.underlying0
  a0 := Tryd.isAgg0
  z0 := Tryd.sizeOf0
  v0 := Tryd.zeroValue0
  t2 := Tryd.underlying2
  a2 := Tryd.isAgg2
  z2 := Tryd.sizeOf2
  v2 := Tryd.zeroValue2
  t3 := Tryd.underlying3
  a3 := Tryd.isAgg3
  z3 := Tryd.sizeOf3
  v3 := Tryd.zeroValue3
  t4 := Tryd.underlying4
  a4 := Tryd.isAgg4
  z4 := Tryd.sizeOf4
  v4 := Tryd.zeroValue4
  t5 := Tryd.underlying5
  a5 := Tryd.isAgg5
  z5 := Tryd.sizeOf5
  v5 := Tryd.zeroValue5
  t9 := Tryd.underlying9
  a9 := Tryd.isAgg9
  z9 := Tryd.sizeOf9
  v9 := Tryd.zeroValue9
  t20 := Tryd.underlying20
  a20 := Tryd.isAgg20
  z20 := Tryd.sizeOf20
  v20 := Tryd.zeroValue20
  t37 := Tryd.underlying38
  a37 := Tryd.isAgg38
  z37 := Tryd.sizeOf38
  v37 := Tryd.zeroValue38
  t46 := Tryd.underlying116
  a46 := Tryd.isAgg116
  z46 := Tryd.sizeOf116
  v46 := Tryd.zeroValue116
  t51 := Tryd.underlying113
  a51 := Tryd.isAgg113
  z51 := Tryd.sizeOf113
  v51 := Tryd.zeroValue113
  t53 := Tryd.underlying71
  a53 := Tryd.isAgg71
  z53 := Tryd.sizeOf71
  v53 := Tryd.zeroValue71
  t171 := Tryd.underlying105
  a171 := Tryd.isAgg105
  z171 := Tryd.sizeOf105
  v171 := Tryd.zeroValue105
  t173 := Tryd.underlying108
  a173 := Tryd.isAgg108
  z173 := Tryd.sizeOf108
  v173 := Tryd.zeroValue108
  t212 := Tryd.underlying112
  a212 := Tryd.isAgg112
  z212 := Tryd.sizeOf112
  v212 := Tryd.zeroValue112
  t213 := Tryd.underlying114
  a213 := Tryd.isAgg114
  z213 := Tryd.sizeOf114
  t232 := Tryd.underlying119
  a232 := Tryd.isAgg119
  z232 := Tryd.sizeOf119
  v232 := Tryd.zeroValue119
  t233 := Tryd.underlying120
  a233 := Tryd.isAgg120
  z233 := Tryd.sizeOf120
  v233 := Tryd.zeroValue120
  g17 := by kernel_rfl
  g18 := by kernel_rfl
  g19 := by kernel_rfl }
open Go.RowKit Go.Sort Go.Lib in
/-- THE ROAD WITHOUT THE TABLE: 0 <= i < 100. (LAID: no walk: one application.) -/
theorem Tryd.internal_strconv_Itoa_small (i : Nat) (hi : i < 100) (w : World) :
    Calls Tryd.prog 83 #[.int .i64 i] w fun e w' => e = .returned (.string ⟨(Lib.decDigits i).toArray⟩) ∧ w' = w := Any.internal_strconv_Itoa_small Tryd.lays243 i hi w
def Tryd.laysM171_ren : Go.Shelf.Ren := ⟨fun | 171 => 78 | 243 => 83 | 246 => 87 | 283 => 90 | 284 => 91 | 285 => 92 | 286 => 93 | 129 => 95 | 317 => 94 | 318 => 96 | 319 => 97 | 320 => 98 | 337 => 99 | 338 => 100 | n => n, fun | 3 => 3 | 9 => 9 | 2 => 2 | 4 => 4 | 171 => 105 | 0 => 0 | 53 => 71 | 37 => 38 | 5 => 5 | 173 => 108 | 212 => 112 | 51 => 113 | 20 => 20 | 213 => 114 | 46 => 116 | 232 => 119 | 233 => 120 | n => n, fun | 17 => 1 | 18 => 2 | 19 => 3 | n => n⟩
theorem Tryd.laysM171 : Go.Proofs.LaysM.n171 Tryd.prog Tryd.laysM171_ren := {
  mixed := by kernel_rfl
  f129 := Tryd.func95.trans (congrArg some (by kernel_rfl))
  f171 := Tryd.func78.trans (congrArg some (by kernel_rfl))
  f243 := Tryd.func83.trans (congrArg some (by kernel_rfl))
  f246 := Tryd.func87.trans (congrArg some (by kernel_rfl))
  f283 := Tryd.func90.trans (congrArg some (by kernel_rfl))
  f284 := Tryd.func91.trans (congrArg some (by kernel_rfl))
  f285 := Tryd.func92.trans (congrArg some (by kernel_rfl))
  f286 := Tryd.func93.trans (congrArg some (by kernel_rfl))
  f317 := Tryd.func94.trans (congrArg some (by kernel_rfl))
  f318 := Tryd.func96.trans (congrArg some (by kernel_rfl))
  f319 := Tryd.func97.trans (congrArg some (by kernel_rfl))
  f320 := Tryd.func98.trans (congrArg some (by kernel_rfl))
  f337 := Tryd.func99.trans (congrArg some (by kernel_rfl))
  f338 := Tryd.func100.trans (congrArg some (by kernel_rfl))
  t0 := Tryd.underlying0
  a0 := Tryd.isAgg0
  z0 := Tryd.sizeOf0
  v0 := Tryd.zeroValue0
  t2 := Tryd.underlying2
  a2 := Tryd.isAgg2
  z2 := Tryd.sizeOf2
  v2 := Tryd.zeroValue2
  t3 := Tryd.underlying3
  a3 := Tryd.isAgg3
  z3 := Tryd.sizeOf3
  v3 := Tryd.zeroValue3
  t4 := Tryd.underlying4
  a4 := Tryd.isAgg4
  z4 := Tryd.sizeOf4
  v4 := Tryd.zeroValue4
  t5 := Tryd.underlying5
  a5 := Tryd.isAgg5
  z5 := Tryd.sizeOf5
  v5 := Tryd.zeroValue5
  t9 := Tryd.underlying9
  a9 := Tryd.isAgg9
  z9 := Tryd.sizeOf9
  v9 := Tryd.zeroValue9
  t20 := Tryd.underlying20
  a20 := Tryd.isAgg20
  z20 := Tryd.sizeOf20
  v20 := Tryd.zeroValue20
  t37 := Tryd.underlying38
  a37 := Tryd.isAgg38
  z37 := Tryd.sizeOf38
  v37 := Tryd.zeroValue38
  t46 := Tryd.underlying116
  a46 := Tryd.isAgg116
  z46 := Tryd.sizeOf116
  v46 := Tryd.zeroValue116
  t51 := Tryd.underlying113
  a51 := Tryd.isAgg113
  z51 := Tryd.sizeOf113
  v51 := Tryd.zeroValue113
  t53 := Tryd.underlying71
  a53 := Tryd.isAgg71
  z53 := Tryd.sizeOf71
  v53 := Tryd.zeroValue71
  t171 := Tryd.underlying105
  a171 := Tryd.isAgg105
  z171 := Tryd.sizeOf105
  v171 := Tryd.zeroValue105
  t173 := Tryd.underlying108
  a173 := Tryd.isAgg108
  z173 := Tryd.sizeOf108
  v173 := Tryd.zeroValue108
  t212 := Tryd.underlying112
  a212 := Tryd.isAgg112
  z212 := Tryd.sizeOf112
  v212 := Tryd.zeroValue112
  t213 := Tryd.underlying114
  a213 := Tryd.isAgg114
  z213 := Tryd.sizeOf114
  t232 := Tryd.underlying119
  a232 := Tryd.isAgg119
  z232 := Tryd.sizeOf119
  v232 := Tryd.zeroValue119
  t233 := Tryd.underlying120
  a233 := Tryd.isAgg120
  z233 := Tryd.sizeOf120
  v233 := Tryd.zeroValue120
  g17 := by kernel_rfl
  g18 := by kernel_rfl
  g19 := by kernel_rfl
  i0 := by kernel_rfl
  i2 := by kernel_rfl
  i3 := by kernel_rfl
  i4 := by kernel_rfl
  i5 := by kernel_rfl
  i9 := by kernel_rfl
  i20 := by kernel_rfl
  i37 := by kernel_rfl
  i46 := by kernel_rfl
  i51 := by kernel_rfl
  i53 := by kernel_rfl
  i171 := by kernel_rfl
  i173 := by kernel_rfl
  i212 := by kernel_rfl
  i232 := by kernel_rfl
  i233 := by kernel_rfl
  m17 := by kernel_rfl
  m18 := by kernel_rfl
  m19 := by kernel_rfl }
open Go.RowKit Go.Sort Go.Lib in
/-- strconv.Itoa: "Itoa is equivalent to FormatInt(int64(i), 10).": i's DECIMAL NUMERAL ('Lib.itoa': a '-' where i is negative, then the digits), FOR EVERY int. The world behind the call: the world before it, new blocks behind the heap (the library's 'var a [24]byte'), draws. (LAID: no walk: one application.) -/
theorem Tryd.strconv_Itoa (n : Int) (h0 : -9223372036854775808 ≤ n) (h1 : n ≤ 9223372036854775807) (w : World) (htab : Lib.TabIs Tryd.prog w "internal/strconv.uint64pow10" .u64 Lib.pow10Tab) :
    Calls Tryd.prog 78 #[.int .i64 n] w fun e w' => e = .returned (.string ⟨(Lib.itoa n).toArray⟩) ∧ ∃ k os, w' = grow (w.drewN k) os := Any.strconv_Itoa Tryd.laysM171 n h0 h1 w htab
def Tryd.lays171_ren : Go.Shelf.Ren := ⟨fun | 171 => 78 | 243 => 83 | 246 => 87 | 283 => 90 | 284 => 91 | 285 => 92 | 286 => 93 | 129 => 95 | 317 => 94 | 318 => 96 | 319 => 97 | 320 => 98 | 337 => 99 | 338 => 100 | n => n, fun | 3 => 3 | 9 => 9 | 2 => 2 | 4 => 4 | 171 => 105 | 0 => 0 | 53 => 71 | 37 => 38 | 5 => 5 | 173 => 108 | 212 => 112 | 51 => 113 | 20 => 20 | 213 => 114 | 46 => 116 | 232 => 119 | 233 => 120 | n => n, fun | 17 => 1 | 18 => 2 | 19 => 3 | n => n⟩
theorem Tryd.lays171 : Go.Proofs.Lays.n171 Tryd.prog Tryd.lays171_ren := {
  mixed := by kernel_rfl
  f129 := Tryd.func95.trans (congrArg some (by kernel_rfl))
  f171 := Tryd.func78.trans (congrArg some (by kernel_rfl))
  f243 := Tryd.func83.trans (congrArg some (by kernel_rfl))
  f246 := Tryd.func87.trans (congrArg some (by kernel_rfl))
  f283 := Tryd.func90.trans (congrArg some (by kernel_rfl))
  f284 := Tryd.func91.trans (congrArg some (by kernel_rfl))
  f285 := Tryd.func92.trans (congrArg some (by kernel_rfl))
  f286 := Tryd.func93.trans (congrArg some (by kernel_rfl))
  f317 := Tryd.func94.trans (congrArg some (by kernel_rfl))
  f318 := Tryd.func96.trans (congrArg some (by kernel_rfl))
  f319 := Tryd.func97.trans (congrArg some (by kernel_rfl))
  f320 := Tryd.func98.trans (congrArg some (by kernel_rfl))
  f337 := Tryd.func99.trans (congrArg some (by kernel_rfl))
  f338 := Tryd.func100.trans (congrArg some (by kernel_rfl))
  t0 := Tryd.underlying0
  a0 := Tryd.isAgg0
  z0 := Tryd.sizeOf0
  v0 := Tryd.zeroValue0
  t2 := Tryd.underlying2
  a2 := Tryd.isAgg2
  z2 := Tryd.sizeOf2
  v2 := Tryd.zeroValue2
  t3 := Tryd.underlying3
  a3 := Tryd.isAgg3
  z3 := Tryd.sizeOf3
  v3 := Tryd.zeroValue3
  t4 := Tryd.underlying4
  a4 := Tryd.isAgg4
  z4 := Tryd.sizeOf4
  v4 := Tryd.zeroValue4
  t5 := Tryd.underlying5
  a5 := Tryd.isAgg5
  z5 := Tryd.sizeOf5
  v5 := Tryd.zeroValue5
  t9 := Tryd.underlying9
  a9 := Tryd.isAgg9
  z9 := Tryd.sizeOf9
  v9 := Tryd.zeroValue9
  t20 := Tryd.underlying20
  a20 := Tryd.isAgg20
  z20 := Tryd.sizeOf20
  v20 := Tryd.zeroValue20
  t37 := Tryd.underlying38
  a37 := Tryd.isAgg38
  z37 := Tryd.sizeOf38
  v37 := Tryd.zeroValue38
  t46 := Tryd.underlying116
  a46 := Tryd.isAgg116
  z46 := Tryd.sizeOf116
  v46 := Tryd.zeroValue116
  t51 := Tryd.underlying113
  a51 := Tryd.isAgg113
  z51 := Tryd.sizeOf113
  v51 := Tryd.zeroValue113
  t53 := Tryd.underlying71
  a53 := Tryd.isAgg71
  z53 := Tryd.sizeOf71
  v53 := Tryd.zeroValue71
  t171 := Tryd.underlying105
  a171 := Tryd.isAgg105
  z171 := Tryd.sizeOf105
  v171 := Tryd.zeroValue105
  t173 := Tryd.underlying108
  a173 := Tryd.isAgg108
  z173 := Tryd.sizeOf108
  v173 := Tryd.zeroValue108
  t212 := Tryd.underlying112
  a212 := Tryd.isAgg112
  z212 := Tryd.sizeOf112
  v212 := Tryd.zeroValue112
  t213 := Tryd.underlying114
  a213 := Tryd.isAgg114
  z213 := Tryd.sizeOf114
  t232 := Tryd.underlying119
  a232 := Tryd.isAgg119
  z232 := Tryd.sizeOf119
  v232 := Tryd.zeroValue119
  t233 := Tryd.underlying120
  a233 := Tryd.isAgg120
  z233 := Tryd.sizeOf120
  v233 := Tryd.zeroValue120
  g17 := by kernel_rfl
  g18 := by kernel_rfl
  g19 := by kernel_rfl }
open Go.RowKit Go.Sort Go.Lib in
/-- THE ROAD WITHOUT THE TABLE: 0 <= i < 100: NO PREMISE ON THE WORLD, AND THE WORLD IS AS IT WAS: a row that keeps its argument in that range need list no table ('laid = []'). (LAID: no walk: one application.) -/
theorem Tryd.strconv_Itoa_small (i : Nat) (hi : i < 100) (w : World) :
    Calls Tryd.prog 78 #[.int .i64 i] w fun e w' => e = .returned (.string ⟨(Lib.decDigits i).toArray⟩) ∧ w' = w := Any.strconv_Itoa_small Tryd.lays171 i hi w
end Go.Proofs

/- Functions of Go's library that are told by contracts; and all functions, as the machine has them. Printed by a program of this session (lift.py). -/
namespace Go.Proofs.YtkbdinocadoelaaDoor.M
set_option linter.unusedVariables false
open Go Classical
theorem compC_slices_Clone_api_Val_api_Val : comp Tryd.prog Tryd.f74 = some ⟨1, 8, cloneC 4 56 [.int .i64 0, .int .i64 0, .str [], .nils 4], [.t 2]⟩ := by kernel_rfl
theorem extsOk [Base] (hT : Lib.TabIs Tryd.prog Base.base "internal/strconv.uint64pow10" .u64 Lib.pow10Tab) : ∀ (f : Nat) (y : List PV → Option PV), exts f = some y → ExtOk Tryd.prog f y := fun f y h => by
  unfold exts at h
  by_cases e78 : f = 78
  · subst e78
    rw [if_pos rfl] at h
    obtain rfl := Option.some.inj h
    exact itoa_ext Tryd.func78 rfl (by decide) hT (fun n h0 h1 w hT => Tryd.strconv_Itoa n h0 h1 w hT)
  rw [if_neg e78] at h
  by_cases e79 : f = 79
  · subst e79
    rw [if_pos rfl] at h
    obtain rfl := Option.some.inj h
    exact bool_ext Tryd.func79 rfl (by decide) (fun b w => Tryd.strconv_FormatBool b w)
  rw [if_neg e79] at h
  by_cases e75 : f = 75
  · subst e75
    rw [if_pos rfl] at h
    obtain rfl := Option.some.inj h
    exact join_ext Tryd.func75 rfl (by decide) (fun a c sep w => Tryd.strings_Join_none a c sep w) (fun bk o c xs sep w h1 h2 h3 h4 h5 => Tryd.strings_Join bk o c xs sep w h1 h2 h3 h4 h5)
  rw [if_neg e75] at h
  by_cases e74 : f = 74
  · subst e74
    rw [if_pos rfl] at h
    obtain rfl := Option.some.inj h
    exact clone_ext (by kernel_rfl) Tryd.func74 compC_slices_Clone_api_Val_api_Val (by decide)
  rw [if_neg e74] at h
  cases h
end Go.Proofs.YtkbdinocadoelaaDoor.M

/- FunMade, of all that its parameters' types allow. Printed by a program of this session (spec.py). -/
namespace Go.Proofs.YtkbdinocadoelaaDoor.M
set_option linter.unusedSimpArgs false
set_option linter.unusedVariables false
set_option linter.constructorNameAsVariable false
open Go Classical
theorem maxLen_eq : maxLen = 9223372036854775807 := by simp [maxLen]
theorem byte_of {x : Int} (h : (Lit.int .u8 x).wf = true) : ∃ b : UInt8, x = ((b.toNat : Nat) : Int) := by
  have r := range h
  simp [IntKind.min, IntKind.max, IntKind.signed, IntKind.bits] at r
  refine ⟨UInt8.ofNat x.toNat, ?_⟩
  simp
  omega
theorem ht5 : ∀ (n : Nat) (vs : List PV), Has Tryd.prog n 5 vs → ∃ x : UInt8, vs = [.int .u8 ((x.toNat : Nat) : Int)] ∧ True := fun n vs h => by
  obtain ⟨x, rfl, w⟩ := h.int Tryd.underlying5
  obtain ⟨b, rfl⟩ := byte_of w
  exact ⟨b, rfl, trivial⟩
theorem hr38 (n : Nat) : ∀ rows : List (List PV), (∀ r ∈ rows, Has Tryd.prog n 5 r) → ∃ xs : List UInt8, rows = xs.map eB ∧ ∀ y ∈ xs, True
  | [], _ => ⟨[], by simp [eI], fun y h => by cases h⟩
  | r :: rows, h => by
    obtain ⟨x, rfl, hx⟩ := ht5 n r (h r (by simp))
    obtain ⟨xs, rfl, hxs⟩ := hr38 n rows fun r hr => h r (by simp [hr])
    exact ⟨x :: xs, by simp [eI, eK, eB, eS, eO], fun y hy => trivial⟩
theorem cz5 : Tryd.prog.cellsOf 5 = 1 := by kernel_rfl
theorem ht38 : ∀ (n : Nat) (vs : List PV), Has Tryd.prog n 38 vs → ∃ x : List UInt8, vs = [.list 1 (x.map eB) false] ∧ (x.length ≤ maxLen ∧ ∀ y ∈ x, True) := fun n vs h => by
  cases n with
  | zero => exact h.zero.elim
  | succ n =>
    obtain ⟨rows, rfl, hl, hr⟩ := h.slice Tryd.underlying38
    obtain ⟨xs, rfl, hx⟩ := hr38 n rows hr
    rw [cz5]
    exact ⟨xs, rfl, by rw [List.length_map] at hl; exact hl, hx⟩
theorem hr37 (n : Nat) : ∀ rows : List (List PV), (∀ r ∈ rows, Has Tryd.prog n 38 r) → ∃ xs : List (List UInt8), rows = xs.map eLB ∧ ∀ y ∈ xs, (y.length ≤ maxLen ∧ ∀ yy ∈ y, True)
  | [], _ => ⟨[], by simp [eI], fun y h => by cases h⟩
  | r :: rows, h => by
    obtain ⟨x, rfl, hx⟩ := ht38 n r (h r (by simp))
    obtain ⟨xs, rfl, hxs⟩ := hr37 n rows fun r hr => h r (by simp [hr])
    exact ⟨x :: xs, by simp [eI, eK, eB, eS, eO, eLB], fun y hy => (List.mem_cons.1 hy).elim (fun e => e ▸ hx) (hxs y)⟩
theorem cz38 : Tryd.prog.cellsOf 38 = 1 := by kernel_rfl
theorem ht37 : ∀ (n : Nat) (vs : List PV), Has Tryd.prog n 37 vs → ∃ x : List (List UInt8), vs = [.list 1 (x.map eLB) false] ∧ (x.length ≤ maxLen ∧ ∀ y ∈ x, (y.length ≤ maxLen ∧ ∀ yy ∈ y, True)) := fun n vs h => by
  cases n with
  | zero => exact h.zero.elim
  | succ n =>
    obtain ⟨rows, rfl, hl, hr⟩ := h.slice Tryd.underlying37
    obtain ⟨xs, rfl, hx⟩ := hr37 n rows hr
    rw [cz38]
    exact ⟨xs, rfl, by rw [List.length_map] at hl; exact hl, hx⟩
theorem ht9 : ∀ (n : Nat) (vs : List PV), Has Tryd.prog n 9 vs → ∃ x : List UInt8, vs = [.str x] ∧ x.length ≤ maxLen := fun n vs h => by
  obtain ⟨x, rfl, w⟩ := h.str Tryd.underlying9
  exact ⟨x, rfl, w⟩
theorem specFunMade : ∀ pvs, HasAll Tryd.prog [5, 37, 9] pvs → call (SPof Tryd.prog exts) 4 pvs [] = .ok (.v (.bool true)) [] := by
  intro pvs h
  obtain ⟨v0, r0, rfl, g0, h⟩ := h.cons_inv
  obtain ⟨v1, r1, rfl, g1, h⟩ := h.cons_inv
  obtain ⟨v2, r2, rfl, g2, h⟩ := h.cons_inv
  obtain rfl := h.nil_inv
  obtain ⟨n0, g0⟩ := g0.one Tryd.underlying5 (fun fs h => by cases h)
  obtain ⟨x0, e0, h0⟩ := ht5 _ _ g0
  obtain rfl := List.cons.inj e0 |>.1
  obtain ⟨n1, g1⟩ := g1.one Tryd.underlying37 (fun fs h => by cases h)
  obtain ⟨x1, e1, h1⟩ := ht37 _ _ g1
  obtain rfl := List.cons.inj e1 |>.1
  obtain ⟨n2, g2⟩ := g2.one Tryd.underlying9 (fun fs h => by cases h)
  obtain ⟨x2, e2, h2⟩ := ht9 _ _ g2
  obtain rfl := List.cons.inj e2 |>.1
  exact (r_FunMade x0 x1 x2 : R_law5_FunMade x0 x1 x2 true) []
end Go.Proofs.YtkbdinocadoelaaDoor.M
