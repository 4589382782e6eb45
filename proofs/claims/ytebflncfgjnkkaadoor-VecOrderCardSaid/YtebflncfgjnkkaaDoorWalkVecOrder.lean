/- doorkeeperlaw10.VecOrder: Le is an order; the greatest is above both, and below all that is: the premises of the walk, for amounts of sixteen bits each. -/
import Derived.Test.YtebflncfgjnkkaaDoorFlowVecOrder
import Derived.Test.YtebflncfgjnkkaaDoorXVec
namespace Go.Proofs.YtebflncfgjnkkaaDoor.Pure
open Go.RowKit Go.Proofs.YtebflncfgjnkkaaDoor.X Go.Proofs.YtebflncfgjnkkaaDoorW.PrintWords Go.Proofs.YtebflncfgjnkkaaDoorW.PrintLast Go.Proofs.YtebflncfgjnkkaaDoorW.PrintMore
def leB (a b c d e f : Int) : Bool := decide (a ≤ d) && (decide (b ≤ e) && decide (c ≤ f))
theorem le_eq (a b c d e f : Int) : vec_Le.f a b c d e f = some (leB a b c d e f) := by
  unfold vec_Le.f leB
  by_cases h1 : a ≤ d <;> by_cases h2 : b ≤ e <;> simp [h1, h2]
theorem max1 (k : Nat) (x : S24) : vec_Max.f (k + 2) [x] = some (mx 0 x.f0, mx 0 x.f1, mx 0 x.f2) := by
  simp [vec_Max.f, vec_by.f, vec_by.l0, vec_Max_1.f, rd_T24, w64]
theorem max2 (k : Nat) (x y : S24) : vec_Max.f (k + 3) [x, y] = some (mx (mx 0 x.f0) y.f0, mx (mx 0 x.f1) y.f1, mx (mx 0 x.f2) y.f2) := by
  simp [vec_Max.f, vec_by.f, vec_by.l0, vec_Max_1.f, rd_T24, w64]
theorem bools (r5 r6 r7 r8 r9 r10 r11 r12 r13 r14 r15 ne : Bool) (h5 : r5 = true) (h6 : r6 = true) (h7 : r7 = true) (h8 : r8 = true → r9 = true → ne = false) (h10 : r10 = true → r11 = true → r12 = true) (h13 : r13 = true → r14 = true → r15 = true) :
    (bif (bif (bif (bif (bif (!r5) then true else (!r6)) then true else (!r7)) then true else (bif (bif r8 then r9 else false) then ne else false)) then true else (bif (bif r10 then r11 else false) then (!r12) else false)) then true else (bif (bif r13 then r14 else false) then (!r15) else false)) = false := by
  subst h5 h6 h7
  have e1 : (bif (bif r8 then r9 else false) then ne else false) = false := by
    revert h8
    cases r8 <;> cases r9 <;> simp
  have e2 : (bif (bif r10 then r11 else false) then (!r12) else false) = false := by
    revert h10
    cases r10 <;> cases r11 <;> simp
  have e3 : (bif (bif r13 then r14 else false) then (!r15) else false) = false := by
    revert h13
    cases r13 <;> cases r14 <;> simp
  rw [e1, e2, e3]
  rfl
theorem leB_iff {a b c d e f : Int} : leB a b c d e f = true ↔ a ≤ d ∧ b ≤ e ∧ c ≤ f := by simp [leB]
theorem mx_le1 (a b : Int) : a ≤ mx a b := by unfold mx; split <;> omega
theorem mx_le2 (a b : Int) : b ≤ mx a b := by unfold mx; split <;> omega
theorem mx_least {a b c : Int} (h1 : a ≤ c) (h2 : b ≤ c) : mx a b ≤ c := by unfold mx; split <;> omega
theorem mx_turn (a b c : Int) : mx (mx a b) c = mx c (mx a b) := by unfold mx; split <;> split <;> omega
theorem _root_.Go.Proofs.YtebflncfgjnkkaaDoor.X.doorkeeperlaw10_VecOrder.walk (_P : True) (a0 : Int) (a1 : Int) (a2 : Int) (a3 : Int) (a4 : Int) (a5 : Int) (a6 : Int) (a7 : Int) (a8 : Int) (w : World) (hT_ : LT_ w) (h0 : (Lit.int .u16 a0).wf = true) (h1 : (Lit.int .u16 a1).wf = true) (h2 : (Lit.int .u16 a2).wf = true) (h3 : (Lit.int .u16 a3).wf = true) (h4 : (Lit.int .u16 a4).wf = true) (h5 : (Lit.int .u16 a5).wf = true) (h6 : (Lit.int .u16 a6).wf = true) (h7 : (Lit.int .u16 a7).wf = true) (h8 : (Lit.int .u16 a8).wf = true) :
    Calls Tryd.prog 4 #[.int .u16 a0, .int .u16 a1, .int .u16 a2, .int .u16 a3, .int .u16 a4, .int .u16 a5, .int .u16 a6, .int .u16 a7, .int .u16 a8] w fun e w' => e = .returned (.bool true) ∧ Below w.heap.size w w' := by
  obtain ⟨l0, u0⟩ := u16_in h0
  obtain ⟨l1, u1⟩ := u16_in h1
  obtain ⟨l2, u2⟩ := u16_in h2
  obtain ⟨l3, u3⟩ := u16_in h3
  obtain ⟨l4, u4⟩ := u16_in h4
  obtain ⟨l5, u5⟩ := u16_in h5
  obtain ⟨l6, u6⟩ := u16_in h6
  obtain ⟨l7, u7⟩ := u16_in h7
  obtain ⟨l8, u8⟩ := u16_in h8
  have mk : ∀ {a b c : Int}, 0 ≤ a → a ≤ 65535 → 0 ≤ b → b ≤ 65535 → 0 ≤ c → c ≤ 65535 → doorkeeperlaw10_Make.f a b c = some (a, b, c) := fun ha ha' hb hb' hc hc' => by
    unfold doorkeeperlaw10_Make.f
    rw [w64 (by omega) (by omega), w64 (by omega) (by omega), w64 (by omega) (by omega)]
  refine doorkeeperlaw10_VecOrder.flow a0 a1 a2 a3 a4 a5 a6 a7 a8 a0 a1 a2 a3 a4 a5 a6 a7 a8 (mx a0 a3) (mx a1 a4) (mx a2 a5) (0 + 3) (leB a0 a1 a2 a0 a1 a2) (leB a0 a1 a2 (mx a0 a3) (mx a1 a4) (mx a2 a5)) (leB a3 a4 a5 (mx a0 a3) (mx a1 a4) (mx a2 a5)) (leB a0 a1 a2 a3 a4 a5) (leB a3 a4 a5 a0 a1 a2)
    (leB a0 a1 a2 a3 a4 a5) (leB a3 a4 a5 a6 a7 a8) (leB a0 a1 a2 a6 a7 a8) (leB a0 a1 a2 a6 a7 a8) (leB a3 a4 a5 a6 a7 a8) (leB (mx a0 a3) (mx a1 a4) (mx a2 a5) a6 a7 a8) a0 a1 a2 (0 + 2) (mx (mx a0 a3) a6) (mx (mx a1 a4) a7) (mx (mx a2 a5) a8) (0 + 4) (mx a6 (mx a0 a3)) (mx a7 (mx a1 a4)) (mx a8 (mx a2 a5)) (0 + 3) 1099511627776 1099511627776 1099511627776
    (leB a0 a1 a2 1099511627776 1099511627776 1099511627776) true (0 + 1) w hT_ (fun _ => mk l0 u0 l1 u1 l2 u2) (fun _ => mk l3 u3 l4 u4 l5 u5) (fun _ => mk l6 u6 l7 u7 l8 u8) (fun _ => ?_) (fun _ => le_eq _ _ _ _ _ _) (fun _ => le_eq _ _ _ _ _ _) (fun _ => le_eq _ _ _ _ _ _) (fun _ => le_eq _ _ _ _ _ _) (fun _ => le_eq _ _ _ _ _ _) (fun _ => le_eq _ _ _ _ _ _)
    (fun _ => le_eq _ _ _ _ _ _) (fun _ => le_eq _ _ _ _ _ _) (fun _ => le_eq _ _ _ _ _ _) (fun _ => le_eq _ _ _ _ _ _) (fun _ => le_eq _ _ _ _ _ _) (fun _ => ?_) (fun _ => ?_) (fun _ => ?_) (fun _ => rfl) (fun _ => le_eq _ _ _ _ _ _) (fun _ => awake_true 0) ?_ ?_
  · rw [max2, mx0 l0, mx0 l1, mx0 l2]
  · rw [max1, mx0 l0, mx0 l1, mx0 l2]
  · rw [max3, mx0 l0, mx0 l1, mx0 l2]
  · rw [max2, mx0 l6, mx0 l7, mx0 l8]
  · refine bools _ _ _ _ _ _ _ _ _ _ _ _ (leB_iff.2 ⟨Int.le_refl _, Int.le_refl _, Int.le_refl _⟩) (leB_iff.2 ⟨mx_le1 _ _, mx_le1 _ _, mx_le1 _ _⟩) (leB_iff.2 ⟨mx_le2 _ _, mx_le2 _ _, mx_le2 _ _⟩) (fun ha hb => ?_) (fun ha hb => ?_) (fun ha hb => ?_)
    · obtain ⟨b0, b1, b2⟩ := leB_iff.1 ha
      obtain ⟨c0, c1, c2⟩ := leB_iff.1 hb
      have e0 : a0 = a3 := by omega
      have e1 : a1 = a4 := by omega
      have e2 : a2 = a5 := by omega
      simp [e0, e1, e2]
    · obtain ⟨b0, b1, b2⟩ := leB_iff.1 ha
      obtain ⟨c0, c1, c2⟩ := leB_iff.1 hb
      exact leB_iff.2 ⟨by omega, by omega, by omega⟩
    · obtain ⟨b0, b1, b2⟩ := leB_iff.1 ha
      obtain ⟨c0, c1, c2⟩ := leB_iff.1 hb
      exact leB_iff.2 ⟨mx_least b0 c0, mx_least b1 c1, mx_least b2 c2⟩
  · have e : leB a0 a1 a2 1099511627776 1099511627776 1099511627776 = true := leB_iff.2 ⟨by omega, by omega, by omega⟩
    rw [e, mx_turn a0, mx_turn a1, mx_turn a2]
    simp
theorem VecOrder : True := trivial
end Go.Proofs.YtebflncfgjnkkaaDoor.Pure
