/- Parts of a proof, one behind another: Lp, Lw, Ty, Rc, Bk1, Bk2, Bk3, X0, R, R2, Sc10, Sc9, G10. -/
import Derived.Test.YtfbcnpbhhooapaaGreatDoorZParseTrees2
import Derived.Test.YtfbcnpbhhooapaaGreatDoorProg
import Derived.KernelRfl
import Derived.Tactics
import Derived.Tactics2
import Derived.Laws.Pointers
import Derived.RangeFuncNested
import Derived.RangeFuncBound
import Derived.RangeFuncCalls
import Derived.RangeFuncLeaves
import Derived.Shelf.Abstract
import Derived.WalkKit
import Derived.OwnWalkIn
import Derived.TacticsInMore
import Derived.LoopNIn
import Derived.LoopIn
set_option maxHeartbeats 4000000
namespace Go.Proofs.YtfbcnpbhhooapaaGreatDoor.M
set_option linter.unusedSimpArgs false
set_option linter.unusedVariables false
open Go Classical
def po (T : Nat) (o : Option Int) (r : Ret) (S : Sto) : CO := match o with | none => .ok r S | some e => .pan (.iface T (.int .i64 e)) S
theorem po_none (T : Nat) (r : Ret) (S : Sto) : po T none r S = .ok r S := rfl
theorem po_some (T : Nat) (e : Int) (r : Ret) (S : Sto) : po T (some e) r S = .pan (.iface T (.int .i64 e)) S := rfl
theorem take_some {o : Option (List PV)} {k : Nat} {l : List PV} (h : o.map (List.take k) = some l) : ∃ r, o = some (l ++ r) := by
 cases o with
 | none => cases h
 | some c => simp only [Option.map_some, Option.some.injEq] at h; exact ⟨c.drop k, by rw [← h, List.take_append_drop]⟩
theorem o_getBox_lt : ∀ {S : Sto} {n t : Nat} {c : List PV}, getBox S n t = some c → n < S.length
 | [], _, _, _, h => by simp [getBox] at h
 | _ :: _, 0, _, _, _ => by simp
 | _ :: S, n + 1, t, c, h => by have := o_getBox_lt (S := S) (n := n) (t := t) (c := c) h; simp; omega
theorem o_length_setBox : ∀ (S : Sto) (n t : Nat) (c : List PV), (setBox S n t c).length = S.length
 | [], _, _, _ => rfl
 | _ :: _, 0, _, _ => rfl
 | _ :: S, n + 1, t, c => by simp [setBox, o_length_setBox S n t c]
theorem o_length_setArr : ∀ (S : Sto) (n : Nat) (k : AK) (A : Arr), (setArr S n k A).length = S.length
 | [], _, _, _ => rfl
 | _ :: _, 0, _, _ => rfl
 | _ :: S, n + 1, t, c => by simp [setArr, o_length_setArr S n t c]
theorem o_getBox_setBox : ∀ {S : Sto} {n : Nat} (t : Nat) (c : List PV), n < S.length → getBox (setBox S n t c) n t = some c
 | [], _, _, _, h => by simp at h
 | _ :: _, 0, _, _, _ => by simp [setBox, getBox, upd]
 | _ :: S, n + 1, t, c, h => by simp only [setBox, getBox]; exact o_getBox_setBox t c (by simpa using h)
theorem o_getArr_setArr : ∀ {S : Sto} {n : Nat} (k : AK) (A : Arr), n < S.length → getArr (setArr S n k A) n k = some A
 | [], _, _, _, h => by simp at h
 | _ :: _, 0, _, _, _ => by simp [setArr, getArr, updK]
 | _ :: S, n + 1, t, c, h => by simp only [setArr, getArr]; exact o_getArr_setArr t c (by simpa using h)
theorem o_getBox_setArr : ∀ (S : Sto) (m : Nat) (k : AK) (A : Arr) (n t : Nat), getBox (setArr S m k A) n t = getBox S n t
 | [], _, _, _, _, _ => rfl
 | _ :: _, 0, _, _, 0, _ => rfl
 | _ :: _, 0, _, _, _ + 1, _ => rfl
 | _ :: _, _ + 1, _, _, 0, _ => rfl
 | _ :: S, m + 1, k, A, n + 1, t => by simp only [setArr, getBox]; exact o_getBox_setArr S m k A n t
theorem o_getArr_setBox : ∀ (S : Sto) (m t : Nat) (c : List PV) (n : Nat) (k : AK), getArr (setBox S m t c) n k = getArr S n k
 | [], _, _, _, _, _ => rfl
 | _ :: _, 0, _, _, 0, _ => rfl
 | _ :: _, 0, _, _, _ + 1, _ => rfl
 | _ :: _, _ + 1, _, _, 0, _ => rfl
 | _ :: S, m + 1, k, A, n + 1, t => by simp only [setBox, getArr]; exact o_getArr_setBox S m k A n t
theorem o_upd_upd {α : Type} (f : Nat → α) (i : Nat) (a b : α) : upd (upd f i a) i b = upd f i b := by
 funext j; simp only [upd]; split <;> rfl
theorem o_updK_updK {α : Type} (f : AK → α) (i : AK) (a b : α) : updK (updK f i a) i b = updK f i b := by
 funext j; simp only [updK]; split <;> rfl
theorem o_setBox_setBox : ∀ (S : Sto) (n t : Nat) (a b : List PV), setBox (setBox S n t a) n t b = setBox S n t b
 | [], _, _, _, _ => rfl
 | _ :: _, 0, _, _, _ => by simp [setBox, o_upd_upd]
 | _ :: S, n + 1, t, a, b => by simp only [setBox, o_setBox_setBox S n t a b]
theorem o_setArr_setArr : ∀ (S : Sto) (n : Nat) (k : AK) (a b : Arr), setArr (setArr S n k a) n k b = setArr S n k b
 | [], _, _, _, _ => rfl
 | _ :: _, 0, _, _, _ => by simp [setArr, o_updK_updK]
 | _ :: S, n + 1, t, a, b => by simp only [setArr, o_setArr_setArr S n t a b]
theorem o_setBox_setArr : ∀ (S : Sto) (m : Nat) (k : AK) (A : Arr) (n t : Nat) (c : List PV), setBox (setArr S m k A) n t c = setArr (setBox S n t c) m k A
 | [], _, _, _, _, _, _ => rfl
 | _ :: _, 0, _, _, 0, _, _ => rfl
 | _ :: _, 0, _, _, _ + 1, _, _ => rfl
 | _ :: _, _ + 1, _, _, 0, _, _ => rfl
 | _ :: S, m + 1, k, A, n + 1, t, c => by simp only [setArr, setBox, o_setBox_setArr S m k A n t c]
theorem o_setBox_same : ∀ {S : Sto} {n t : Nat} {c : List PV}, getBox S n t = some c → setBox S n t c = S
 | [], _, _, _, h => rfl
 | f :: _, 0, t, c, h => by
  simp only [getBox] at h
  have : upd f.box t (some c) = f.box := by funext j; simp only [upd]; split <;> simp_all
  simp [setBox, this]
 | _ :: S, n + 1, t, c, h => by simp only [setBox]; rw [o_setBox_same (S := S) (n := n) h]
theorem o_setArr_same : ∀ {S : Sto} {n : Nat} {k : AK} {A : Arr}, getArr S n k = some A → setArr S n k A = S
 | [], _, _, _, h => rfl
 | f :: _, 0, t, c, h => by
  simp only [getArr] at h
  have : updK f.arr t (some c) = f.arr := by funext j; simp only [updK]; split <;> simp_all
  simp [setArr, this]
 | _ :: S, n + 1, t, c, h => by simp only [setArr]; rw [o_setArr_same (S := S) (n := n) h]
theorem o_getBox_ne : ∀ (S : Sto) (n t : Nat) (c : List PV) (m u : Nat), n ≠ m → getBox (setBox S n t c) m u = getBox S m u
 | [], _, _, _, _, _, _ => rfl
 | _ :: _, 0, _, _, 0, _, h => absurd rfl h
 | _ :: _, 0, _, _, _ + 1, _, _ => rfl
 | _ :: _, _ + 1, _, _, 0, _, _ => rfl
 | _ :: S, n + 1, t, c, m + 1, u, h => by simp only [setBox, getBox]; exact o_getBox_ne S n t c m u (fun e => h (by rw [e]))
theorem o_getArr_ne : ∀ (S : Sto) (n : Nat) (k : AK) (c : Arr) (m : Nat) (u : AK), n ≠ m → getArr (setArr S n k c) m u = getArr S m u
 | [], _, _, _, _, _, _ => rfl
 | _ :: _, 0, _, _, 0, _, h => absurd rfl h
 | _ :: _, 0, _, _, _ + 1, _, _ => rfl
 | _ :: _, _ + 1, _, _, 0, _, _ => rfl
 | _ :: S, n + 1, t, c, m + 1, u, h => by simp only [setArr, getArr]; exact o_getArr_ne S n t c m u (fun e => h (by rw [e]))
theorem o_setBox_comm : ∀ (S : Sto) (n t : Nat) (c : List PV) (m u : Nat) (d : List PV), n ≠ m → setBox (setBox S m u d) n t c = setBox (setBox S n t c) m u d
 | [], _, _, _, _, _, _, _ => rfl
 | _ :: _, 0, _, _, 0, _, _, h => absurd rfl h
 | _ :: _, 0, _, _, _ + 1, _, _, _ => rfl
 | _ :: _, _ + 1, _, _, 0, _, _, _ => rfl
 | _ :: S, n + 1, t, c, m + 1, u, d, h => by simp only [setBox]; rw [o_setBox_comm S n t c m u d (fun e => h (by rw [e]))]
theorem o_setArr_comm : ∀ (S : Sto) (n : Nat) (t : AK) (c : Arr) (m : Nat) (u : AK) (d : Arr), n ≠ m → setArr (setArr S m u d) n t c = setArr (setArr S n t c) m u d
 | [], _, _, _, _, _, _, _ => rfl
 | _ :: _, 0, _, _, 0, _, _, h => absurd rfl h
 | _ :: _, 0, _, _, _ + 1, _, _, _ => rfl
 | _ :: _, _ + 1, _, _, 0, _, _, _ => rfl
 | _ :: S, n + 1, t, c, m + 1, u, d, h => by simp only [setArr]; rw [o_setArr_comm S n t c m u d (fun e => h (by rw [e]))]
theorem two_ne {n m : Nat} (h : n ≠ m) : (∀ (S : Sto) (t : Nat) (c : List PV) (u : Nat), getBox (setBox S n t c) m u = getBox S m u) ∧ (∀ (S : Sto) (t : Nat) (c : List PV) (u : Nat), getBox (setBox S m t c) n u = getBox S n u) ∧
  (∀ (S : Sto) (t : AK) (c : Arr) (u : AK), getArr (setArr S n t c) m u = getArr S m u) ∧ (∀ (S : Sto) (t : AK) (c : Arr) (u : AK), getArr (setArr S m t c) n u = getArr S n u) ∧
  (∀ (S : Sto) (t : Nat) (c : List PV) (u : Nat) (d : List PV), setBox (setBox S m u d) n t c = setBox (setBox S n t c) m u d) ∧ (∀ (S : Sto) (t : AK) (c : Arr) (u : AK) (d : Arr), setArr (setArr S m u d) n t c = setArr (setArr S n t c) m u d) :=
 ⟨fun S t c u => o_getBox_ne S n t c m u h, fun S t c u => o_getBox_ne S m t c n u (Ne.symm h), fun S t c u => o_getArr_ne S n t c m u h, fun S t c u => o_getArr_ne S m t c n u (Ne.symm h), fun S t c u d => o_setBox_comm S n t c m u d h, fun S t c u d => o_setArr_comm S n t c m u d h⟩
theorem o_upN_int : ∀ (n : Nat) (k : IntKind) (x : Int), PV.upN n (.int k x) = .int k x
 | 0, _, _ => rfl
 | n + 1, k, x => by simp [PV.upN, o_upN_int n k x, PV.up]
theorem o_upN_bool : ∀ (n : Nat) (x : Bool), PV.upN n (.bool x) = .bool x
 | 0, _ => rfl
 | n + 1, x => by simp [PV.upN, o_upN_bool n x, PV.up]
theorem o_upN_str : ∀ (n : Nat) (x : List UInt8), PV.upN n (.str x) = .str x
 | 0, _ => rfl
 | n + 1, x => by simp [PV.upN, o_upN_str n x, PV.up]
theorem o_upN_list : ∀ (n z : Nat) (x : List (List PV)) (f : Bool), PV.upN n (.list z x f) = .list z x f
 | 0, _, _, _ => rfl
 | n + 1, z, x, f => by simp [PV.upN, o_upN_list n z x f, PV.up]
theorem o_upN_sl : ∀ (n m : Nat) (a : AK) (o l v g : Nat) (f : Bool), PV.upN n (.sl m a o l v g f) = .sl (m + n) a o l v g f
 | 0, _, _, _, _, _, _, _ => rfl
 | n + 1, m, a, o, l, v, g, f => by simp [PV.upN, o_upN_sl n m a o l v g f, PV.up]; omega
theorem o_upL_map : ∀ (l : List PV), PV.upL l = l.map PV.up
 | [] => rfl
 | v :: l => by simp [PV.upL, o_upL_map l]
theorem o_upN_agg : ∀ (n : Nat) (l : List PV), PV.upN n (.agg l) = .agg (l.map (PV.upN n))
 | 0, l => by simp [PV.upN]
 | n + 1, l => by simp [PV.upN, o_upN_agg n l, PV.up, o_upL_map]
theorem o_dnN_int : ∀ (n : Nat) (k : IntKind) (x : Int), PV.dnN n (.int k x) = some (.int k x)
 | 0, _, _ => rfl
 | n + 1, k, x => by simp [PV.dnN, PV.dn, o_dnN_int n k x]
theorem o_dnN_bool : ∀ (n : Nat) (x : Bool), PV.dnN n (.bool x) = some (.bool x)
 | 0, _ => rfl
 | n + 1, x => by simp [PV.dnN, PV.dn, o_dnN_bool n x]
theorem o_dnN_str : ∀ (n : Nat) (x : List UInt8), PV.dnN n (.str x) = some (.str x)
 | 0, _ => rfl
 | n + 1, x => by simp [PV.dnN, PV.dn, o_dnN_str n x]
theorem o_upN_func : ∀ (n f : Nat), PV.upN n (.func f []) = .func f []
 | 0, _ => rfl
 | n + 1, f => by simp [PV.upN, o_upN_func n f, PV.up, PV.upL]
theorem app_lit {α : Type} (xs : List α) (a : α) (l : List α) (b : α) (m : List α) : (xs ++ (a :: l)) ++ (b :: m) = xs ++ (a :: (l ++ (b :: m))) := by simp
theorem succ_ne_zero' (n : Nat) : (n + 1 = 0) = False := by simp
mutual
theorem o_kill_up (d : Nat) : ∀ v : PV, v.up.kill d = v.up
 | .bool _ | .int _ _ | .str _ | .nils _ | .list _ _ _ | .rowp _ _ | .nili | .nile | .undef | .junk => by simp [PV.up, PV.kill]
 | .agg vs => by simp [PV.up, PV.kill, o_killL_up d vs]
 | .tup vs => by simp [PV.up, PV.kill, o_killL_up d vs]
 | .ptr n t o => by simp [PV.up, PV.kill]
 | .elem n a i o v g => by simp [PV.up, PV.kill]
 | .sl n a o l v g f => by simp [PV.up, PV.kill]
 | .func f caps => by simp [PV.up, PV.kill, o_killL_up d caps]
 | .iface t v => by simp [PV.up, PV.kill, o_kill_up d v]
theorem o_killL_up (d : Nat) : ∀ vs : List PV, PV.killL d (PV.upL vs) = PV.upL vs
 | [] => by simp [PV.upL, PV.killL]
 | v :: vs => by simp [PV.upL, PV.killL, o_kill_up d v, o_killL_up d vs]
end
def findI {α : Type} (p : α → Bool) : Nat → List α → Int
 | _, [] => -1
 | i, x :: xs => if p x = true then (i : Int) else findI p (i + 1) xs
theorem findI_any {α : Type} (p : α → Bool) : ∀ (i : Nat) (xs : List α), (0 ≤ findI p i xs) ↔ xs.any p = true
 | i, [] => by simp [findI]
 | i, x :: xs => by
  have := findI_any p (i + 1) xs
  simp only [findI, List.any_cons]
  cases p x <;> simp [this]
theorem findI_dec {α : Type} (p : α → Bool) (xs : List α) : decide (0 ≤ findI p 0 xs) = xs.any p := by
 have := findI_any p 0 xs
 cases h : xs.any p <;> simp [h] at this ⊢ <;> omega
theorem take_app3 {α β : Type} (f : α → β) (a c : List α) (x : β) : (a.map f ++ [x] ++ c.map f).take (a.length + 1 + c.length) = a.map f ++ [x] ++ c.map f := List.take_of_length_le (by simp; omega)
theorem set_get {α : Type} (l : List α) (i : Nat) (a : α) : (l.set i a)[i]? = (l[i]?).map fun _ => a := by
 rw [List.getElem?_set]
 by_cases h : i < l.length
 ·simp [h]
 ·simp [h]
theorem take_set {α β : Type} (f : α → β) (l : List α) (i : Nat) (x : β) : ((l.map f).set i x).take l.length = (l.map f).set i x := List.take_of_length_le (by simp)
end Go.Proofs.YtfbcnpbhhooapaaGreatDoor.M
namespace Go.Proofs.YtfbcnpbhhooapaaGreatDoor.M
open Go Classical
set_option maxRecDepth 10000
theorem V_k (k n : Int) (s : List UInt8) (l : List V) : (V.mk k n s l).k = k := rfl
theorem V_n (k n : Int) (s : List UInt8) (l : List V) : (V.mk k n s l).n = n := rfl
theorem V_s (k n : Int) (s : List UInt8) (l : List V) : (V.mk k n s l).s = s := rfl
theorem V_l (k n : Int) (s : List UInt8) (l : List V) : (V.mk k n s l).l = l := rfl
theorem lw0 : type_of% (And.intro @List.map_cons.{0,0} <| And.intro @List.map_nil.{0,0} <| And.intro @PV.up.eq_1 <| And.intro @PV.up.eq_2 <| And.intro @PV.up.eq_3 <| And.intro @PV.up.eq_4 <| And.intro @PV.up.eq_5 <| And.intro @PV.up.eq_6 <| And.intro @PV.up.eq_7 <| And.intro @PV.up.eq_8 <| And.intro @PV.up.eq_9 <| And.intro @PV.up.eq_10 <| And.intro @PV.up.eq_11 <| And.intro @PV.up.eq_12 <| And.intro @PV.up.eq_13 <| And.intro @PV.up.eq_14 <| And.intro @PV.up.eq_15 <| And.intro @PV.up.eq_16 <| And.intro @PV.upL.eq_1 <| And.intro @PV.upL.eq_2 <| And.intro @E_seq <| And.intro @E_reg <| And.intro @E_block <| And.intro @E_cnd <| And.intro @E_skip <| And.intro @E_exit <| And.intro @E_ret <| And.intro @E_dreg <| And.intro @thC_nor <| And.intro @thC_ret <| And.intro @thC_ext <| And.intro @thC_pan <| And.intro @inBlk_ext <| And.intro @inBlk_nor <| And.intro @inBlk_ret <| And.intro @inBlk_pan <| And.intro @evOps_cons <| And.intro @evOps_nil <| And.intro @thOps_ok <| And.intro @thOps_pan <| And.intro @evD_cons <| And.intro @evD_nil <| And.intro @thD_tot <| And.intro @thD_same <| And.intro @List.tail_cons.{0} <| And.intro @stp_none <| And.intro @stp_some <| And.intro @gd_tt <| And.intro @gd_ff <| And.intro @gd_tf <| And.intro @gd_ft <| And.intro @gd_undef <| And.intro @gd_td <| And.intro @gd_fd <| And.intro @ex_v <| And.intro @vo_some <| And.intro @ex.eq_1 <| And.intro @ex.eq_2 <| And.intro @ex.eq_3 <| @ex.eq_4) := And.intro @List.map_cons.{0,0} <| And.intro @List.map_nil.{0,0} <| And.intro @PV.up.eq_1 <| And.intro @PV.up.eq_2 <| And.intro @PV.up.eq_3 <| And.intro @PV.up.eq_4 <| And.intro @PV.up.eq_5 <| And.intro @PV.up.eq_6 <| And.intro @PV.up.eq_7 <| And.intro @PV.up.eq_8 <| And.intro @PV.up.eq_9 <| And.intro @PV.up.eq_10 <| And.intro @PV.up.eq_11 <| And.intro @PV.up.eq_12 <| And.intro @PV.up.eq_13 <| And.intro @PV.up.eq_14 <| And.intro @PV.up.eq_15 <| And.intro @PV.up.eq_16 <| And.intro @PV.upL.eq_1 <| And.intro @PV.upL.eq_2 <| And.intro @E_seq <| And.intro @E_reg <| And.intro @E_block <| And.intro @E_cnd <| And.intro @E_skip <| And.intro @E_exit <| And.intro @E_ret <| And.intro @E_dreg <| And.intro @thC_nor <| And.intro @thC_ret <| And.intro @thC_ext <| And.intro @thC_pan <| And.intro @inBlk_ext <| And.intro @inBlk_nor <| And.intro @inBlk_ret <| And.intro @inBlk_pan <| And.intro @evOps_cons <| And.intro @evOps_nil <| And.intro @thOps_ok <| And.intro @thOps_pan <| And.intro @evD_cons <| And.intro @evD_nil <| And.intro @thD_tot <| And.intro @thD_same <| And.intro @List.tail_cons.{0} <| And.intro @stp_none <| And.intro @stp_some <| And.intro @gd_tt <| And.intro @gd_ff <| And.intro @gd_tf <| And.intro @gd_ft <| And.intro @gd_undef <| And.intro @gd_td <| And.intro @gd_fd <| And.intro @ex_v <| And.intro @vo_some <| And.intro @ex.eq_1 <| And.intro @ex.eq_2 <| And.intro @ex.eq_3 <| @ex.eq_4
theorem lw1 : type_of% (And.intro @ex.eq_5 <| And.intro @ex.eq_6 <| And.intro @ex.eq_7 <| And.intro @ex.eq_8 <| And.intro @ex_store <| And.intro @stO_some <| And.intro @ex.eq_11 <| And.intro @ex.eq_12 <| And.intro @ex.eq_13 <| And.intro @ex.eq_14 <| And.intro @vop.eq_1 <| And.intro @vop.eq_2 <| And.intro @vop.eq_3 <| And.intro @vop.eq_4 <| And.intro @vop.eq_5 <| And.intro @vop.eq_6 <| And.intro @vop.eq_7 <| And.intro @vop.eq_8 <| And.intro @vop.eq_9 <| And.intro @vop.eq_10 <| And.intro @vop.eq_11 <| And.intro @vop.eq_12 <| And.intro @vop.eq_13 <| And.intro @vop.eq_14 <| And.intro @vop.eq_15 <| And.intro @vop.eq_16 <| And.intro @vop.eq_17 <| And.intro @vop.eq_18 <| And.intro @vop.eq_19 <| And.intro @vop.eq_20 <| And.intro @vop.eq_21 <| And.intro @vop.eq_22 <| And.intro @ev_t <| And.intro @ev_c <| And.intro @put_some <| And.intro @put_none <| And.intro @upd_same <| And.intro @upd_ne <| And.intro @updK_same <| And.intro @updK_ne <| And.intro @ne_eq.{1} <| And.intro @argE_at <| And.intro @List.getElem?_cons_zero.{0} <| And.intro @List.getElem?_cons_succ.{0} <| And.intro @Option.getD_some.{0} <| And.intro @PV.cells.eq_1 <| And.intro @PV.cells.eq_2 <| And.intro @List.all_cons.{0} <| And.intro @List.all_nil.{0} <| And.intro @PV.one.eq_1 <| And.intro @PV.one.eq_2 <| And.intro @PV.one.eq_3 <| And.intro @PV.one.eq_4 <| And.intro @PV.one.eq_5 <| And.intro @Bool.and_true <| And.intro @Bool.true_and <| And.intro @if_true.{1} <| And.intro @and_self <| And.intro @true_and <| @and_true) := And.intro @ex.eq_5 <| And.intro @ex.eq_6 <| And.intro @ex.eq_7 <| And.intro @ex.eq_8 <| And.intro @ex_store <| And.intro @stO_some <| And.intro @ex.eq_11 <| And.intro @ex.eq_12 <| And.intro @ex.eq_13 <| And.intro @ex.eq_14 <| And.intro @vop.eq_1 <| And.intro @vop.eq_2 <| And.intro @vop.eq_3 <| And.intro @vop.eq_4 <| And.intro @vop.eq_5 <| And.intro @vop.eq_6 <| And.intro @vop.eq_7 <| And.intro @vop.eq_8 <| And.intro @vop.eq_9 <| And.intro @vop.eq_10 <| And.intro @vop.eq_11 <| And.intro @vop.eq_12 <| And.intro @vop.eq_13 <| And.intro @vop.eq_14 <| And.intro @vop.eq_15 <| And.intro @vop.eq_16 <| And.intro @vop.eq_17 <| And.intro @vop.eq_18 <| And.intro @vop.eq_19 <| And.intro @vop.eq_20 <| And.intro @vop.eq_21 <| And.intro @vop.eq_22 <| And.intro @ev_t <| And.intro @ev_c <| And.intro @put_some <| And.intro @put_none <| And.intro @upd_same <| And.intro @upd_ne <| And.intro @updK_same <| And.intro @updK_ne <| And.intro @ne_eq.{1} <| And.intro @argE_at <| And.intro @List.getElem?_cons_zero.{0} <| And.intro @List.getElem?_cons_succ.{0} <| And.intro @Option.getD_some.{0} <| And.intro @PV.cells.eq_1 <| And.intro @PV.cells.eq_2 <| And.intro @List.all_cons.{0} <| And.intro @List.all_nil.{0} <| And.intro @PV.one.eq_1 <| And.intro @PV.one.eq_2 <| And.intro @PV.one.eq_3 <| And.intro @PV.one.eq_4 <| And.intro @PV.one.eq_5 <| And.intro @Bool.and_true <| And.intro @Bool.true_and <| And.intro @if_true.{1} <| And.intro @and_self <| And.intro @true_and <| @and_true
theorem lw2 : type_of% (And.intro @killS.eq_1 <| And.intro @killS.eq_2 <| And.intro @kill_box <| And.intro @kill_arr <| And.intro @e_box <| And.intro @e_arr <| And.intro @AK.tmp.eq_1 <| And.intro @AK.tmp.eq_2 <| And.intro @PV.killL.eq_1 <| And.intro @PV.killL.eq_2 <| And.intro @PV.kill.eq_1 <| And.intro @PV.kill.eq_2 <| And.intro @PV.kill.eq_3 <| And.intro @PV.kill.eq_4 <| And.intro @PV.kill.eq_5 <| And.intro @PV.kill.eq_6 <| And.intro @PV.kill.eq_7 <| And.intro @PV.kill.eq_8 <| And.intro @PV.kill.eq_9 <| And.intro @PV.kill.eq_10 <| And.intro @PV.kill.eq_11 <| And.intro @PV.kill.eq_12 <| And.intro @PV.kill.eq_13 <| And.intro @PV.kill.eq_14 <| And.intro @PV.kill.eq_15 <| And.intro @PV.kill.eq_16 <| And.intro @killE_at <| And.intro @newBox.eq_1 <| And.intro @newBox.eq_2 <| And.intro @initC.eq_1 <| And.intro @initC.eq_2 <| And.intro @initC.eq_3 <| And.intro @initA.eq_1 <| And.intro @initA.eq_2 <| And.intro @initA.eq_3 <| And.intro @ld.eq_1 <| And.intro @ld.eq_2 <| And.intro @ld.eq_3 <| And.intro @ld.eq_4 <| And.intro @getBox.eq_1 <| And.intro @getBox.eq_2 <| And.intro @getBox.eq_3 <| And.intro @setBox.eq_1 <| And.intro @setBox.eq_2 <| And.intro @setBox.eq_3 <| And.intro @getArr.eq_1 <| And.intro @getArr.eq_2 <| And.intro @getArr.eq_3 <| And.intro @setArr.eq_1 <| And.intro @setArr.eq_2 <| And.intro @setArr.eq_3 <| And.intro @pickC.eq_1 <| And.intro @pickC.eq_2 <| And.intro @Option.map_some.{0,0} <| And.intro @Option.map_none.{0,0} <| And.intro @PV.upN.eq_1 <| And.intro @PV.upN.eq_2 <| And.intro @binP.eq_1 <| And.intro @binP.eq_2 <| @binP.eq_3) := And.intro @killS.eq_1 <| And.intro @killS.eq_2 <| And.intro @kill_box <| And.intro @kill_arr <| And.intro @e_box <| And.intro @e_arr <| And.intro @AK.tmp.eq_1 <| And.intro @AK.tmp.eq_2 <| And.intro @PV.killL.eq_1 <| And.intro @PV.killL.eq_2 <| And.intro @PV.kill.eq_1 <| And.intro @PV.kill.eq_2 <| And.intro @PV.kill.eq_3 <| And.intro @PV.kill.eq_4 <| And.intro @PV.kill.eq_5 <| And.intro @PV.kill.eq_6 <| And.intro @PV.kill.eq_7 <| And.intro @PV.kill.eq_8 <| And.intro @PV.kill.eq_9 <| And.intro @PV.kill.eq_10 <| And.intro @PV.kill.eq_11 <| And.intro @PV.kill.eq_12 <| And.intro @PV.kill.eq_13 <| And.intro @PV.kill.eq_14 <| And.intro @PV.kill.eq_15 <| And.intro @PV.kill.eq_16 <| And.intro @killE_at <| And.intro @newBox.eq_1 <| And.intro @newBox.eq_2 <| And.intro @initC.eq_1 <| And.intro @initC.eq_2 <| And.intro @initC.eq_3 <| And.intro @initA.eq_1 <| And.intro @initA.eq_2 <| And.intro @initA.eq_3 <| And.intro @ld.eq_1 <| And.intro @ld.eq_2 <| And.intro @ld.eq_3 <| And.intro @ld.eq_4 <| And.intro @getBox.eq_1 <| And.intro @getBox.eq_2 <| And.intro @getBox.eq_3 <| And.intro @setBox.eq_1 <| And.intro @setBox.eq_2 <| And.intro @setBox.eq_3 <| And.intro @getArr.eq_1 <| And.intro @getArr.eq_2 <| And.intro @getArr.eq_3 <| And.intro @setArr.eq_1 <| And.intro @setArr.eq_2 <| And.intro @setArr.eq_3 <| And.intro @pickC.eq_1 <| And.intro @pickC.eq_2 <| And.intro @Option.map_some.{0,0} <| And.intro @Option.map_none.{0,0} <| And.intro @PV.upN.eq_1 <| And.intro @PV.upN.eq_2 <| And.intro @binP.eq_1 <| And.intro @binP.eq_2 <| @binP.eq_3
theorem lw3 : type_of% (And.intro @binP.eq_4 <| And.intro @binP.eq_5 <| And.intro @binP.eq_6 <| And.intro @binP.eq_7 <| And.intro @binP.eq_8 <| And.intro @binP.eq_9 <| And.intro @binP.eq_10 <| And.intro @binP.eq_11 <| And.intro @binP.eq_12 <| And.intro @binP.eq_13 <| And.intro @binP.eq_14 <| And.intro @binP.eq_15 <| And.intro @binP.eq_16 <| And.intro @binInt.eq_1 <| And.intro @binInt.eq_2 <| And.intro @binInt.eq_3 <| And.intro @binInt.eq_4 <| And.intro @binInt.eq_5 <| And.intro @binInt.eq_6 <| And.intro @binInt.eq_7 <| And.intro @binInt.eq_8 <| And.intro @binInt.eq_9 <| And.intro @binInt.eq_10 <| And.intro @binInt.eq_11 <| And.intro @binInt.eq_12 <| And.intro @binStr.eq_1 <| And.intro @binStr.eq_2 <| And.intro @binStr.eq_3 <| And.intro @binStr.eq_4 <| And.intro @binStr.eq_5 <| And.intro @binStr.eq_6 <| And.intro @binStr.eq_7 <| And.intro @binStr.eq_8 <| And.intro @binB.eq_1 <| And.intro @binB.eq_2 <| And.intro @unP.eq_1 <| And.intro @unP.eq_2 <| And.intro @unP.eq_3 <| And.intro @cnd_true <| And.intro @cnd_false <| And.intro @cnd_dec <| And.intro @cnd_not <| And.intro @not_false_eq_true <| And.intro @not_true_eq_false <| And.intro @Nat.zero_add <| And.intro @Nat.add_zero <| And.intro @fin_ret <| And.intro @fin_nor <| And.intro @List.length_cons.{0} <| And.intro @List.length_nil.{0} <| And.intro @List.drop_succ_cons.{0} <| And.intro @List.drop_zero.{0} <| And.intro @List.take_succ_cons.{0} <| And.intro @List.take_zero.{0} <| And.intro @fillP.eq_1 <| And.intro @fillP.eq_2 <| And.intro @setAt.eq_1 <| And.intro @setAt.eq_2 <| And.intro @List.set_cons_zero.{0} <| @List.set_cons_succ.{0}) := And.intro @binP.eq_4 <| And.intro @binP.eq_5 <| And.intro @binP.eq_6 <| And.intro @binP.eq_7 <| And.intro @binP.eq_8 <| And.intro @binP.eq_9 <| And.intro @binP.eq_10 <| And.intro @binP.eq_11 <| And.intro @binP.eq_12 <| And.intro @binP.eq_13 <| And.intro @binP.eq_14 <| And.intro @binP.eq_15 <| And.intro @binP.eq_16 <| And.intro @binInt.eq_1 <| And.intro @binInt.eq_2 <| And.intro @binInt.eq_3 <| And.intro @binInt.eq_4 <| And.intro @binInt.eq_5 <| And.intro @binInt.eq_6 <| And.intro @binInt.eq_7 <| And.intro @binInt.eq_8 <| And.intro @binInt.eq_9 <| And.intro @binInt.eq_10 <| And.intro @binInt.eq_11 <| And.intro @binInt.eq_12 <| And.intro @binStr.eq_1 <| And.intro @binStr.eq_2 <| And.intro @binStr.eq_3 <| And.intro @binStr.eq_4 <| And.intro @binStr.eq_5 <| And.intro @binStr.eq_6 <| And.intro @binStr.eq_7 <| And.intro @binStr.eq_8 <| And.intro @binB.eq_1 <| And.intro @binB.eq_2 <| And.intro @unP.eq_1 <| And.intro @unP.eq_2 <| And.intro @unP.eq_3 <| And.intro @cnd_true <| And.intro @cnd_false <| And.intro @cnd_dec <| And.intro @cnd_not <| And.intro @not_false_eq_true <| And.intro @not_true_eq_false <| And.intro @Nat.zero_add <| And.intro @Nat.add_zero <| And.intro @fin_ret <| And.intro @fin_nor <| And.intro @List.length_cons.{0} <| And.intro @List.length_nil.{0} <| And.intro @List.drop_succ_cons.{0} <| And.intro @List.drop_zero.{0} <| And.intro @List.take_succ_cons.{0} <| And.intro @List.take_zero.{0} <| And.intro @fillP.eq_1 <| And.intro @fillP.eq_2 <| And.intro @setAt.eq_1 <| And.intro @setAt.eq_2 <| And.intro @List.set_cons_zero.{0} <| @List.set_cons_succ.{0}
theorem lw4 : type_of% (And.intro @storeP.eq_1 <| And.intro @storeP.eq_2 <| And.intro @storeP.eq_3 <| And.intro @stCells.eq_1 <| And.intro @stCells.eq_2 <| And.intro @stCell.eq_1 <| And.intro @stCell.eq_2 <| And.intro @stCell.eq_3 <| And.intro @stCell.eq_4 <| And.intro @PV.dnN.eq_1 <| And.intro @PV.dnN.eq_2 <| And.intro @PV.dn.eq_1 <| And.intro @PV.dn.eq_2 <| And.intro @PV.dn.eq_3 <| And.intro @PV.dn.eq_4 <| And.intro @PV.dn.eq_5 <| And.intro @PV.dn.eq_6 <| And.intro @PV.dn.eq_7 <| And.intro @PV.dn.eq_8 <| And.intro @PV.dn.eq_9 <| And.intro @PV.dn.eq_10 <| And.intro @PV.dn.eq_11 <| And.intro @PV.dn.eq_12 <| And.intro @PV.dn.eq_13 <| And.intro @PV.dn.eq_14 <| And.intro @PV.dn.eq_15 <| And.intro @PV.dn.eq_16 <| And.intro @PV.dn.eq_17 <| And.intro @PV.dn.eq_18 <| And.intro @PV.dn.eq_19 <| And.intro @PV.dnL.eq_1 <| And.intro @PV.dnL.eq_2 <| And.intro @retOf.eq_1 <| And.intro @rdRes.eq_1 <| And.intro @rdRes.eq_2 <| And.intro @rdRes.eq_3 <| And.intro @retL.eq_1 <| And.intro @retL.eq_2 <| And.intro @ret1.eq_1 <| And.intro @ret1.eq_2 <| And.intro @ret1.eq_3 <| And.intro @ret1.eq_4 <| And.intro @retV.eq_1 <| And.intro @hand.eq_1 <| And.intro @hand.eq_2 <| And.intro @hand1.eq_1 <| And.intro @hand1.eq_2 <| And.intro @hand1.eq_3 <| And.intro @hand1.eq_4 <| And.intro @handL.eq_1 <| And.intro @handL.eq_2 <| And.intro @handA.eq_1 <| And.intro @handA.eq_2 <| And.intro @callP.eq_1 <| And.intro @callP.eq_2 <| And.intro @List.append_nil.{0} <| And.intro @List.nil_append.{0} <| And.intro @List.any_cons.{0} <| And.intro @List.any_nil.{0} <| @PV.hasSl.eq_1) := And.intro @storeP.eq_1 <| And.intro @storeP.eq_2 <| And.intro @storeP.eq_3 <| And.intro @stCells.eq_1 <| And.intro @stCells.eq_2 <| And.intro @stCell.eq_1 <| And.intro @stCell.eq_2 <| And.intro @stCell.eq_3 <| And.intro @stCell.eq_4 <| And.intro @PV.dnN.eq_1 <| And.intro @PV.dnN.eq_2 <| And.intro @PV.dn.eq_1 <| And.intro @PV.dn.eq_2 <| And.intro @PV.dn.eq_3 <| And.intro @PV.dn.eq_4 <| And.intro @PV.dn.eq_5 <| And.intro @PV.dn.eq_6 <| And.intro @PV.dn.eq_7 <| And.intro @PV.dn.eq_8 <| And.intro @PV.dn.eq_9 <| And.intro @PV.dn.eq_10 <| And.intro @PV.dn.eq_11 <| And.intro @PV.dn.eq_12 <| And.intro @PV.dn.eq_13 <| And.intro @PV.dn.eq_14 <| And.intro @PV.dn.eq_15 <| And.intro @PV.dn.eq_16 <| And.intro @PV.dn.eq_17 <| And.intro @PV.dn.eq_18 <| And.intro @PV.dn.eq_19 <| And.intro @PV.dnL.eq_1 <| And.intro @PV.dnL.eq_2 <| And.intro @retOf.eq_1 <| And.intro @rdRes.eq_1 <| And.intro @rdRes.eq_2 <| And.intro @rdRes.eq_3 <| And.intro @retL.eq_1 <| And.intro @retL.eq_2 <| And.intro @ret1.eq_1 <| And.intro @ret1.eq_2 <| And.intro @ret1.eq_3 <| And.intro @ret1.eq_4 <| And.intro @retV.eq_1 <| And.intro @hand.eq_1 <| And.intro @hand.eq_2 <| And.intro @hand1.eq_1 <| And.intro @hand1.eq_2 <| And.intro @hand1.eq_3 <| And.intro @hand1.eq_4 <| And.intro @handL.eq_1 <| And.intro @handL.eq_2 <| And.intro @handA.eq_1 <| And.intro @handA.eq_2 <| And.intro @callP.eq_1 <| And.intro @callP.eq_2 <| And.intro @List.append_nil.{0} <| And.intro @List.nil_append.{0} <| And.intro @List.any_cons.{0} <| And.intro @List.any_nil.{0} <| @PV.hasSl.eq_1
theorem lw5 : type_of% (And.intro @PV.hasSl.eq_2 <| And.intro @PV.isSl.eq_1 <| And.intro @PV.isSl.eq_2 <| And.intro @Bool.or_false <| And.intro @Bool.false_or <| And.intro @Bool.false_eq_true <| And.intro @if_false.{1} <| And.intro @slcP.eq_1 <| And.intro @slcP.eq_2 <| And.intro @slcP.eq_3 <| And.intro @slcP.eq_4 <| And.intro @slcGo.eq_1 <| And.intro @fullOf.eq_1 <| And.intro @fullOf.eq_2 <| And.intro @idx.eq_1 <| And.intro @idx.eq_2 <| And.intro @idx.eq_3 <| And.intro @iaddrP.eq_1 <| And.intro @iaddrP.eq_2 <| And.intro @iaddrP.eq_3 <| And.intro @iaddrP.eq_4 <| And.intro @lenP.eq_1 <| And.intro @lenP.eq_2 <| And.intro @lenP.eq_3 <| And.intro @lenP.eq_4 <| And.intro @lenS.eq_1 <| And.intro @lenS.eq_2 <| And.intro @appendP.eq_1 <| And.intro @newArr.eq_1 <| And.intro @view.eq_1 <| And.intro @view.eq_2 <| And.intro @view.eq_3 <| And.intro @view.eq_4 <| And.intro @srcRows.eq_1 <| And.intro @srcRows.eq_2 <| And.intro @srcRows.eq_3 <| And.intro @bigRow.eq_1 <| And.intro @okA.eq_1 <| And.intro @okA.eq_2 <| And.intro @okA.eq_3 <| And.intro @eqCells.eq_1 <| And.intro @eqCells.eq_2 <| And.intro @eqCells.eq_3 <| And.intro @eqCells.eq_4 <| And.intro @eqCells.eq_5 <| And.intro @convP.eq_1 <| And.intro @convP.eq_2 <| And.intro @convP.eq_3 <| And.intro @convP.eq_4 <| And.intro @convP.eq_5 <| And.intro @slsP.eq_1 <| And.intro @slsP.eq_2 <| And.intro @gd_tb <| And.intro @gd_fb <| And.intro @List.cons_append.{0} <| And.intro @Option.getD_none.{0} <| And.intro @List.getElem?_nil.{0} <| And.intro @AK.slot.injEq <| And.intro @AK.cell.injEq <| @decide_true) := And.intro @PV.hasSl.eq_2 <| And.intro @PV.isSl.eq_1 <| And.intro @PV.isSl.eq_2 <| And.intro @Bool.or_false <| And.intro @Bool.false_or <| And.intro @Bool.false_eq_true <| And.intro @if_false.{1} <| And.intro @slcP.eq_1 <| And.intro @slcP.eq_2 <| And.intro @slcP.eq_3 <| And.intro @slcP.eq_4 <| And.intro @slcGo.eq_1 <| And.intro @fullOf.eq_1 <| And.intro @fullOf.eq_2 <| And.intro @idx.eq_1 <| And.intro @idx.eq_2 <| And.intro @idx.eq_3 <| And.intro @iaddrP.eq_1 <| And.intro @iaddrP.eq_2 <| And.intro @iaddrP.eq_3 <| And.intro @iaddrP.eq_4 <| And.intro @lenP.eq_1 <| And.intro @lenP.eq_2 <| And.intro @lenP.eq_3 <| And.intro @lenP.eq_4 <| And.intro @lenS.eq_1 <| And.intro @lenS.eq_2 <| And.intro @appendP.eq_1 <| And.intro @newArr.eq_1 <| And.intro @view.eq_1 <| And.intro @view.eq_2 <| And.intro @view.eq_3 <| And.intro @view.eq_4 <| And.intro @srcRows.eq_1 <| And.intro @srcRows.eq_2 <| And.intro @srcRows.eq_3 <| And.intro @bigRow.eq_1 <| And.intro @okA.eq_1 <| And.intro @okA.eq_2 <| And.intro @okA.eq_3 <| And.intro @eqCells.eq_1 <| And.intro @eqCells.eq_2 <| And.intro @eqCells.eq_3 <| And.intro @eqCells.eq_4 <| And.intro @eqCells.eq_5 <| And.intro @convP.eq_1 <| And.intro @convP.eq_2 <| And.intro @convP.eq_3 <| And.intro @convP.eq_4 <| And.intro @convP.eq_5 <| And.intro @slsP.eq_1 <| And.intro @slsP.eq_2 <| And.intro @gd_tb <| And.intro @gd_fb <| And.intro @List.cons_append.{0} <| And.intro @Option.getD_none.{0} <| And.intro @List.getElem?_nil.{0} <| And.intro @AK.slot.injEq <| And.intro @AK.cell.injEq <| @decide_true
theorem lw6 : type_of% (And.intro @decide_false <| And.intro @Bool.not_true <| And.intro @Bool.not_false <| And.intro @Option.isNone_none.{0} <| And.intro @Option.isSome_none.{0} <| And.intro @Option.isSome_some.{0} <| And.intro @Option.isNone_some.{0} <| And.intro @prep.eq_1 <| And.intro @prep.eq_2 <| And.intro @Ac.kill.eq_1 <| And.intro @PV.int.injEq <| And.intro @beq_self_eq_true.{0} <| And.intro @decide_eq_true_eq <| And.intro @Bool.not_eq_true <| And.intro @decide_eq_false_iff_not <| And.intro @true_or <| And.intro @or_true <| And.intro @false_or <| And.intro @or_false <| And.intro @false_and <| And.intro @and_false <| And.intro @Bool.not_not <| And.intro @Classical.not_not <| And.intro @Bool.false_and <| And.intro @Bool.and_false <| And.intro @Bool.and_self <| And.intro @ite_self.{1} <| And.intro @PV.pure.eq_1 <| And.intro @PV.pure.eq_2 <| And.intro @PV.pure.eq_3 <| And.intro @PV.pure.eq_4 <| And.intro @PV.pure.eq_5 <| And.intro @PV.pure.eq_6 <| And.intro @PV.pure.eq_7 <| And.intro @PV.pure.eq_8 <| And.intro @PV.pure.eq_9 <| And.intro @PV.plain.eq_1 <| And.intro @PV.plain.eq_2 <| And.intro @PV.plain.eq_3 <| And.intro @PV.plain.eq_4 <| And.intro @PV.plain.eq_5 <| And.intro @PV.plain.eq_6 <| And.intro @PV.plain.eq_7 <| And.intro @PV.plain.eq_8 <| And.intro @PV.plain.eq_9 <| And.intro @PV.plainL.eq_1 <| And.intro @PV.plainL.eq_2 <| And.intro @Ret.plain.eq_1 <| And.intro @Ret.plain.eq_2 <| And.intro @allPure.eq_1 <| And.intro @List.isEmpty_nil.{0} <| And.intro @List.isEmpty_cons.{0} <| And.intro @Bool.or_true <| And.intro @Bool.true_or <| And.intro @encL_length <| And.intro @List.length_map.{0,0} <| And.intro @encL_get <| And.intro @List.getElem?_map.{0,0} <| And.intro @encL_drop <| @encL_take) := And.intro @decide_false <| And.intro @Bool.not_true <| And.intro @Bool.not_false <| And.intro @Option.isNone_none.{0} <| And.intro @Option.isSome_none.{0} <| And.intro @Option.isSome_some.{0} <| And.intro @Option.isNone_some.{0} <| And.intro @prep.eq_1 <| And.intro @prep.eq_2 <| And.intro @Ac.kill.eq_1 <| And.intro @PV.int.injEq <| And.intro @beq_self_eq_true.{0} <| And.intro @decide_eq_true_eq <| And.intro @Bool.not_eq_true <| And.intro @decide_eq_false_iff_not <| And.intro @true_or <| And.intro @or_true <| And.intro @false_or <| And.intro @or_false <| And.intro @false_and <| And.intro @and_false <| And.intro @Bool.not_not <| And.intro @Classical.not_not <| And.intro @Bool.false_and <| And.intro @Bool.and_false <| And.intro @Bool.and_self <| And.intro @ite_self.{1} <| And.intro @PV.pure.eq_1 <| And.intro @PV.pure.eq_2 <| And.intro @PV.pure.eq_3 <| And.intro @PV.pure.eq_4 <| And.intro @PV.pure.eq_5 <| And.intro @PV.pure.eq_6 <| And.intro @PV.pure.eq_7 <| And.intro @PV.pure.eq_8 <| And.intro @PV.pure.eq_9 <| And.intro @PV.plain.eq_1 <| And.intro @PV.plain.eq_2 <| And.intro @PV.plain.eq_3 <| And.intro @PV.plain.eq_4 <| And.intro @PV.plain.eq_5 <| And.intro @PV.plain.eq_6 <| And.intro @PV.plain.eq_7 <| And.intro @PV.plain.eq_8 <| And.intro @PV.plain.eq_9 <| And.intro @PV.plainL.eq_1 <| And.intro @PV.plainL.eq_2 <| And.intro @Ret.plain.eq_1 <| And.intro @Ret.plain.eq_2 <| And.intro @allPure.eq_1 <| And.intro @List.isEmpty_nil.{0} <| And.intro @List.isEmpty_cons.{0} <| And.intro @Bool.or_true <| And.intro @Bool.true_or <| And.intro @encL_length <| And.intro @List.length_map.{0,0} <| And.intro @encL_get <| And.intro @List.getElem?_map.{0,0} <| And.intro @encL_drop <| @encL_take
theorem lw7 : type_of% (And.intro @map_drop' <| And.intro @map_take' <| And.intro @take_len <| And.intro @take_encL_app <| And.intro @take_map_app <| And.intro @nat_nonneg <| And.intro @Int.toNat_natCast <| And.intro @cnd_b <| And.intro @cnd_and <| And.intro @wrap_i64 <| And.intro @bytesOf.eq_1 <| And.intro @bytesOf.eq_2 <| And.intro @bytesOf.eq_3 <| And.intro @bytesOf_eB <| And.intro @bytes_eB <| And.intro @eI.eq_1 <| And.intro @eK.eq_1 <| And.intro @eB.eq_1 <| And.intro @eS.eq_1 <| And.intro @eO.eq_1 <| And.intro @rowsP.eq_1 <| And.intro @rowsP.eq_2 <| And.intro @List.replicate.eq_1.{0} <| And.intro @List.replicate.eq_2.{0} <| And.intro @List.length_append.{0} <| And.intro @encL_nil <| And.intro @encL_cons <| And.intro @encL_app <| @List.map_append.{0,0}) := And.intro @map_drop' <| And.intro @map_take' <| And.intro @take_len <| And.intro @take_encL_app <| And.intro @take_map_app <| And.intro @nat_nonneg <| And.intro @Int.toNat_natCast <| And.intro @cnd_b <| And.intro @cnd_and <| And.intro @wrap_i64 <| And.intro @bytesOf.eq_1 <| And.intro @bytesOf.eq_2 <| And.intro @bytesOf.eq_3 <| And.intro @bytesOf_eB <| And.intro @bytes_eB <| And.intro @eI.eq_1 <| And.intro @eK.eq_1 <| And.intro @eB.eq_1 <| And.intro @eS.eq_1 <| And.intro @eO.eq_1 <| And.intro @rowsP.eq_1 <| And.intro @rowsP.eq_2 <| And.intro @List.replicate.eq_1.{0} <| And.intro @List.replicate.eq_2.{0} <| And.intro @List.length_append.{0} <| And.intro @encL_nil <| And.intro @encL_cons <| And.intro @encL_app <| @List.map_append.{0,0}
theorem nat_le_self (n : Nat) : (n ≤ n) = True := by simp
theorem ex_w {cl : Oracle} {kd : Bool} {d : Option Nat} {o : VO} {ac : Ac} : ex cl kd d (.w o) ac = vo d ac (vop ac.ev [] o) := rfl
theorem thF_nor {SP : Prg} {ac : Ac} {ops : List SOper} {tot : List Bool} : thF SP (.nor ac) ops tot = evD (call SP) ops tot (prep ops ac) := rfl
theorem joinA_nil (a : List PV) : joinA a [] = a := by simp [joinA]
theorem joinA_meth (a vs : List PV) : joinA a [.tup vs] = vs ++ a := rfl
theorem joinA_two (a : List PV) (u v : PV) (r : List PV) : joinA a (u :: v :: r) = a ++ (u :: v :: r) := by cases u <;> rfl
theorem joinA_bool (a : List PV) (b : Bool) : joinA a [.bool b] = a ++ [.bool b] := rfl
theorem joinA_int (a : List PV) (k : IntKind) (n : Int) : joinA a [.int k n] = a ++ [.int k n] := rfl
theorem joinA_str (a : List PV) (s : List UInt8) : joinA a [.str s] = a ++ [.str s] := rfl
theorem joinA_nils (a : List PV) (z : Nat) : joinA a [.nils z] = a ++ [.nils z] := rfl
theorem joinA_list (a : List PV) (z : Nat) (r : List (List PV)) (f : Bool) : joinA a [.list z r f] = a ++ [.list z r f] := rfl
theorem joinA_agg (a : List PV) (vs : List PV) : joinA a [.agg vs] = a ++ [.agg vs] := rfl
theorem joinA_ptr (a : List PV) (n t o : Nat) : joinA a [.ptr n t o] = a ++ [.ptr n t o] := rfl
theorem joinA_rowp (a : List PV) (r : List PV) (o : Nat) : joinA a [.rowp r o] = a ++ [.rowp r o] := rfl
theorem joinA_elem (a : List PV) (n : Nat) (k : AK) (i o v g : Nat) : joinA a [.elem n k i o v g] = a ++ [.elem n k i o v g] := rfl
theorem joinA_sl (a : List PV) (n : Nat) (k : AK) (o l v g : Nat) (f : Bool) : joinA a [.sl n k o l v g f] = a ++ [.sl n k o l v g f] := rfl
theorem joinA_func (a : List PV) (f : Nat) (c : List PV) : joinA a [.func f c] = a ++ [.func f c] := rfl
theorem joinA_iface (a : List PV) (t : Nat) (v : PV) : joinA a [.iface t v] = a ++ [.iface t v] := rfl
theorem joinA_nili (a : List PV)  : joinA a [.nili] = a ++ [.nili] := rfl
theorem lw : type_of% (And.intro nat_le_self <| And.intro @ex_w <| And.intro @E_sreg <| And.intro @thF_nor <| And.intro @frzC.eq_1 <| And.intro @frzC.eq_2 <| And.intro @o_upN_func <| And.intro @app_lit <| And.intro @joinA_nil <| And.intro @joinA_meth <| And.intro @joinA_two <| And.intro @joinA_bool <| And.intro @joinA_int <| And.intro @joinA_str <| And.intro @joinA_nils <| And.intro @joinA_list <| And.intro @joinA_agg <| And.intro @joinA_ptr <| And.intro @joinA_rowp <| And.intro @joinA_elem <| And.intro @joinA_sl <| And.intro @joinA_func <| And.intro @joinA_iface <| And.intro @joinA_nili <| And.intro @vop.eq_23 <| And.intro @vop.eq_24 <| And.intro @ac0.eq_1 <| And.intro @o_length_setBox <| And.intro @o_length_setArr <| And.intro @o_getBox_setBox <| And.intro @o_getArr_setArr <| And.intro @o_getBox_setArr <| And.intro @o_getArr_setBox <| And.intro @o_setBox_setBox <| And.intro @o_setArr_setArr <| And.intro @o_setBox_setArr <| And.intro @o_setBox_same <| And.intro @o_setArr_same <| And.intro @o_upN_int <| And.intro @o_upN_bool <| And.intro @o_upN_str <| And.intro @o_upN_list <| And.intro @o_upN_sl <| And.intro @o_upN_agg <| And.intro @o_dnN_int <| And.intro @o_dnN_bool <| And.intro @o_dnN_str <| And.intro @succ_ne_zero' <| And.intro @o_killL_up <| And.intro @AK.isCell.eq_1 <| And.intro @AK.isCell.eq_2 <| And.intro lw0 <| And.intro lw1 <| And.intro lw2 <| And.intro lw3 <| And.intro lw4 <| And.intro lw5 <| And.intro lw6 <| lw7) := And.intro nat_le_self <| And.intro @ex_w <| And.intro @E_sreg <| And.intro @thF_nor <| And.intro @frzC.eq_1 <| And.intro @frzC.eq_2 <| And.intro @o_upN_func <| And.intro @app_lit <| And.intro @joinA_nil <| And.intro @joinA_meth <| And.intro @joinA_two <| And.intro @joinA_bool <| And.intro @joinA_int <| And.intro @joinA_str <| And.intro @joinA_nils <| And.intro @joinA_list <| And.intro @joinA_agg <| And.intro @joinA_ptr <| And.intro @joinA_rowp <| And.intro @joinA_elem <| And.intro @joinA_sl <| And.intro @joinA_func <| And.intro @joinA_iface <| And.intro @joinA_nili <| And.intro @vop.eq_23 <| And.intro @vop.eq_24 <| And.intro @ac0.eq_1 <| And.intro @o_length_setBox <| And.intro @o_length_setArr <| And.intro @o_getBox_setBox <| And.intro @o_getArr_setArr <| And.intro @o_getBox_setArr <| And.intro @o_getArr_setBox <| And.intro @o_setBox_setBox <| And.intro @o_setArr_setArr <| And.intro @o_setBox_setArr <| And.intro @o_setBox_same <| And.intro @o_setArr_same <| And.intro @o_upN_int <| And.intro @o_upN_bool <| And.intro @o_upN_str <| And.intro @o_upN_list <| And.intro @o_upN_sl <| And.intro @o_upN_agg <| And.intro @o_dnN_int <| And.intro @o_dnN_bool <| And.intro @o_dnN_str <| And.intro @succ_ne_zero' <| And.intro @o_killL_up <| And.intro @AK.isCell.eq_1 <| And.intro @AK.isCell.eq_2 <| And.intro lw0 <| And.intro lw1 <| And.intro lw2 <| And.intro lw3 <| And.intro lw4 <| And.intro lw5 <| And.intro lw6 <| lw7
theorem nil_all {p : Nat → Prop} : (∀ x ∈ ([] : List Nat), p x) = True := by simp
theorem pure_ptr (n t o : Nat) : (PV.ptr n t o).pure = false := rfl
theorem fin_pan {res : List RX} {v : PV} {S : Sto} : fin res (.pan v S) = match v.dn with | some v => .pan v S.tail | none => .bad := rfl
theorem nxT_ok {K : Ac → EO} {ac : Ac} : nxT K (.ok ac) = K ac := rfl
theorem nxT_pan {K : Ac → EO} {v : PV} {S : Sto} : nxT K (.pan v S) = .pan v S := rfl
theorem sameE_nor {ds : List Nat} {a b : Ac} : sameE ds (.nor a) (.nor b) = (a.S = b.S ∧ ∀ d ∈ ds, a.e d = b.e d) := rfl
theorem sameE_pan {ds : List Nat} {v v' : PV} {S S' : Sto} : sameE ds (.pan v S) (.pan v' S') = (v = v' ∧ S = S') := rfl
theorem stpI_eq {cl : Oracle} {l : List SOper} {i : Nat} {ac : Ac} : stpI cl l i ac = match l[i]? with | some o => stp cl false o ac | none => .bad := rfl
theorem lx : type_of% (And.intro @po_none <| And.intro @po_some <| And.intro @fin_pan <| And.intro @E_treg <| And.intro @evT.eq_1 <| And.intro @evT.eq_2 <| And.intro @evTs.eq_1 <| And.intro @evTs.eq_2 <| And.intro @nxT_ok <| And.intro @nxT_pan <| And.intro @sameE_nor <| And.intro @sameE_pan <| And.intro @stpI_eq <| And.intro @List.forall_mem_cons.{0} <| And.intro @nil_all <| And.intro @pure_ptr <| And.intro (show IntKind.u64.bits = 64 from rfl) <| And.intro (show min 1 64 = 1 from rfl) <| And.intro (show (2 : Int) ^ 1 = 2 from rfl) <| And.intro @decide_not <| And.intro @isnileP_eql <| And.intro @isnileP_neq <| And.intro @Option.bind_some.{0,0} <| And.intro @UInt8.toNat_zero <| And.intro @UInt8.ofNat_toNat <| And.intro @Int.natCast_zero <| And.intro @Int.ofNat_eq_natCast <| And.intro @Nat.zero_le <| And.intro @Nat.sub_zero <| And.intro @take_app3 <| And.intro @set_get <| And.intro @take_set <| And.intro @List.length_set.{0} <| And.intro @List.map_set.{0,0} <| @Int.cast_ofNat_Int) := And.intro @po_none <| And.intro @po_some <| And.intro @fin_pan <| And.intro @E_treg <| And.intro @evT.eq_1 <| And.intro @evT.eq_2 <| And.intro @evTs.eq_1 <| And.intro @evTs.eq_2 <| And.intro @nxT_ok <| And.intro @nxT_pan <| And.intro @sameE_nor <| And.intro @sameE_pan <| And.intro @stpI_eq <| And.intro @List.forall_mem_cons.{0} <| And.intro @nil_all <| And.intro @pure_ptr <| And.intro (show IntKind.u64.bits = 64 from rfl) <| And.intro (show min 1 64 = 1 from rfl) <| And.intro (show (2 : Int) ^ 1 = 2 from rfl) <| And.intro @decide_not <| And.intro @isnileP_eql <| And.intro @isnileP_neq <| And.intro @Option.bind_some.{0,0} <| And.intro @UInt8.toNat_zero <| And.intro @UInt8.ofNat_toNat <| And.intro @Int.natCast_zero <| And.intro @Int.ofNat_eq_natCast <| And.intro @Nat.zero_le <| And.intro @Nat.sub_zero <| And.intro @take_app3 <| And.intro @set_get <| And.intro @take_set <| And.intro @List.length_set.{0} <| And.intro @List.map_set.{0,0} <| @Int.cast_ofNat_Int
end Go.Proofs.YtfbcnpbhhooapaaGreatDoor.M
namespace Go.Proofs.YtfbcnpbhhooapaaGreatDoor.M
open Go
structure Part where
  Ref : Bool
  Text : List UInt8
def ePart (x : Part) : List PV := [.bool x.Ref, .str x.Text]
structure Node where
  Kind : Int
  Num : Int
  Text : List UInt8
  Parts : List Part
  Kids : List Int
def eNode (x : Node) : List PV := [.int .i64 x.Kind, .int .i64 x.Num, .str x.Text, .list 2 (x.Parts.map ePart) false, .list 1 (x.Kids.map eI) false]
structure Attr where
  Name : List UInt8
  Expr : List Node
def eAttr (x : Attr) : List PV := [.str x.Name, .list 5 (x.Expr.map eNode) false]
structure Block where
  Kind : Int
  Label : List UInt8
  Attrs : List Attr
  Blocks : List Block
mutual
def eBlock : Block → List PV
  | .mk a0 a1 a2 a3 => [.int .i64 a0, .str a1, .list 2 (a2.map eAttr) false, .list 4 (eBlocks a3) false]
def eBlocks : List Block → List (List PV)
  | [] => []
  | b :: r => eBlock b :: eBlocks r
end
theorem eBlocks_eq : ∀ l, eBlocks l = l.map eBlock
  | [] => rfl
  | b :: r => by rw [eBlocks, eBlocks_eq r]; rfl
theorem eBlock_eq (x : Block) : eBlock x = [.int .i64 x.Kind, .str x.Label, .list 2 (x.Attrs.map eAttr) false, .list 4 (x.Blocks.map eBlock) false] := by cases x; rw [eBlock, eBlocks_eq]
structure Parsed where
  L : List Block
  E : Int
def eParsed (x : Parsed) : List PV := [.list 4 (x.L.map eBlock) false, .int .i64 x.E]
structure Read where
  L : List Node
  E : Int
def eRead (x : Read) : List PV := [.list 5 (x.L.map eNode) false, .int .i64 x.E]
structure Token where
  Kind : Int
  Text : List UInt8
  Num : Int
  Parts : List Part
  At : Int
def eToken (x : Token) : List PV := [.int .i64 x.Kind, .str x.Text, .int .i64 x.Num, .list 2 (x.Parts.map ePart) false, .int .i64 x.At]
structure PTokens where
  l : List Token
  pos : Int
def ePTokens (x : PTokens) : List PV := [.list 5 (x.l.map eToken) false, .int .i64 x.pos]
structure PExprs where
  tokens : PTokens
  out : List Node
  deep : Int
def ePExprs (x : PExprs) : List PV := [.list 5 (x.tokens.l.map eToken) false, .int .i64 x.tokens.pos, .list 5 (x.out.map eNode) false, .int .i64 x.deep]
structure PBlocks where
  exprs : PExprs
def ePBlocks (x : PBlocks) : List PV := [.list 5 (x.exprs.tokens.l.map eToken) false, .int .i64 x.exprs.tokens.pos, .list 5 (x.exprs.out.map eNode) false, .int .i64 x.exprs.deep]
structure SWriter where
  out : List UInt8
def eSWriter (x : SWriter) : List PV := [.list 1 (x.out.map eB) false]
structure Tokens where
  L : List Token
  E : Int
def eTokens (x : Tokens) : List PV := [.list 5 (x.L.map eToken) false, .int .i64 x.E]
structure reader where
  l : List Token
  i : Int
  deep : Int
  e : Int
  out : List Node
def ereader (x : reader) : List PV := [.list 5 (x.l.map eToken) false, .int .i64 x.i, .int .i64 x.deep, .int .i64 x.e, .list 5 (x.out.map eNode) false]
structure SBlocks where
  writer : SWriter
def eSBlocks (x : SBlocks) : List PV := [.list 1 (x.writer.out.map eB) false]
structure LText where
  left : List UInt8
  pos : Int
def eLText (x : LText) : List PV := [.str x.left, .int .i64 x.pos]
structure LTokens where
  text : LText
  out : List Token
def eLTokens (x : LTokens) : List PV := [.str x.text.left, .int .i64 x.text.pos, .list 5 (x.out.map eToken) false]
theorem le : type_of% (And.intro @enc_eq <| And.intro @eI.eq_1 <| And.intro @eK.eq_1 <| And.intro @eB.eq_1 <| And.intro @eS.eq_1 <| And.intro @eO.eq_1 <| And.intro @eF.eq_1 <| And.intro @eLB.eq_1 <| And.intro @eLS.eq_1 <| And.intro @V_k <| And.intro @V_n <| And.intro @V_s <| And.intro @V_l <| And.intro @encL_nil <| And.intro @encL_cons <| And.intro @encL_app <| And.intro @List.map_cons.{0,0} <| And.intro @List.map_nil.{0,0} <| And.intro @List.map_append.{0,0} <| And.intro @ePart.eq_1 <| And.intro @eNode.eq_1 <| And.intro @eAttr.eq_1 <| And.intro @eParsed.eq_1 <| And.intro @eRead.eq_1 <| And.intro @eToken.eq_1 <| And.intro @ePTokens.eq_1 <| And.intro @ePExprs.eq_1 <| And.intro @ePBlocks.eq_1 <| And.intro @eSWriter.eq_1 <| And.intro @eTokens.eq_1 <| And.intro @ereader.eq_1 <| And.intro @eSBlocks.eq_1 <| And.intro @eLText.eq_1 <| And.intro @eLTokens.eq_1 <| @eBlock_eq) := And.intro @enc_eq <| And.intro @eI.eq_1 <| And.intro @eK.eq_1 <| And.intro @eB.eq_1 <| And.intro @eS.eq_1 <| And.intro @eO.eq_1 <| And.intro @eF.eq_1 <| And.intro @eLB.eq_1 <| And.intro @eLS.eq_1 <| And.intro @V_k <| And.intro @V_n <| And.intro @V_s <| And.intro @V_l <| And.intro @encL_nil <| And.intro @encL_cons <| And.intro @encL_app <| And.intro @List.map_cons.{0,0} <| And.intro @List.map_nil.{0,0} <| And.intro @List.map_append.{0,0} <| And.intro @ePart.eq_1 <| And.intro @eNode.eq_1 <| And.intro @eAttr.eq_1 <| And.intro @eParsed.eq_1 <| And.intro @eRead.eq_1 <| And.intro @eToken.eq_1 <| And.intro @ePTokens.eq_1 <| And.intro @ePExprs.eq_1 <| And.intro @ePBlocks.eq_1 <| And.intro @eSWriter.eq_1 <| And.intro @eTokens.eq_1 <| And.intro @ereader.eq_1 <| And.intro @eSBlocks.eq_1 <| And.intro @eLText.eq_1 <| And.intro @eLTokens.eq_1 <| @eBlock_eq
theorem aa {p q : Prop} (a : p) (b : q) : p ∧ q := ⟨a, b⟩
theorem fi {p F : Prop} (f : F) (h : F → p := by intro f; simp only [f, lw, lx, le, Nat.reduceMul, UInt8.reduceToNat, reduceIte, reduceCtorEq, Nat.reduceEqDiff, Nat.reduceAdd, Nat.reduceLeDiff, Nat.reduceSub, Nat.reduceLT, Int.reduceEq, Int.reduceLT, Int.reduceLE, Int.reduceToNat, Int.reduceAdd, Int.reduceSub, Int.reduceMul, Int.reduceNeg]) : p := h f
theorem lo {p F A : Prop} (f : F) (t : A) (h : F → A → p := by intro f t; (try simp only [f, lw, lx, le, Nat.reduceMul, UInt8.reduceToNat, reduceIte, reduceCtorEq, Nat.reduceEqDiff, Nat.reduceAdd, Nat.reduceLeDiff, Nat.reduceSub, Nat.reduceLT, Int.reduceEq, Int.reduceLT, Int.reduceLE, Int.reduceToNat, Int.reduceAdd, Int.reduceSub, Int.reduceMul, Int.reduceNeg]); refine t _ _ _ ?_; simp only [f, lw, lx, le, Nat.reduceMul, UInt8.reduceToNat, reduceIte, reduceCtorEq, Nat.reduceEqDiff, Nat.reduceAdd, Nat.reduceLeDiff, Nat.reduceSub, Nat.reduceLT, Int.reduceEq, Int.reduceLT, Int.reduceLE, Int.reduceToNat, Int.reduceAdd, Int.reduceSub, Int.reduceMul, Int.reduceNeg]) : p := h f t
theorem ue {c d : SC} (h : c = d) : ∀ (SP : Prg) (ac : Ac), E SP c ac = E SP d ac := fun SP ac => congrFun (congrArg (E SP) h) ac
noncomputable section
def rcv_Q36 : RecF := ⟨2, (.seq (.reg [ ⟨some 4, none, .alloc [(.int .i64 0)]⟩]) (.seq (.reg [ ⟨some 7, none, .v (.mov (.t 0))⟩, ⟨some 8, none, .call (.c (.func 60 [])) [(.t 7)]⟩, ⟨some 6, none, .v (.mov (.t 8))⟩, ⟨some 9, none, .v (.extract 0 (.t 6))⟩, ⟨some 10, none, .v (.extract 1 (.t 6))⟩, ⟨some 5, none, .v (.mov (.t 9))⟩, ⟨none, none, .store 1 (.t 4) (.t 10)⟩]) (.seq (.seq (.reg [ ⟨some 11, none, .v (.load none (.t 4))⟩, ⟨some 12, none, .v (.bin .neq (.t 11) (.c (.int .i64 0)))⟩]) (.cond (.t 12) (.seq (.reg [ ⟨some 13, none, .v (.load none (.t 4))⟩, ⟨none, none, .store 1 (.t 4) (.t 13)⟩]) .ret) .skip)) .skip))), 14, 4, [⟨some 15, none, .v (.mov (.t 1))⟩, ⟨some 16, none, .v (.mov (.t 5))⟩, ⟨some 17, none, .v (.build [(.nils 5), (.int .i64 0)] [(0, 1, (.t 16))])⟩, ⟨some 18, none, .v (.build [(.nils 5), (.int .i64 0), (.nils 5), (.int .i64 0)] [(0, 2, (.t 17))])⟩, ⟨some 19, none, .v (.build [(.nils 5), (.int .i64 0), (.nils 5), (.int .i64 0)] [(0, 4, (.t 18))])⟩, ⟨some 20, none, .box (.t 19)⟩, ⟨some 21, none, .call (.t 15) [(.t 20)]⟩], (.seq (.reg [ ⟨none, none, .store 1 (.t 4) (.c (.int .i64 0))⟩]) .ret), [(.cell 4 none)], 116⟩
def pre_parse_reading_0 : SC := (.reg [⟨some 4, none, .alloc [(.int .i64 0)]⟩])
def pre_parse_reading_1 : SC := (.reg [⟨some 7, none, .v (.mov (.t 0))⟩, ⟨some 8, none, .call (.c (.func 60 [])) [(.t 7)]⟩, ⟨some 6, none, .v (.mov (.t 8))⟩, ⟨some 9, none, .v (.extract 0 (.t 6))⟩, ⟨some 10, none, .v (.extract 1 (.t 6))⟩, ⟨some 5, none, .v (.mov (.t 9))⟩, ⟨none, none, .store 1 (.t 4) (.t 10)⟩])
def pre_parse_reading_2 : SC := (.seq (.reg [⟨some 11, none, .v (.load none (.t 4))⟩, ⟨some 12, none, .v (.bin .neq (.t 11) (.c (.int .i64 0)))⟩]) (.cond (.t 12) (.seq (.reg [⟨some 13, none, .v (.load none (.t 4))⟩, ⟨none, none, .store 1 (.t 4) (.t 13)⟩]) .ret) .skip))
def hd_Q36 : Code → Code | .seq a _ => a | c => c
def tl_parse_reading : Code → Code | .seq _ b => b | c => c
def rg_parse_reading : Code → Array Oper | .region _ o _ => o | _ => #[]
def ri_Q36 : Code → Nat | .region i _ _ => i | _ => 0
noncomputable def b_Q36 : Code := (Tryz.f36.body).getD .skip
noncomputable def o1_parse_reading : Oper := (rg_parse_reading (hd_Q36 (tl_parse_reading (tl_parse_reading (tl_parse_reading b_Q36)))))[0]!
noncomputable def o2_parse_reading : Oper := (rg_parse_reading (hd_Q36 (tl_parse_reading (tl_parse_reading (tl_parse_reading b_Q36)))))[1]!
theorem ta_parse_reading (v : Value) (w : World) : (Instr.typeAssert (.iface 116 v) 20 116 true).run Tryz.prog w = .ok (.tuple #[v, .bool true]) w := by
  have hu : Tryz.prog.underlying 116 = some (.int .i64) := by kernel_rfl
  simp [Instr.typeAssert, run_underlying hu, go_sem, Result.andThen]
theorem idle_parse_reading (v : Value) (w : World) : CallsD Tryz.prog 61 #[v] .returning w fun e u' w' => (∃ v, e = .returned v) ∧ u' = .returning ∧ w' = w := by
  refine callsD_of_wpS Tryz.func61 rfl fun c₀ cs hu => ?_
  apply wpS_seq
  apply wpS_region
  simp [wpOpsS, go_sem, recoverD, hu, Tryz.ntmps61, Exit.thenS]
  apply wpS_seq
  apply wpS_region
  simp [wpOpsS, go_sem, Exit.thenS]
  refine wpS_cond (t := false) (by simp [Act.eval, Array.replicate]) ?_
  simp only [Bool.false_eq_true, if_false]
  refine wpS_of_wp (wp_skip ?_)
  cases c₀
  simp_all [bodyPostS, results, Tryz.results61]
theorem takes_parse_reading (v : Value) (k : IntKind) (m : Int) (w w' : World) (h : (Instr.storeAt 27 v (.int k m)).run Tryz.prog w = .ok () w') :
    CallsD Tryz.prog 61 #[v] (.panicking [{ v := .iface 116 (.int k m), recovered := false }]) w fun e u' w'' => (∃ v, e = .returned v) ∧ u' = .panicking [{ v := .iface 116 (.int k m), recovered := true }] ∧ w'' = w' := by
  refine callsD_of_wpS Tryz.func61 rfl fun c₀ cs hu => ?_
  apply wpS_seq
  apply wpS_region
  simp [wpOpsS, go_sem, recoverD, hu, Tryz.ntmps61, Exit.thenS]
  apply wpS_seq
  apply wpS_region
  simp [wpOpsS, go_sem, Exit.thenS]
  refine wpS_cond (t := true) (by simp [Act.eval, Array.replicate]) ?_
  simp only [if_true]
  apply wpS_seq
  apply wpS_region
  simp [wpOpsS, go_sem, Exit.thenS, ta_parse_reading]
  apply wpS_seq
  apply wpS_seq
  apply wpS_region
  simp [wpOpsS, go_sem, Exit.thenS]
  refine wpS_cond (t := false) (by simp [Act.eval, Array.replicate]) ?_
  simp only [Bool.false_eq_true, if_false]
  refine wpS_of_wp (wp_skip ?_)
  simp only [Exit.thenS]
  apply wpS_region
  simp [wpOpsS, Region.wanted, show List.range.loop 2 [] = [0, 1] from rfl, List.range, execOp, Act.eval, Act.put, Oper.upon, h, bodyPostS, results, Tryz.results61]
noncomputable def b2_parse_reading : Code := (Tryz.f61.body).getD .skip
theorem rcvOk_Q36 [Base] : RecOk Tryz.prog 36 rcv_Q36 := rec_ok (fk := 61) (fn := Tryz.f36) (l := [(hd_Q36 b_Q36, pre_parse_reading_0), (hd_Q36 (tl_parse_reading b_Q36), pre_parse_reading_1), (hd_Q36 (tl_parse_reading (tl_parse_reading b_Q36)), pre_parse_reading_2)]) (i4 := ri_Q36 (hd_Q36 (tl_parse_reading (tl_parse_reading (tl_parse_reading b_Q36))))) (i5 := ri_Q36 (hd_Q36 (tl_parse_reading (tl_parse_reading (tl_parse_reading (tl_parse_reading b_Q36)))))) (o1 := o1_parse_reading) (o2 := o2_parse_reading) (ops := (rg_parse_reading (hd_Q36 (tl_parse_reading (tl_parse_reading (tl_parse_reading (tl_parse_reading b_Q36))))))) (cz := (tl_parse_reading (tl_parse_reading (tl_parse_reading (tl_parse_reading (tl_parse_reading b_Q36)))))) (ty := 27)
  { func := Tryz.func36
    name := by decide
    body := by rfl
    mk_ := by rfl
    mkd := by rfl
    mkg := by rfl
    df := ⟨_, by rfl⟩
    dfd := by rfl
    dfg := by rfl
    pre := by rfl
    cpre := by
      intro p hp
      simp only [List.mem_cons, List.not_mem_nil, or_false] at hp
      rcases hp with rfl | rfl | rfl
      all_goals kernel_rfl
    cops := by kernel_rfl
    cpost := by kernel_rfl
    cres := by kernel_rfl
    nargs := by decide
    dn := by decide
    tn := by decide
    dst := by decide
    kty := ⟨none, by kernel_rfl, rfl⟩
    enter := fun v w => by unfold callFunc; simp [Tryz.func61, show Tryz.f61.body = some b2_parse_reading from rfl, show ¬ Tryz.f61.name = "runtime.NumGoroutine" from by decide]
    idle := idle_parse_reading
    takes := takes_parse_reading }
end
end Go.Proofs.YtfbcnpbhhooapaaGreatDoor.M
namespace Go.Proofs.YtfbcnpbhhooapaaGreatDoor.Bk
open Go Go.RowKit Go.Shelf
attribute [local go_sem] Oper.semAt_some
def upto {α : Type} (f : Nat → α) (k : Nat) : List α := (List.range k).map f
theorem upto_succ {α : Type} (f : Nat → α) (k : Nat) : upto f (k + 1) = upto f k ++ [f k] := by simp [upto, List.range_succ]
theorem upto_length {α : Type} (f : Nat → α) (k : Nat) : (upto f k).length = k := by simp [upto]
def bk (zs : List Int) (k : Nat) : Int × Int := ((zs.length : Int) - 1 - k, zs[zs.length - 1 - k]?.getD 0)
structure Kq (n₀ Bs : Nat) (W W' : World) : Prop where
 b : Below n₀ W W'
 k : W'.heap[Bs]? = W.heap[Bs]?
theorem Kq.refl (n₀ Bs : Nat) (W : World) : Kq n₀ Bs W W := ⟨Below.refl _ _, rfl⟩
theorem Kq.trans {n₀ Bs : Nat} {A B C : World} (h : Kq n₀ Bs A B) (k : Kq n₀ Bs B C) : Kq n₀ Bs A C := ⟨h.b.trans k.b, k.k.trans h.k⟩
theorem Kq.cell {n₀ Bs : Nat} {A B : World} (h : Kq n₀ Bs A B) : B.cell? ⟨Bs, 0, none⟩ = A.cell? ⟨Bs, 0, none⟩ := by simp [World.cell?, h.k]
theorem Kq.put {n₀ Bs : Nat} {w : World} (hn : n₀ ≤ w.heap.size) (hB : Bs < w.heap.size) (W : World) (l : Nat) (o o' : Obj) (hl : w.heap.size ≤ l) (h : W.heap[l]? = some o) (h1 : o.isCells = false) (h2 : o.isWalk = false) : Kq n₀ Bs W (W.putObj l o') :=
 ⟨belowK_b hn W l o o' hl h h1 h2, (belowK_b (w := w) (Nat.le_refl _) W l o o' hl h h1 h2).block Bs hB⟩
set_option maxRecDepth 100000 in
theorem back1_in (F : Fence) (n : Nat) (h8 : F.fn 117) (hro : F.round = none) (hn : 1 ≤ n) (l Bs n₀ b off cap : Nat) (zs : List Int) (hne : 0 < zs.length) (hreach : zs.length * 8 ≤ 140737488351232) (hb : b < n₀) (J Jx : List (Int × Int) → World → Prop)
  (hY : ∀ pre x W, J pre W → pre.length < zs.length → YieldAt F (n - 1) Tryz.prog l #[.int .i64 x.1, .int .i64 x.2] W fun e W' =>
   (e = .returned (.bool true) ∧ J (pre ++ [x]) W' ∧ Kq n₀ Bs W W') ∨ (e = .returned (.bool false) ∧ Jx (pre ++ [x]) W'))
  (W : World) (hBs : W.cell? ⟨Bs, 0, none⟩ = some (.slice (some ⟨b, off, none⟩) zs.length cap)) (hc : ∀ j, j < zs.length → W.cell? ⟨b, off + j, none⟩ = some (.int .i64 (zs[j]?.getD 0))) (h0 : J [] W) :
  CallsIn F n Tryz.prog 117 #[.func (.yield l) #[] #[], .pointer (some ⟨Bs, 0, none⟩)] W fun e W' => (∃ v, e = .returned v) ∧
   ((∃ ys, ys = upto (bk zs) zs.length ∧ J ys W') ∨ (∃ pre, (∃ k, k ≤ zs.length ∧ pre = upto (bk zs) k) ∧ Jx pre W')) := by
 refine callsIn_of_wp Tryz.func117 rfl h8 ?_ hro
 simp only [Tryz.ntmps117, List.size_toArray, List.length_cons, List.length_nil, Nat.reduceAdd, Nat.reduceSub, Array.replicate_succ, Array.replicate_zero, List.push_toArray, List.append_toArray, List.nil_append, List.cons_append]
 gi_wp2
 gi_loopw [3] (fun i wr => ∃ k : Nat, k ≤ zs.length ∧ i = .int .i64 ((zs.length : Int) - 1 - k) ∧ J (upto (bk zs) k) wr ∧ Kq n₀ Bs W wr)
  (fun i _ => (intOf i + 1).toNat)
 case atStart => exact ⟨0, Nat.zero_le _, by simp, h0, Kq.refl _ _ _⟩
 case round =>
  obtain ⟨k, hk, rfl, hJs, hnx⟩ := hrel
  have hBs' := hnx.cell.trans hBs
  have hcx : k < zs.length → wr.cell? ⟨b, off + (zs.length - 1 - k), none⟩ = some (.int .i64 (zs[zs.length - 1 - k]?.getD 0)) := fun h => (hnx.b.cell (p := ⟨b, off + (zs.length - 1 - k), none⟩) hb).trans (hc _ (by omega))
  by_cases hlt : k < zs.length
  ·obtain ⟨fn, tmps, assign, body, hy, hR⟩ := hY _ (bk zs k) wr hJs (by rw [upto_length]; exact hlt)
   dsimp only [bk] at hy
   have hcx' := hcx hlt
   gi_wp2
   refine hR.mono ?_
   rintro e W3 (⟨rfl, hJ3, hk3⟩ | ⟨rfl, hJx3⟩)
   ·-- the round goes on
    gi_wp2
    go_roundw
    case rel => exact ⟨k + 1, by omega, by simp; omega, by rw [upto_succ]; exact hJ3, hnx.trans hk3⟩
    case measure => simp [intOf]; omega
   ·gi_wp2
    refine bodyPost_ret (results_none rfl _ _ _) rfl ?_
    exact ⟨⟨_, rfl⟩, .inr ⟨_, ⟨k + 1, by omega, (upto_succ _ _).symm⟩, hJx3⟩⟩
  ·obtain rfl : k = zs.length := by omega
   gi_wp2
   go_end0
   exact ⟨⟨_, rfl⟩, .inl ⟨_, rfl, hJs⟩⟩
set_option maxRecDepth 100000 in
theorem back0_in (F : Fence) (n : Nat) (h8 : F.fn 117) (hro : F.round = none) (l Bs : Nat) (A : Option Addr) (cap : Nat) (J : List (Int × Int) → World → Prop) (W : World) (hBs : W.cell? ⟨Bs, 0, none⟩ = some (.slice A 0 cap)) (h0 : J [] W) :
  CallsIn F n Tryz.prog 117 #[.func (.yield l) #[] #[], .pointer (some ⟨Bs, 0, none⟩)] W fun e W' => (∃ v, e = .returned v) ∧ J [] W' := by
 refine callsIn_of_wp Tryz.func117 rfl h8 ?_ hro
 simp only [Tryz.ntmps117, List.size_toArray, List.length_cons, List.length_nil, Nat.reduceAdd, Nat.reduceSub, Array.replicate_succ, Array.replicate_zero, List.push_toArray, List.append_toArray, List.nil_append, List.cons_append]
 gi_wp2
 gi_loopw [3] (fun i wr => i = .int .i64 (-1) ∧ J [] wr) (fun _ _ => 0)
 case atStart => exact ⟨rfl, h0⟩
 case round =>
  obtain ⟨rfl, hJs⟩ := hrel
  gi_wp2
  go_end0
  exact ⟨⟨_, rfl⟩, hJs⟩
set_option maxHeartbeats 1000000 in
theorem backward_in (F : Fence) (n : Nat) (h5 : F.fn 75) (hro : F.round = none) (a : Option Addr) (len cap : Nat) (w : World) :
  CallsIn F n Tryz.prog 75 #[.slice a len cap] w fun e w' => e = .returned (.func (.func 117) #[] #[.pointer (some ⟨w.heap.size, 0, none⟩)]) ∧ w' = w.alloc (.cells #[.slice a len cap] 39) := by
 refine callsIn_of_wp Tryz.func75 rfl h5 ?_ hro
 simp only [Tryz.ntmps75, List.size_toArray, List.length_cons, List.length_nil, Nat.reduceAdd, Nat.reduceSub, Array.replicate_succ, Array.replicate_zero, List.push_toArray, List.append_toArray, List.nil_append, List.cons_append]
 gi_wp2
 go_ret
 exact ⟨rfl, rfl⟩
def Ints (n₀ : Nat) (W : World) (sv : Value) (zs : List Int) : Prop :=
 (∃ A cap, sv = .slice A 0 cap ∧ zs = []) ∨ (0 < zs.length ∧ ∃ b off cap, sv = .slice (some ⟨b, off, none⟩) zs.length cap ∧ b < n₀ ∧ ∀ j, j < zs.length → W.cell? ⟨b, off + j, none⟩ = some (.int .i64 (zs[j]?.getD 0)))
theorem Ints.below {n₀ : Nat} {A B : World} (h : Below n₀ A B) {sv : Value} {zs : List Int} : Ints n₀ A sv zs → Ints n₀ B sv zs
 | .inl e => .inl e
 | .inr ⟨h0, b, off, cap, e, hb, hc⟩ => .inr ⟨h0, b, off, cap, e, hb, fun j hj => (h.cell (p := ⟨b, off + j, none⟩) hb).trans (hc j hj)⟩
theorem back_stops (F : Fence) (n : Nat) (h8 : F.fn 117) (hro : F.round = none) (hn : 1 ≤ n) (Bs n₀ : Nat) (sv : Value) (zs : List Int) (hreach : zs.length * 8 ≤ 140737488351232) (w : World) (hBs : Bs < w.heap.size) (hn₀ : n₀ ≤ w.heap.size)
  (hc : w.cell? ⟨Bs, 0, none⟩ = some sv) (hI : Ints n₀ w sv zs) :
  SeqStopsK F n Tryz.prog 117 #[.pointer (some ⟨Bs, 0, none⟩)] (fun x : Int × Int => #[Value.int .i64 x.1, Value.int .i64 x.2]) (Kq n₀ Bs) (fun ys => ys = upto (bk zs) zs.length)
   (fun pre => ∃ k, k ≤ zs.length ∧ pre = upto (bk zs) k) zs.length w := fun l J Jx W hW _ _ hY h0 => by
 have hc' := (hW.cell (p := ⟨Bs, 0, none⟩) hBs).trans hc
 rcases hI.below (hW.mono hn₀) with ⟨A, cap, rfl, rfl⟩ | ⟨hp, b, off, cap, rfl, hb, hcs⟩
 ·exact (back0_in F n h8 hro l Bs A cap J W hc' h0).mono fun e W' ⟨he, hj⟩ => ⟨he, .inl ⟨_, rfl, hj⟩⟩
 ·exact back1_in F n h8 hro hn l Bs n₀ b off cap zs hp hreach hb J Jx hY W hc' hcs h0
end Go.Proofs.YtfbcnpbhhooapaaGreatDoor.Bk
namespace Go.Proofs.YtfbcnpbhhooapaaGreatDoor.Bk
open Go Go.RowKit Go.Shelf
attribute [local go_sem] Oper.semAt_some
def run (o : Int → Int) : Int → List Int → Int
 | f, [] => f
 | f, k :: ks => if k < 0 ∨ k ≠ f - 1 then -1 else if o k < 0 then -1 else run o (o k) ks
theorem upto_snd (zs : List Int) : ∀ k, k ≤ zs.length → (upto (bk zs) k).map (·.2) = zs.reverse.take k
 | 0, _ => by simp [upto]
 | k + 1, h => by
  rw [upto_succ, List.map_append, upto_snd zs k (by omega), List.take_add_one, List.getElem?_reverse (by omega)]
  have : zs.length - 1 - k < zs.length := by omega
  simp [bk, this]
theorem keeps_below {W W' : World} (h : Below W.heap.size W W') : KeepsOthers W W' := ⟨h.size, fun j o hj _ => by
 rw [h.block j (Array.getElem?_eq_some_iff.1 hj).1]; exact hj⟩
structure Bx (w : World) (lv r : Value) (nd : Array Value) (W : World) : Prop where
 below : Below w.heap.size w W
 size : w.heap.size + 3 ≤ W.heap.size
 h2 : W.heap[w.heap.size]? = some (.cells #[lv] 35 (0, 0))
 h4 : W.heap[w.heap.size + 1]? = some (.cells #[r] 3 (0, 0))
 h5 : W.heap[w.heap.size + 2]? = some (.cells nd 41 (0, 0))
theorem Bx.on {w : World} {lv r : Value} {nd : Array Value} {W W' : World} (h : Bx w lv r nd W) (hb : Below (w.heap.size + 3) W W') : Bx w lv r nd W' :=
 ⟨h.below.trans (hb.mono (by omega)), Nat.le_trans h.size hb.size, (hb.block _ (by omega)).trans h.h2, (hb.block _ (by omega)).trans h.h4, (hb.block _ (by omega)).trans h.h5⟩
theorem Bx.c2 {w : World} {lv r : Value} {nd : Array Value} {W : World} (h : Bx w lv r nd W) : W.cell? ⟨w.heap.size, 0, none⟩ = some lv := by simp [World.cell?, h.h2]
theorem Bx.c4 {w : World} {lv r : Value} {nd : Array Value} {W : World} (h : Bx w lv r nd W) : W.cell? ⟨w.heap.size + 1, 0, none⟩ = some r := by simp [World.cell?, h.h4]
theorem Bx.f4 {w : World} {lv r : Value} {nd : Array Value} {W : World} (h : Bx w lv r nd W) : W.frozen? ⟨w.heap.size + 1, 0, none⟩ = false := by simp [World.frozen?, h.h4]
theorem Bx.c5 {w : World} {lv r : Value} {nd : Array Value} {W : World} (h : Bx w lv r nd W) (j : Nat) : W.cell? ⟨w.heap.size + 2, j, none⟩ = nd[j]? := by simp [World.cell?, h.h5]
theorem Bx.new (w : World) (lv r : Value) (nd : Array Value) : Bx w lv r nd (((w.alloc (.cells #[lv] 35)).alloc (.cells #[r] 3)).alloc (.cells nd 41)) := by
 refine ⟨(((Below.refl _ w).alloc (Nat.le_refl _) _).alloc (by simp) _).alloc (by simp; omega) _, by simp, ?_, ?_, ?_⟩
 ·exact (Below.heap_alloc _ _ _ (by simp; omega)).trans ((Below.heap_alloc _ _ _ (by simp)).trans (World.alloc_heap_new w _))
 ·refine (Below.heap_alloc _ _ _ (by simp)).trans ?_
  have := World.alloc_heap_new (w.alloc (.cells #[lv] 35)) (.cells #[r] 3)
  rwa [World.size_alloc] at this
 ·have := World.alloc_heap_new ((w.alloc (.cells #[lv] 35)).alloc (.cells #[r] 3)) (.cells nd 41)
  rwa [World.size_alloc, World.size_alloc] at this
structure Ls (w : World) (bf : Nat) (lv sv : Value) (r f : Int) (W : World) : Prop where
 below : Below w.heap.size w W
 lt : w.heap.size + 2 < bf
 l : Boxed W w.heap.size 35 lv
 r : Boxed W (w.heap.size + 1) 3 (.int .i64 r)
 f : Boxed W bf 3 (.int .i64 f)
 s : Boxed W (bf + 1) 39 sv
theorem Ls.own {w : World} {bf : Nat} {lv sv : Value} {r f : Int} {W W' : World} {B : Nat} {row : Option Nat} (h : Ls w bf lv sv r f W) (hB : w.heap.size ≤ B) (hg : W.grownBy W' row) (hr : ∀ r, row = some r → B ≤ r ∧ ∃ o : Obj, W.heap[r]? = some o ∧ o.isCells = false) : Ls w bf lv sv r f W' := by
 have hb : ∀ (B : Nat) (t : TypeId) (v : Value), Boxed W B t v → Boxed W' B t v := fun B t v h => h.kept hg (fun e => by
  obtain ⟨_, o, ho, hc⟩ := hr B e.symm
  rw [show W.heap[B]? = _ from h] at ho; cases ho; cases hc)
 exact ⟨h.below.grown hg h.below.size (fun k e => Nat.le_trans hB (hr k e).1), h.lt, hb _ _ _ h.l, hb _ _ _ h.r, hb _ _ _ h.f, hb _ _ _ h.s⟩
theorem Ls.setR {w : World} {bf : Nat} {lv sv : Value} {r f : Int} {W : World} (h : Ls w bf lv sv r f W) (r' : Int) : Ls w bf lv sv r' f (W.setCell ⟨w.heap.size + 1, 0, none⟩ (.int .i64 r')) :=
 have hl := h.lt
 ⟨h.below.setCell (p := ⟨w.heap.size + 1, 0, none⟩) (by simp) _, h.lt, h.l.other (by omega) _, h.r.set _, h.f.other (by omega) _, h.s.other (by omega) _⟩
theorem Ls.setF {w : World} {bf : Nat} {lv sv : Value} {r f : Int} {W : World} (h : Ls w bf lv sv r f W) (f' : Int) : Ls w bf lv sv r f' (W.setCell ⟨bf, 0, none⟩ (.int .i64 f')) :=
 have hl := h.lt
 ⟨h.below.setCell (p := ⟨bf, 0, none⟩) (by simp; omega) _, h.lt, h.l.other (by omega) _, h.r.other (by omega) _, h.f.set _, h.s.other (by omega) _⟩
theorem Ls.on {w : World} {bf : Nat} {lv sv : Value} {r f : Int} {W W' : World} (h : Ls w bf lv sv r f W) (hb : Below W.heap.size W W') : Ls w bf lv sv r f W' :=
 have k : ∀ (B : Nat) (t : TypeId) (v : Value), Boxed W B t v → Boxed W' B t v := fun B t v h => (hb.block B h.lt).trans h
 ⟨h.below.trans (hb.mono h.below.size), h.lt, k _ _ _ h.l, k _ _ _ h.r, k _ _ _ h.f, k _ _ _ h.s⟩
theorem Ls.kq {w : World} {bf : Nat} {lv sv : Value} {r f r' f' : Int} {W W' : World} (h : Ls w bf lv sv r f W) (h' : Ls w bf lv sv r' f' W') (hb : Below w.heap.size W W') : Kq w.heap.size (bf + 1) W W' := ⟨hb, (show W'.heap[bf + 1]? = _ from h'.s).trans (show W.heap[bf + 1]? = _ from h.s).symm⟩
def LI (w : World) (bf : Nat) (lv sv : Value) (o : Int → Int) (e : Nat) (pre : List (Int × Int)) (W : World) : Prop := ∃ f : Int, Ls w bf lv sv 0 f W ∧ 0 ≤ f ∧ f ≤ e ∧ ∀ rest, run o e (pre.map (·.2) ++ rest) = run o f rest
def LX (w : World) (bf : Nat) (lv sv : Value) (o : Int → Int) (e : Nat) (c : Code) (pre : List (Int × Int)) (W : World) : Prop := ∃ f : Int, Ls w bf lv sv (-1) f W ∧ c = .ret ∧ ∀ rest, run o e (pre.map (·.2) ++ rest) = -1
theorem LI.own {w : World} {bf : Nat} {lv sv : Value} {o : Int → Int} {e B : Nat} (hB : w.heap.size ≤ B) : OwnFrom B (LI w bf lv sv o e) := fun s W W' row ⟨f, h1, h2⟩ hg hr => ⟨f, h1.own hB hg hr, h2⟩
theorem LX.own {w : World} {bf : Nat} {lv sv : Value} {o : Int → Int} {e B : Nat} (hB : w.heap.size ≤ B) (c : Code) : OwnFrom B (LX w bf lv sv o e c) := fun s W W' row ⟨f, h1, h2⟩ hg hr => ⟨f, h1.own hB hg hr, h2⟩
set_option maxRecDepth 100000 in
theorem begin_in (w : World) (bl ol ln cp e : Nat) (kind num : Int) (text : ByteArray) (A3 A4 : Option Addr) (l3 c3 l4 c4 : Nat) (ks : List Int) (kk : Int) (pp : Bool) (o : Int → Int) (res : Int)
  (hbl : bl < w.heap.size) (he : e < ln) (hln : ln ≤ 1000000000) (hlc : ln ≤ cp)
  (q0 : w.cell? ⟨bl, ol + e * 5, none⟩ = some (.int .i64 kind)) (q1 : w.cell? ⟨bl, ol + e * 5 + 1, none⟩ = some (.int .i64 num)) (q2 : w.cell? ⟨bl, ol + e * 5 + 2, none⟩ = some (.string text)) (q3 : w.cell? ⟨bl, ol + e * 5 + 3, none⟩ = some (.slice A3 l3 c3)) (q4 : w.cell? ⟨bl, ol + e * 5 + 4, none⟩ = some (.slice A4 l4 c4))
  (hl4 : l4 = ks.length) (hks : Ints w.heap.size w (.slice A4 l4 c4) ks) (hreach : ks.length ≤ 1000000000)
  (hK : ∀ W, Below w.heap.size w W → Calls Tryz.prog 73 #[.int .i64 kind] W fun x W' => x = .returned (.int .i64 kk) ∧ Below W.heap.size W W')
  (hP : (kk = ks.length ∨ kk = -1) → ∀ W, Below w.heap.size w W → Calls Tryz.prog 74 #[.agg #[.int .i64 kind, .int .i64 num, .string text, .slice A3 l3 c3, .slice A4 l4 c4]] W fun x W' => x = .returned (.bool pp) ∧ Below W.heap.size W W')
  (hB : (kk = ks.length ∨ kk = -1) → pp = true → ∀ k : Int, 0 ≤ k → k < e → o k ≤ k ∧ ∀ W, Below w.heap.size w W → Calls Tryz.prog 47 #[.slice (some ⟨bl, ol, none⟩) ln cp, .int .i64 k] W fun x W' => x = .returned (.int .i64 (o k)) ∧ Below W.heap.size W W')
  (hr : res = if (kk ≠ ks.length ∧ kk ≠ -1) ∨ pp = false then -1 else run o e ks.reverse) :
  Calls Tryz.prog 47 #[.slice (some ⟨bl, ol, none⟩) ln cp, .int .i64 (e : Int)] w fun x w' =>
   x = .returned (.int .i64 res) ∧ Below w.heap.size w w' := by
 subst hl4
 refine (callsIn_wide (n := 9)).1 ?_
 refine callsIn_of_wp_marks Tryz.func47 rfl trivial ?_ rfl
 simp only [Tryz.ntmps47, List.size_toArray, List.length_cons, List.length_nil, Nat.reduceAdd, Nat.reduceSub, Array.replicate_succ, Array.replicate_zero, List.push_toArray, List.append_toArray, List.nil_append, List.cons_append]
 gi_wp2
 refine ⟨trivial, ?_⟩
 have hx0 := Bx.new w (.slice (some ⟨bl, ol, none⟩) ln cp) (.int .i64 0) #[.int .i64 kind, .int .i64 num, .string text, .slice A3 l3 c3, .slice A4 ks.length c4]
 refine (callsIn_wide.2 (hK _ hx0.below)).mono ?_
 rintro x w1 ⟨rfl, hb1⟩
 have hx1 := hx0.on (hb1.mono (by simp))
 have a2 := hx1.c2
 have a4 := hx1.c4
 have f4 := hx1.f4
 have a50 := hx1.c5 0
 have a51 := hx1.c5 1
 have a52 := hx1.c5 2
 have a53 := hx1.c5 3
 have a54 := hx1.c5 4
 simp only [List.getElem?_toArray, List.getElem?_cons_zero, List.getElem?_cons_succ] at a50 a51 a52 a53 a54
 gi_wp2
 ·refine ⟨trivial, ?_⟩
  refine ((callsIn_wide (n := 8)).2 (hP (.inl (by assumption)) w1 hx1.below)).mono ?_
  rintro x w2 ⟨rfl, hb2⟩
  have hx2 := hx1.on (hb2.mono hx1.size)
  have d2 := hx2.c2
  have d4 := hx2.c4
  have g4 := hx2.f4
  have d54 := hx2.c5 4
  simp only [List.getElem?_toArray, List.getElem?_cons_zero, List.getElem?_cons_succ] at d54
  cases pp with
  | false =>
   gi_wp2
   have hb4 : Boxed w2 (w.heap.size + 1) 3 (.int .i64 0) := hx2.h4
   have hc5 := (hb4.set (.int .i64 (-1))).cell
   refine ⟨.int .i64 (-1), ?_, by rw [hr]; simp, hx2.below.setCell (p := ⟨w.heap.size + 1, 0, none⟩) (by simp) _⟩
   simp [results, Tryz.f47, go_sem, hc5]
  | true =>
   have hx3 := hx2.on (((Below.refl _ w2).alloc hx2.size (.cells #[.int .i64 (e : Int)] 3)))
   have hz : w.heap.size + 1 + 1 < w2.heap.size := by have := hx2.size; omega
   have e54 := hx3.c5 4
   simp only [List.getElem?_toArray, List.getElem?_cons_zero, List.getElem?_cons_succ] at e54
   gi_wp2
   refine ⟨trivial, ?_⟩
   refine (backward_in Fence.wide 8 trivial rfl A4 ks.length c4 _).mono ?_
   rintro x w4 ⟨rfl, rfl⟩
   gi_wp2
   have hW2 := hx2.below.size
   have hz2 := hx2.size
   obtain ⟨W0, hW0⟩ : ∃ W0, (w2.alloc (.cells #[.int .i64 (e : Int)] 3)).alloc (.cells #[.slice A4 ks.length c4] 39) = W0 := ⟨_, rfl⟩
   have hs0 : W0.heap.size = w2.heap.size + 2 := by rw [← hW0]; simp
   have hK0 : Boxed W0 (w2.heap.size + 1) 39 (.slice A4 ks.length c4) := by
    rw [← hW0]
    have := Boxed.new (w2.alloc (.cells #[.int .i64 (e : Int)] 3)) 39 (.slice A4 ks.length c4)
    rwa [World.size_alloc] at this
   have hF0 : Boxed W0 w2.heap.size 3 (.int .i64 (e : Int)) := by
    rw [← hW0]
    exact (Boxed.new w2 3 (.int .i64 (e : Int))).alloc _
   have hb0 : Below w2.heap.size w2 W0 := by
    rw [← hW0]
    exact ((Below.refl _ w2).alloc (Nat.le_refl _) _).alloc (by simp) _
   have hx4 := hx2.on (hb0.mono hz2)
   have hL0 : Ls w w2.heap.size (.slice (some ⟨bl, ol, none⟩) ln cp) (.slice A4 ks.length c4) 0 e W0 := ⟨hx4.below, by omega, hx4.h2, hx4.h4, hF0, hK0⟩
   rw [hW0]
   refine wpIn_rangeFunc_ownG (w0 := W0) rfl (by decide) (gf := 117) (lb := #[.pointer (some ⟨w2.heap.size + 1, 0, none⟩)]) rfl trivial (enters_of Tryz.func117 (by kernel_rfl) rfl)
    (back_stops Fence.wide 8 trivial rfl (by decide) (w2.heap.size + 1) w.heap.size _ ks (by omega) W0 (by omega) (by omega) hK0.cell (hks.below hx4.below)) (fun h k => Kq.trans h k) (fun W l o o' => Kq.put (by omega) (by omega) W l o o') (Below.refl _ _) (fun _ => rfl)
    (LI w w2.heap.size (.slice (some ⟨bl, ol, none⟩) ln cp) (.slice A4 ks.length c4) o e)
    (LX w w2.heap.size (.slice (some ⟨bl, ol, none⟩) ln cp) (.slice A4 ks.length c4) o e)
    (LI.own (by omega)) (LX.own (by omega)) ⟨e, hL0, by omega, by omega, fun rest => rfl⟩ ?a1 ?assign ?body ?done ?stop
   case assign =>
    intro l x W K hK
    gi_wp2
    exact hK
   case body =>
    rintro l pre ⟨x1, x2⟩ W ⟨f, hL, hf0, hfe, hrun⟩ _
    have b2 := hL.l.cell
    have b4 := hL.r.cell
    have b4f := hL.r.frozen
    have b7 := hL.f.cell
    have b7f := hL.f.frozen
    have stop : (x2 < 0 ∨ x2 ≠ f - 1) → ∀ rest, run o e ((pre ++ [(x1, x2)]).map (·.2) ++ rest) = -1 := fun h rest => by
     rw [List.map_append, List.append_assoc, hrun]
     simp only [List.map_cons, List.map_nil, List.cons_append, List.nil_append, run]
     rw [if_pos h]
    gi_wp2
    ·have hq : x2 < 0 ∨ (x2 != f - 1) = true := by assumption
     exact ⟨(KeepsOthers.setCell _ _ _).from _, f, hL.setR _, rfl, stop (by simpa using hq)⟩
    ·have hq : 0 ≤ x2 ∧ (x2 != f - 1) = false := by assumption
     have hx : x2 = f - 1 := by simpa using hq.2
     have h0 : 0 ≤ x2 := hq.1
     clear hq
     subst hx
     obtain ⟨ho, hc⟩ := hB (.inl (by assumption)) (by trivial) (f - 1) h0 (by omega)
     refine ⟨trivial, ?_⟩
     refine (CallsIn.inRound l ((callsIn_wide (n := 6)).2 (hc W hL.below))).mono ?_
     rintro y W5 ⟨rfl, hb5⟩
     have hL5 := hL.on hb5
     have hL6 := hL5.setF (o (f - 1))
     have c7 := hL5.f.cell
     have c7f := hL5.f.frozen
     have c8 := hL6.f.cell
     have c4 := hL6.r.cell
     have c45 := hL5.r.cell
     have c4g := hL5.r.frozen
     have c4f := hL6.r.frozen
     have go : ∀ rest, run o e ((pre ++ [(x1, f - 1)]).map (·.2) ++ rest) = if o (f - 1) < 0 then -1 else run o (o (f - 1)) rest := fun rest => by
      rw [List.map_append, List.append_assoc, hrun]
      simp only [List.map_cons, List.map_nil, List.cons_append, List.nil_append, run]
      rw [if_neg (by omega)]
     have keep : KeepsOthers W (W5.setCell ⟨w2.heap.size, 0, none⟩ (.int .i64 (o (f - 1)))) := (keeps_below hb5).trans (KeepsOthers.setCell _ _ _)
     have bel : Below w.heap.size W (W5.setCell ⟨w2.heap.size, 0, none⟩ (.int .i64 (o (f - 1)))) := (hb5.mono hL.below.size).setCell (p := ⟨w2.heap.size, 0, none⟩) (by simp; omega) _
     gi_wp2
     ·have hn : o (f - 1) < 0 := by assumption
      exact ⟨(keep.trans (KeepsOthers.setCell _ _ _)).from _, _, hL6.setR _, rfl, fun rest => by rw [go, if_pos hn]⟩
     ·have hn : 0 ≤ o (f - 1) := by assumption
      exact ⟨keep.from _, hL.kq hL6 bel, _, hL6, hn, by omega, fun rest => by rw [go, if_neg (by omega)]⟩
    ·exact ⟨(KeepsOthers.setCell _ _ _).from _, f, hL.setR _, rfl, stop (.inl (by assumption))⟩
   case done =>
    rintro D ys W hD rfl ⟨f, hL, hf0, hfe, hrun⟩ hK
    have b4 := hL.r.cell
    have b4f := hL.r.frozen
    have b7 := hL.f.cell
    have hL6 := hL.setR f
    have hres : run o e ks.reverse = f := by
     have := hrun []
     rw [upto_snd ks ks.length (Nat.le_refl _), List.append_nil, List.take_of_length_le (by simp)] at this
     exact this
    gi_wp2
    have hK' := (KeepsOthers.setCell W ⟨w.heap.size + 1, 0, none⟩ (.int .i64 f)).same D _ hK rfl
    refine ⟨by simp, .inl ⟨_, _, rfl, run_takeDeferred hK', ?_⟩⟩
    have hc5 := cell_kept hL6.r.cell (grownBy_putObj' _ D (.deferred none)) (fun r e => by cases e; exact ⟨_, hK', rfl⟩)
    have e0 : res = f := by
     rw [hr, if_neg, hres]
     rintro (h | h)
     ·rcases (show kk = ks.length ∨ kk = -1 from (.inl (by assumption))) with e | e
      ·exact h.1 e
      ·exact h.2 e
     ·cases h
    refine ⟨.int .i64 f, ?_, by rw [e0], hL6.below.trans (belowK_b (w := w) (Nat.le_refl _) _ D _ _ (by omega) hK' rfl rfl)⟩
    simp [results, Tryz.f47, go_sem, hc5]
   case stop =>
    rintro D c pre W hD ⟨k, hk, rfl⟩ ⟨f, hL, rfl, hrun⟩ hK
    have hres : run o e ks.reverse = -1 := by
     have := hrun (ks.reverse.drop k)
     rw [upto_snd ks k hk, List.take_append_drop] at this
     exact this
    gi_wp2
    refine ⟨by simp, .inl ⟨_, _, rfl, run_takeDeferred hK, ?_⟩⟩
    have hc5 := cell_kept hL.r.cell (grownBy_putObj' _ D (.deferred none)) (fun r e => by cases e; exact ⟨_, hK, rfl⟩)
    have e0 : res = -1 := by
     rw [hr, hres]
     split <;> rfl
    refine ⟨.int .i64 (-1), ?_, by rw [e0], hL.below.trans (belowK_b (w := w) (Nat.le_refl _) _ D _ _ (by omega) hK rfl rfl)⟩
    simp [results, Tryz.f47, go_sem, hc5]
 ·refine ⟨trivial, ?_⟩
  refine ((callsIn_wide (n := 8)).2 (hP (.inr (by assumption)) w1 hx1.below)).mono ?_
  rintro x w2 ⟨rfl, hb2⟩
  have hx2 := hx1.on (hb2.mono hx1.size)
  have d2 := hx2.c2
  have d4 := hx2.c4
  have g4 := hx2.f4
  have d54 := hx2.c5 4
  simp only [List.getElem?_toArray, List.getElem?_cons_zero, List.getElem?_cons_succ] at d54
  cases pp with
  | false =>
   gi_wp2
   have hb4 : Boxed w2 (w.heap.size + 1) 3 (.int .i64 0) := hx2.h4
   have hc5 := (hb4.set (.int .i64 (-1))).cell
   refine ⟨.int .i64 (-1), ?_, by rw [hr]; simp, hx2.below.setCell (p := ⟨w.heap.size + 1, 0, none⟩) (by simp) _⟩
   simp [results, Tryz.f47, go_sem, hc5]
  | true =>
   have hx3 := hx2.on (((Below.refl _ w2).alloc hx2.size (.cells #[.int .i64 (e : Int)] 3)))
   have hz : w.heap.size + 1 + 1 < w2.heap.size := by have := hx2.size; omega
   have e54 := hx3.c5 4
   simp only [List.getElem?_toArray, List.getElem?_cons_zero, List.getElem?_cons_succ] at e54
   gi_wp2
   refine ⟨trivial, ?_⟩
   refine (backward_in Fence.wide 8 trivial rfl A4 ks.length c4 _).mono ?_
   rintro x w4 ⟨rfl, rfl⟩
   gi_wp2
   have hW2 := hx2.below.size
   have hz2 := hx2.size
   obtain ⟨W0, hW0⟩ : ∃ W0, (w2.alloc (.cells #[.int .i64 (e : Int)] 3)).alloc (.cells #[.slice A4 ks.length c4] 39) = W0 := ⟨_, rfl⟩
   have hs0 : W0.heap.size = w2.heap.size + 2 := by rw [← hW0]; simp
   have hK0 : Boxed W0 (w2.heap.size + 1) 39 (.slice A4 ks.length c4) := by
    rw [← hW0]
    have := Boxed.new (w2.alloc (.cells #[.int .i64 (e : Int)] 3)) 39 (.slice A4 ks.length c4)
    rwa [World.size_alloc] at this
   have hF0 : Boxed W0 w2.heap.size 3 (.int .i64 (e : Int)) := by
    rw [← hW0]
    exact (Boxed.new w2 3 (.int .i64 (e : Int))).alloc _
   have hb0 : Below w2.heap.size w2 W0 := by
    rw [← hW0]
    exact ((Below.refl _ w2).alloc (Nat.le_refl _) _).alloc (by simp) _
   have hx4 := hx2.on (hb0.mono hz2)
   have hL0 : Ls w w2.heap.size (.slice (some ⟨bl, ol, none⟩) ln cp) (.slice A4 ks.length c4) 0 e W0 := ⟨hx4.below, by omega, hx4.h2, hx4.h4, hF0, hK0⟩
   rw [hW0]
   refine wpIn_rangeFunc_ownG (w0 := W0) rfl (by decide) (gf := 117) (lb := #[.pointer (some ⟨w2.heap.size + 1, 0, none⟩)]) rfl trivial (enters_of Tryz.func117 (by kernel_rfl) rfl)
    (back_stops Fence.wide 8 trivial rfl (by decide) (w2.heap.size + 1) w.heap.size _ ks (by omega) W0 (by omega) (by omega) hK0.cell (hks.below hx4.below)) (fun h k => Kq.trans h k) (fun W l o o' => Kq.put (by omega) (by omega) W l o o') (Below.refl _ _) (fun _ => rfl)
    (LI w w2.heap.size (.slice (some ⟨bl, ol, none⟩) ln cp) (.slice A4 ks.length c4) o e)
    (LX w w2.heap.size (.slice (some ⟨bl, ol, none⟩) ln cp) (.slice A4 ks.length c4) o e)
    (LI.own (by omega)) (LX.own (by omega)) ⟨e, hL0, by omega, by omega, fun rest => rfl⟩ ?a2 ?assign ?body ?done ?stop
   case assign =>
    intro l x W K hK
    gi_wp2
    exact hK
   case body =>
    rintro l pre ⟨x1, x2⟩ W ⟨f, hL, hf0, hfe, hrun⟩ _
    have b2 := hL.l.cell
    have b4 := hL.r.cell
    have b4f := hL.r.frozen
    have b7 := hL.f.cell
    have b7f := hL.f.frozen
    have stop : (x2 < 0 ∨ x2 ≠ f - 1) → ∀ rest, run o e ((pre ++ [(x1, x2)]).map (·.2) ++ rest) = -1 := fun h rest => by
     rw [List.map_append, List.append_assoc, hrun]
     simp only [List.map_cons, List.map_nil, List.cons_append, List.nil_append, run]
     rw [if_pos h]
    gi_wp2
    ·have hq : x2 < 0 ∨ (x2 != f - 1) = true := by assumption
     exact ⟨(KeepsOthers.setCell _ _ _).from _, f, hL.setR _, rfl, stop (by simpa using hq)⟩
    ·have hq : 0 ≤ x2 ∧ (x2 != f - 1) = false := by assumption
     have hx : x2 = f - 1 := by simpa using hq.2
     have h0 : 0 ≤ x2 := hq.1
     clear hq
     subst hx
     obtain ⟨ho, hc⟩ := hB (.inr (by assumption)) (by trivial) (f - 1) h0 (by omega)
     refine ⟨trivial, ?_⟩
     refine (CallsIn.inRound l ((callsIn_wide (n := 6)).2 (hc W hL.below))).mono ?_
     rintro y W5 ⟨rfl, hb5⟩
     have hL5 := hL.on hb5
     have hL6 := hL5.setF (o (f - 1))
     have c7 := hL5.f.cell
     have c7f := hL5.f.frozen
     have c8 := hL6.f.cell
     have c4 := hL6.r.cell
     have c45 := hL5.r.cell
     have c4g := hL5.r.frozen
     have c4f := hL6.r.frozen
     have go : ∀ rest, run o e ((pre ++ [(x1, f - 1)]).map (·.2) ++ rest) = if o (f - 1) < 0 then -1 else run o (o (f - 1)) rest := fun rest => by
      rw [List.map_append, List.append_assoc, hrun]
      simp only [List.map_cons, List.map_nil, List.cons_append, List.nil_append, run]
      rw [if_neg (by omega)]
     have keep : KeepsOthers W (W5.setCell ⟨w2.heap.size, 0, none⟩ (.int .i64 (o (f - 1)))) := (keeps_below hb5).trans (KeepsOthers.setCell _ _ _)
     have bel : Below w.heap.size W (W5.setCell ⟨w2.heap.size, 0, none⟩ (.int .i64 (o (f - 1)))) := (hb5.mono hL.below.size).setCell (p := ⟨w2.heap.size, 0, none⟩) (by simp; omega) _
     gi_wp2
     ·have hn : o (f - 1) < 0 := by assumption
      exact ⟨(keep.trans (KeepsOthers.setCell _ _ _)).from _, _, hL6.setR _, rfl, fun rest => by rw [go, if_pos hn]⟩
     ·have hn : 0 ≤ o (f - 1) := by assumption
      exact ⟨keep.from _, hL.kq hL6 bel, _, hL6, hn, by omega, fun rest => by rw [go, if_neg (by omega)]⟩
    ·exact ⟨(KeepsOthers.setCell _ _ _).from _, f, hL.setR _, rfl, stop (.inl (by assumption))⟩
   case done =>
    rintro D ys W hD rfl ⟨f, hL, hf0, hfe, hrun⟩ hK
    have b4 := hL.r.cell
    have b4f := hL.r.frozen
    have b7 := hL.f.cell
    have hL6 := hL.setR f
    have hres : run o e ks.reverse = f := by
     have := hrun []
     rw [upto_snd ks ks.length (Nat.le_refl _), List.append_nil, List.take_of_length_le (by simp)] at this
     exact this
    gi_wp2
    have hK' := (KeepsOthers.setCell W ⟨w.heap.size + 1, 0, none⟩ (.int .i64 f)).same D _ hK rfl
    refine ⟨by simp, .inl ⟨_, _, rfl, run_takeDeferred hK', ?_⟩⟩
    have hc5 := cell_kept hL6.r.cell (grownBy_putObj' _ D (.deferred none)) (fun r e => by cases e; exact ⟨_, hK', rfl⟩)
    have e0 : res = f := by
     rw [hr, if_neg, hres]
     rintro (h | h)
     ·rcases (show kk = ks.length ∨ kk = -1 from (.inr (by assumption))) with e | e
      ·exact h.1 e
      ·exact h.2 e
     ·cases h
    refine ⟨.int .i64 f, ?_, by rw [e0], hL6.below.trans (belowK_b (w := w) (Nat.le_refl _) _ D _ _ (by omega) hK' rfl rfl)⟩
    simp [results, Tryz.f47, go_sem, hc5]
   case stop =>
    rintro D c pre W hD ⟨k, hk, rfl⟩ ⟨f, hL, rfl, hrun⟩ hK
    have hres : run o e ks.reverse = -1 := by
     have := hrun (ks.reverse.drop k)
     rw [upto_snd ks k hk, List.take_append_drop] at this
     exact this
    gi_wp2
    refine ⟨by simp, .inl ⟨_, _, rfl, run_takeDeferred hK, ?_⟩⟩
    have hc5 := cell_kept hL.r.cell (grownBy_putObj' _ D (.deferred none)) (fun r e => by cases e; exact ⟨_, hK, rfl⟩)
    have e0 : res = -1 := by
     rw [hr, hres]
     split <;> rfl
    refine ⟨.int .i64 (-1), ?_, by rw [e0], hL.below.trans (belowK_b (w := w) (Nat.le_refl _) _ D _ _ (by omega) hK rfl rfl)⟩
    simp [results, Tryz.f47, go_sem, hc5]
 ·refine ⟨trivial, ?_⟩
  gi_wp2
  have hb4 : Boxed w1 (w.heap.size + 1) 3 (.int .i64 0) := hx1.h4
  have hc5 := (hb4.set (.int .i64 (-1))).cell
  refine ⟨.int .i64 (-1), ?_, ?_, hx1.below.setCell (p := ⟨w.heap.size + 1, 0, none⟩) (by simp) _⟩
  ·simp [results, Tryz.f47, go_sem, hc5]
  ·rw [hr, if_pos]
   exact .inl ⟨by assumption, by assumption⟩
end Go.Proofs.YtfbcnpbhhooapaaGreatDoor.Bk
namespace Go.Proofs.YtfbcnpbhhooapaaGreatDoor.M
set_option linter.unusedSimpArgs false
set_option linter.unusedVariables false
set_option linter.unusedSectionVars false
open Go Go.RowKit Classical
section
variable [Base] {g g' : Gh} {S S' : Sto} {w w' : World} {P : Program}
def dataG (g : Gh) : Gh := ⟨fun _ _ => none, fun _ _ => none, g.fz⟩
theorem dataG_own (g : Gh) (x : Ow) : (dataG g).own x = none := by cases x <;> rfl
theorem dataG_wr {W : World} (hw : WR g S w) (hb : Below w.heap.size w W) : WR (dataG g) [] W where
 ok := ⟨Nat.le_trans hw.ok.size hb.size, fun k hk => (hb.block k (Nat.lt_of_lt_of_le hk hw.ok.size)).trans (hw.ok.keep k hk), fun x k h => by rw [dataG_own] at h; cases h⟩
 fz := fun b o v h => by
  have h1 := hw.fz b o v h
  have hlt := cell_lt h1
  unfold World.cell? at h1 ⊢
  rw [hb.block b hlt]
  exact h1
 box := fun n t b h => by cases h
 arr := fun n k ai h => by cases h
 inj := fun x y b h => by rw [dataG_own] at h; cases h
theorem ask_ok {cl : Oracle} (hcl : OracleOk P cl) {f : Nat} {args : List PV} {v : PV} (ho : pureO cl f args = some v) {W : World} (hw : WR g S w) (hb : Below w.heap.size w W) {cs : Array Value} (ha : ArgsR (dataG g) args cs) (he : (callFunc f cs).run P W = .ok (.enter f cs) W) :
  Calls P f cs W fun e W' => ∃ c g', e = .returned c ∧ VR g' v c ∧ Below W.heap.size W W' := by
 have h1 := pureO_inv ho
 have h2 := hcl f args [] (by rw [h1]; intro e; cases e) (dataG g) W cs (dataG_wr hw hb) ha
 rw [h1] at h2
 rcases h2 with ⟨_, h2⟩ | ⟨c, W', h2, _⟩
 ·refine h2.mono fun e W' h => ?_
  cases e with
  | returned c =>
   obtain ⟨g', _, _, ht, hv, _⟩ := h
   exact ⟨c, g', rfl, hv, ht.os, ht.tape, ht.output, ht.size, fun k hk => ht.keep k hk fun x => by rw [dataG_own]; exact fun e => by cases e⟩
  | panicked ch => exact h.elim
  | outgrown => exact h.elim
 ·rw [he] at h2
  cases h2
theorem vr_int {g : Gh} {k : IntKind} {n : Int} {c : Value} (h : VR g (.int k n) c) : c = .int k n := by
 cases h with
 | data _ _ h => cases h; rfl
theorem vr_bool {g : Gh} {b : Bool} {c : Value} (h : VR g (.bool b) c) : c = .bool b := by
 cases h with
 | data _ _ h => cases h; rfl
def kidsOf : List (List PV) → Option (List Int)
 | [] => some []
 | [.int .i64 k] :: l => (kidsOf l).map (k :: ·)
 | _ => none
def askAll (lv : PV) (k : List Int → Qn) : Nat → List Int → Qn
 | 0, acc => k acc
 | n + 1, acc => .ask 47 [lv, .int .i64 (acc.length : Nat)] fun r => match r with
  | .int .i64 v => if v ≤ (acc.length : Nat) then askAll lv k n (acc ++ [v]) else .no
  | _ => .no
def beginK (lv : PV) (kind num : Int) (text : List UInt8) (l3 l4 : PV) (ks : List Int) (e : Int) : Qn :=
 .ask 73 [.int .i64 kind] fun kk => match kk with
  | .int .i64 kk => if kk ≠ (ks.length : Nat) ∧ kk ≠ -1 then .ret (.int .i64 (-1)) else
   .ask 74 [.agg [.int .i64 kind, .int .i64 num, .str text, l3, l4]] fun pp => match pp with
    | .bool pp => if pp = false then .ret (.int .i64 (-1)) else askAll lv (fun rs => .ret (.int .i64 (Bk.run (fun k => (rs[k.toNat]?).getD 0) e ks.reverse))) e.toNat []
    | _ => .no
  | _ => .no
def beginQ : List PV → Qn
 | [.list 5 rows full, .int .i64 e] =>
  if 0 ≤ e ∧ e.toNat < rows.length ∧ rows.length ≤ 1000000000 then
   match rows[e.toNat]? with
   | some [.int .i64 kind, .int .i64 num, .str text, .list z3 r3 f3, .list 1 r4 f4] =>
    match kidsOf r4 with
    | some ks => if ks.length ≤ 1000000000 then beginK (.list 5 rows full) kind num text (.list z3 r3 f3) (.list 1 r4 f4) ks e else .no
    | none => .no
   | _ => .no
  else .no
 | _ => .no
theorem kidsOf_get : ∀ {r : List (List PV)} {ks : List Int}, kidsOf r = some ks → r = ks.map fun k => [PV.int .i64 k]
 | [], ks, h => by cases h; rfl
 | a :: l, ks, h => by
  unfold kidsOf at h
  split at h
  ·rename_i e
   cases e
  ·rename_i k l' e
   obtain ⟨q, hq, rfl⟩ := Option.map_eq_some_iff.1 h
   obtain ⟨rfl, rfl⟩ := List.cons.inj e
   rw [List.map_cons, ← kidsOf_get hq]
  ·cases h
theorem argsR1 {v : PV} {c : Value} (h : VR g v c) : ArgsR g [v] #[c] := ⟨rfl, fun i u hu => by
 match i, hu with
 | 0, hu => cases hu; exact h⟩
theorem argsR2 {v u : PV} {c d : Value} (h : VR g v c) (h' : VR g u d) : ArgsR g [v, u] #[c, d] := ⟨rfl, fun i x hx => by
 match i, hx with
 | 0, hx => cases hx; exact h
 | 1, hx => cases hx; exact h'⟩
theorem vr_agg5 {a0 a1 a2 a3 a4 : PV} {u0 u1 u2 u3 u4 : Value} (h0 : VR g a0 u0) (h1 : VR g a1 u1) (h2 : VR g a2 u2) (h3 : VR g a3 u3) (h4 : VR g a4 u4) : VR g (.agg [a0, a1, a2, a3, a4]) (.agg #[u0, u1, u2, u3, u4]) :=
 .agg _ _ rfl fun i v hv => by
  match i, hv with
  | 0, hv => cases hv; exact h0
  | 1, hv => cases hv; exact h1
  | 2, hv => cases hv; exact h2
  | 3, hv => cases hv; exact h3
  | 4, hv => cases hv; exact h4
theorem askAll_ev {o : Nat → List PV → Option PV} {lv : PV} {k : List Int → Qn} {v : PV} : ∀ (n : Nat) (acc : List Int), (askAll lv k n acc).ev o = some v → ∃ rs, rs.length = acc.length + n ∧ (∀ j, j < acc.length → rs[j]? = acc[j]?) ∧ (k rs).ev o = some v ∧ ∀ j, acc.length ≤ j → j < rs.length → ∃ u, rs[j]? = some u ∧ u ≤ (j : Nat) ∧ o 47 [lv, .int .i64 (j : Nat)] = some (.int .i64 u)
 | 0, acc, h => ⟨acc, rfl, fun _ _ => rfl, h, fun j h1 h2 => by omega⟩
 | n + 1, acc, h => by
  simp only [askAll, Qn.ev] at h
  cases ho : o 47 [lv, .int .i64 (acc.length : Nat)] with
  | none => rw [ho] at h; cases h
  | some r =>
   rw [ho] at h
   simp only at h
   split at h
   ·rename_i u
    split at h
    ·rename_i hu
     obtain ⟨rs, h1, h2, h3, h4⟩ := askAll_ev n (acc ++ [u]) h
     simp only [List.length_append, List.length_cons, List.length_nil] at h1 h2 h4
     refine ⟨rs, by omega, fun j hj => (h2 j (by omega)).trans (List.getElem?_append_left hj), h3, fun j hj1 hj2 => ?_⟩
     by_cases e : j = acc.length
     ·subst e
      refine ⟨u, (h2 acc.length (by omega)).trans (by simp), hu, ho⟩
     ·exact h4 j (by omega) hj2
    ·cases h
   ·cases h
end
theorem begin_orc [Base] : OrcOk Tryz.prog 47 beginQ := by
 intro cl hcl hm args v hq g S w cs hw ha
 unfold beginQ at hq
 split at hq
 ·rename_i rows full e
  split at hq
  ·rename_i hc
   obtain ⟨he0, hel, hrl⟩ := hc
   split at hq
   ·rename_i kind num text z3 r3 f3 r4 f4 hrow
    split at hq
    ·rename_i ks hks
     split at hq
     ·rename_i hkl
      obtain ⟨c, d, rfl, h1, h2⟩ := args2 ha
      obtain rfl := vr_int h2
      cases h1 with
      | data _ _ h1 =>
       have h10 := h1
       cases h1 with
       | list _ _ _ A cap cv hl hf hs hA hcell hv =>
        have hne : rows ≠ [] := fun e => by rw [e] at hel; simp at hel
        obtain ⟨ad, rfl, hspot⟩ := hA hne
        obtain ⟨bl, ol, sp⟩ := ad
        simp only at hspot
        subst hspot
        have q : ∀ (j : Nat) (u : PV), [PV.int .i64 kind, .int .i64 num, .str text, .list z3 r3 f3, .list 1 r4 f4][j]? = some u → w.cell? ⟨bl, ol + (e.toNat * 5 + j), none⟩ = some (cv e.toNat j) ∧ FR g.fz u (cv e.toNat j) := fun j u hu =>
         ⟨hw.fz _ _ _ (hcell ⟨bl, ol, none⟩ e.toNat j _ u rfl hrow hu), hv e.toNat j _ u hrow hu⟩
        obtain ⟨q0, v0⟩ := q 0 _ rfl
        obtain ⟨q1, v1⟩ := q 1 _ rfl
        obtain ⟨q2, v2⟩ := q 2 _ rfl
        obtain ⟨q3, v3⟩ := q 3 _ rfl
        obtain ⟨q4, v4⟩ := q 4 _ rfl
        have w3 := v3
        have w4 := v4
        generalize cv e.toNat 0 = u0 at *
        generalize cv e.toNat 1 = u1 at *
        generalize cv e.toNat 2 = u2 at *
        generalize cv e.toNat 3 = u3 at *
        generalize cv e.toNat 4 = u4 at *
        cases v0
        cases v1
        cases v2
        cases v3 with
        | list _ _ _ A3 c3 _ _ _ _ _ _ _ =>
         cases v4 with
         | list _ _ _ A4 c4 cv4 _ _ _ hA4 hcell4 hv4 =>
          have hbl : bl < w.heap.size := cell_lt q0
          have hr4 := kidsOf_get hks
          have hl4 : r4.length = ks.length := by rw [hr4, List.length_map]
          have hkid : ∀ j, j < ks.length → r4[j]? = some [.int .i64 ((ks[j]?).getD 0)] := fun j hj => by rw [hr4, List.getElem?_map, List.getElem?_eq_getElem hj]; rfl
          have hI : Bk.Ints w.heap.size w (.slice A4 r4.length c4) ks := by
           by_cases h0 : 0 < ks.length
           ·have hne4 : r4 ≠ [] := fun e => by rw [e] at hl4; simp at hl4; omega
            obtain ⟨⟨b4, o4, sp4⟩, rfl, hs4⟩ := hA4 hne4
            simp only at hs4
            subst hs4
            have hcell4' : ∀ j, j < ks.length → w.cell? ⟨b4, o4 + j, none⟩ = some (.int .i64 ((ks[j]?).getD 0)) := fun j hj => by
             have h5 := hcell4 ⟨b4, o4, none⟩ j 0 _ _ rfl (hkid j hj) rfl
             have h6 := hv4 j 0 _ _ (hkid j hj) rfl
             have h7 := hw.fz _ _ _ h5
             simp only [Nat.mul_one, Nat.add_zero] at h7
             rw [h7, vr_int (g := g) (.data _ _ h6)]
            exact .inr ⟨h0, b4, o4, c4, by rw [hl4], cell_lt (hcell4' 0 h0), hcell4'⟩
           ·exact .inl ⟨A4, c4, by rw [hl4, show ks.length = 0 by omega], List.length_eq_zero_iff.1 (by omega)⟩
          have ee : e = ((e.toNat : Nat) : Int) := by omega
          unfold beginK at hq
          simp only [Qn.ev] at hq
          cases hk73 : pureO cl 73 [.int .i64 kind] with
          | none => rw [hk73] at hq; cases hq
          | some k73 =>
           rw [hk73] at hq
           simp only at hq
           split at hq
           ·rename_i kk
            have hK : ∀ W, Below w.heap.size w W → Calls Tryz.prog 73 #[.int .i64 kind] W fun x W' => x = .returned (.int .i64 kk) ∧ Below W.heap.size W W' := fun W hb =>
             (ask_ok hcl hk73 hw hb (argsR1 (.data _ _ (.int _ _))) (enters_of Tryz.func73 (by kernel_rfl) rfl _ _)).mono fun x W' ⟨c, g', h1, h2, h3⟩ => ⟨by rw [h1, vr_int h2], h3⟩
            have fin : ∀ (res : Int) (pp : Bool) (o : Int → Int),
              ((kk = ks.length ∨ kk = -1) → ∀ W, Below w.heap.size w W → Calls Tryz.prog 74 #[.agg #[.int .i64 kind, .int .i64 num, .string ⟨text.toArray⟩, .slice A3 r3.length c3, .slice A4 r4.length c4]] W fun x W' => x = .returned (.bool pp) ∧ Below W.heap.size W W') →
              ((kk = ks.length ∨ kk = -1) → pp = true → ∀ k : Int, 0 ≤ k → k < e.toNat → o k ≤ k ∧ ∀ W, Below w.heap.size w W → Calls Tryz.prog 47 #[.slice (some ⟨bl, ol, none⟩) rows.length cap, .int .i64 k] W fun x W' => x = .returned (.int .i64 (o k)) ∧ Below W.heap.size W W') →
              (res = if (kk ≠ ks.length ∧ kk ≠ -1) ∨ pp = false then -1 else Bk.run o e.toNat ks.reverse) → v = .int .i64 res →
              Answers Tryz.prog 47 #[.slice (some ⟨bl, ol, none⟩) rows.length cap, .int .i64 e] w (CallPost g S w (.ok (.v v) S)) := fun res pp o hP hB hr hv => by
             have key := Bk.begin_in w bl ol rows.length cap e.toNat kind num ⟨text.toArray⟩ A3 A4 r3.length c3 r4.length c4 ks kk pp o res hbl hel hrl hl q0 q1 q2 q3 q4 hl4 hI hkl hK hP hB hr
             rw [← ee] at key
             subst hv
             left
             refine ⟨enters_of Tryz.func47 (by kernel_rfl) rfl _ _, key.mono fun x W' ⟨h1, h2⟩ => ?_⟩
             subst h1
             exact ext_post hw h2 (.data _ _ (.int _ _))
            split at hq
            ·rename_i hkk
             simp only [Qn.ev, Option.some.injEq] at hq
             exact fin (-1) false (fun _ => 0) (fun h => absurd h (by rintro (h | h); exact hkk.1 h; exact hkk.2 h)) (fun _ h => by cases h) (by rw [if_pos (.inl hkk)]) hq.symm
            ·rename_i hkk
             simp only [Qn.ev] at hq
             cases hk74 : pureO cl 74 [.agg [.int .i64 kind, .int .i64 num, .str text, .list z3 r3 f3, .list 1 r4 f4]] with
             | none => rw [hk74] at hq; cases hq
             | some k74 =>
              rw [hk74] at hq
              simp only at hq
              split at hq
              ·rename_i pp
               have hP : (kk = ks.length ∨ kk = -1) → ∀ W, Below w.heap.size w W → Calls Tryz.prog 74 #[.agg #[.int .i64 kind, .int .i64 num, .string ⟨text.toArray⟩, .slice A3 r3.length c3, .slice A4 r4.length c4]] W fun x W' => x = .returned (.bool pp) ∧ Below W.heap.size W W' := fun _ W hb =>
                (ask_ok hcl hk74 hw hb (argsR1 (vr_agg5 (.data _ _ (.int _ _)) (.data _ _ (.int _ _)) (.data _ _ (.str _)) (.data _ _ w3) (.data _ _ w4))) (enters_of Tryz.func74 (by kernel_rfl) rfl _ _)).mono fun x W' ⟨c, g', h1, h2, h3⟩ => ⟨by rw [h1, vr_bool h2], h3⟩
               split at hq
               ·rename_i hpp
                subst hpp
                simp only [Qn.ev, Option.some.injEq] at hq
                exact fin (-1) false (fun _ => 0) hP (fun _ h => by cases h) (by rw [if_pos (.inr rfl)]) hq.symm
               ·rename_i hpp
                obtain ⟨rs, r1, r2, r3', r4'⟩ := askAll_ev _ _ hq
                simp only [List.length_nil, Nat.zero_add] at r1 r4'
                simp only [Qn.ev, Option.some.injEq] at r3'
                refine fin _ pp (fun k => (rs[k.toNat]?).getD 0) hP (fun _ _ k k0 k1 => ?_) (by rw [if_neg (by rintro (h | h); exact hkk h; exact hpp h)]) (by rw [← r3', ← ee])
                obtain ⟨u, u1, u2, u3⟩ := r4' k.toNat (by omega) (by omega)
                have ek : ((k.toNat : Nat) : Int) = k := by omega
                rw [ek] at u2 u3
                have e1 : (rs[k.toNat]?).getD 0 = u := by rw [u1]; rfl
                simp only [e1]
                exact ⟨u2, fun W hb => (ask_ok hcl u3 hw hb (argsR2 (.data _ _ h10) (.data _ _ (.int _ _))) (enters_of Tryz.func47 (by kernel_rfl) rfl _ _)).mono fun x W' ⟨c, g', h1, h2, h3⟩ => ⟨by rw [h1, vr_int h2], h3⟩⟩
              ·cases hq
           ·cases hq
     ·cases hq
    ·cases hq
   ·cases hq
  ·cases hq
 ·cases hq
end Go.Proofs.YtfbcnpbhhooapaaGreatDoor.M
namespace Go.Proofs.YtfbcnpbhhooapaaGreatDoor.M
set_option linter.unusedVariables false
open Go Classical
noncomputable def exts : Nat → Option XF := fun f => if f = 106 then some (.fn (itoaX)) else if f = 108 then some (.fn (boolX)) else if f = 94 then some (.fn (repeatX)) else if f = 112 then some (.fn (cutX)) else if f = 179 then some (.fn (indexX)) else if f = 129 then some (.fn (prefixX)) else if f = 162 then some (.fn (containsX)) else if f = 120 then some (.fn (replaceX)) else if f = 163 then some (.fn (atoiX 218)) else if f = 144 then some (.fn (cloneX 1 8)) else if f = 36 then some (.rcv rcv_Q36) else if f = 47 then some (.orc beginQ) else  none
noncomputable def SP : Prg := SPof Tryz.prog exts
theorem sp_strconv_Itoa : SP 106 = some (.ext (itoaX)) := rfl
theorem sp_strings_Cut : SP 112 = some (.ext (cutX)) := rfl
theorem sp_strings_IndexByte : SP 179 = some (.ext (indexX)) := rfl
theorem sp_strings_HasPrefix : SP 129 = some (.ext (prefixX)) := rfl
theorem sp_strings_Contains : SP 162 = some (.ext (containsX)) := rfl
theorem sp_strings_ReplaceAll : SP 120 = some (.ext (replaceX)) := rfl
theorem sp_strconv_Atoi : SP 163 = some (.ext (atoiX 218)) := rfl
theorem sp_slices_Clone_int_int : SP 144 = some (.ext (cloneX 1 8)) := rfl
theorem sp_Q36 : SP 36 = some (.rcv rcv_Q36) := rfl
theorem sp_Q47 : SP 47 = some (.orc beginQ) := rfl
end Go.Proofs.YtfbcnpbhhooapaaGreatDoor.M
namespace Go.Proofs.YtfbcnpbhhooapaaGreatDoor.M
open Go Classical
def R_Q10 (x0 : List Node) (x1 : List Block) (r0 : Bool) : Prop := ∀ (S : Sto), call SP 10 [.list 5 (x0.map eNode) false, .list 4 (x1.map eBlock) false] S = .ok (.v (.bool r0)) S
def R_Q15 (r0 : Bool) : Prop := ∀ (S : Sto), call SP 15 [] S = .ok (.v (.bool r0)) S
def R_Q17 (x0 : List UInt8) (r0 : List Block) (r1 : Int) : Prop := ∀ (S : Sto), call SP 17 [.str x0] S = .ok (.v (.tup [.list 4 (r0.map eBlock) false, .int .i64 r1])) S
def R_Q18 (x0 : Int) (r0 : Int) : Prop := ∀ (S : Sto), call SP 18 [.int .i64 x0] S = .ok (.v (.int .i64 r0)) S
def R_Q26 (x0 : List Node) (r0 : Bool) : Prop := ∀ (S : Sto), call SP 26 [.list 5 (x0.map eNode) false] S = .ok (.v (.bool r0)) S
def R_Q27 (x0 : List Node) (r0 : Bool) : Prop := ∀ (S : Sto), call SP 27 [.list 5 (x0.map eNode) false] S = .ok (.v (.bool r0)) S
def R_Q28 (x0 : List Block) (x1 : Int) (r0 : Bool) : Prop := ∀ (S : Sto), call SP 28 [.list 4 (x0.map eBlock) false, .int .i64 x1] S = .ok (.v (.bool r0)) S
def R_Q29 (x0 : List Node) (r0 : Bool) : Prop := ∀ (S : Sto), call SP 29 [.list 5 (x0.map eNode) false] S = .ok (.v (.bool r0)) S
def R_Q30 (x0 : List Block) (r0 : Bool) : Prop := ∀ (S : Sto), call SP 30 [.list 4 (x0.map eBlock) false] S = .ok (.v (.bool r0)) S
def R_Q31 (x0 : List Block) (r0 : Bool) : Prop := ∀ (S : Sto), call SP 31 [.list 4 (x0.map eBlock) false] S = .ok (.v (.bool r0)) S
def R_Q37 (x0 : PBlocks) (x0_g2 : Nat) (x0_z2 : Bool) (x1 : List Block) (x1_g0 : Nat) (x1_z0 : Bool) (o : Option Int) (x0' : PBlocks) (x0'_g2 : Nat) (x0'_z2 : Bool) (x1' : List Block) (x1'_g0 : Nat) (x1'_z0 : Bool) : Prop := ∀ (S : Sto) (n0 : Nat) (t0 : Nat) (n1 : Nat) (t1 : Nat), (getBox S n0 t0).map (List.take 4) = some [.list 5 (x0.exprs.tokens.l.map eToken) false, .int .i64 x0.exprs.tokens.pos, .sl 0 (.cell t0 2) 0 x0.exprs.out.length x0.exprs.out.length x0_g2 false, .int .i64 x0.exprs.deep] ∧ getArr S n0 (.cell t0 2) = some ⟨5, x0.exprs.out.map eNode, x0_z2, x0_g2⟩ → (getBox S n1 t1).map (List.take 1) = some [.sl 0 (.cell t1 0) 0 x1.length x1.length x1_g0 false] ∧ getArr S n1 (.cell t1 0) = some ⟨4, x1.map eBlock, x1_z0, x1_g0⟩ → n0 ≠ n1 → call SP 37 [.ptr n0 t0 0, .ptr n1 t1 0] S = po 116 o (.v (.tup [])) (setArr (setBox (setArr (setBox S n0 t0 ([.list 5 (x0'.exprs.tokens.l.map eToken) false, .int .i64 x0'.exprs.tokens.pos, .sl 0 (.cell t0 2) 0 x0'.exprs.out.length x0'.exprs.out.length x0'_g2 false, .int .i64 x0'.exprs.deep] ++ ((getBox S n0 t0).getD []).drop 4)) n0 (.cell t0 2) ⟨5, x0'.exprs.out.map eNode, x0'_z2, x0'_g2⟩) n1 t1 ([.sl 0 (.cell t1 0) 0 x1'.length x1'.length x1'_g0 false] ++ ((getBox (setArr (setBox S n0 t0 ([.list 5 (x0'.exprs.tokens.l.map eToken) false, .int .i64 x0'.exprs.tokens.pos, .sl 0 (.cell t0 2) 0 x0'.exprs.out.length x0'.exprs.out.length x0'_g2 false, .int .i64 x0'.exprs.deep] ++ ((getBox S n0 t0).getD []).drop 4)) n0 (.cell t0 2) ⟨5, x0'.exprs.out.map eNode, x0'_z2, x0'_g2⟩) n1 t1).getD []).drop 1)) n1 (.cell t1 0) ⟨4, x1'.map eBlock, x1'_z0, x1'_g0⟩)
def R_Q47 (x0 : List Node) (x1 : Int) (r0 : Int) : Prop := ∀ (S : Sto), call SP 47 [.list 5 (x0.map eNode) false, .int .i64 x1] S = .ok (.v (.int .i64 r0)) S
def R_Q48 (x0 : Int) (r0 : Int) : Prop := ∀ (S : Sto), call SP 48 [.int .i64 x0] S = .ok (.v (.int .i64 r0)) S
def R_Q49 (x0 : Node) (r0 : Bool) : Prop := ∀ (S : Sto), call SP 49 [.agg (eNode x0)] S = .ok (.v (.bool r0)) S
def R_Q51 (x0 : Block) (r0 : Bool) : Prop := ∀ (S : Sto), call SP 51 [.agg (eBlock x0)] S = .ok (.v (.bool r0)) S
def R_Q52 (x0 : Block) (x1 : Bool) (r0 : Bool) : Prop := ∀ (S : Sto), call SP 52 [.agg (eBlock x0), .bool x1] S = .ok (.v (.bool r0)) S
def R_Q53 (x0 : List Block) (x1 : Bool) (r0 : Bool) : Prop := ∀ (S : Sto), call SP 53 [.list 4 (x0.map eBlock) false, .bool x1] S = .ok (.v (.bool r0)) S
def R_Q60 (x0 : List UInt8) (r0 : List Token) (r1 : Int) : Prop := ∀ (S : Sto), call SP 60 [.str x0] S = .ok (.v (.tup [.list 5 (r0.map eToken) false, .int .i64 r1])) S
def R_slices_Index_string_string (x0 : List (List UInt8)) (x1 : List UInt8) (r0 : Int) : Prop := ∀ (S : Sto), call SP 62 [.list 1 (x0.map eS) false, .str x1] S = .ok (.v (.int .i64 r0)) S
def R_Q63 (r0 : List (List UInt8)) : Prop := ∀ (S : Sto), call SP 63 [] S = .ok (.v (.list 1 (r0.map eS) false)) S
def R_Q73 (x0 : Int) (r0 : Int) : Prop := ∀ (S : Sto), call SP 73 [.int .i64 x0] S = .ok (.v (.int .i64 r0)) S
def R_Q74 (x0 : Node) (r0 : Bool) : Prop := ∀ (S : Sto), call SP 74 [.agg (eNode x0)] S = .ok (.v (.bool r0)) S
def R_Q76 (x0 : List Part) (r0 : Bool) : Prop := ∀ (S : Sto), call SP 76 [.list 2 (x0.map ePart) false] S = .ok (.v (.bool r0)) S
def R_Q77 (x0 : List UInt8) (x1 : Int) (r0 : Int) : Prop := ∀ (S : Sto), call SP 77 [.str x0, .int .i64 x1] S = .ok (.v (.int .i64 r0)) S
def R_Q78 (x0 : List UInt8) (r0 : Bool) : Prop := ∀ (S : Sto), call SP 78 [.str x0] S = .ok (.v (.bool r0)) S
def R_Q79 (x0 : List UInt8) (r0 : Bool) : Prop := ∀ (S : Sto), call SP 79 [.str x0] S = .ok (.v (.bool r0)) S
def R_Q81 (x0 : List UInt8) (r0 : Bool) : Prop := ∀ (S : Sto), call SP 81 [.str x0] S = .ok (.v (.bool r0)) S
def R_Q82 (x0 : List Attr) (r0 : Bool) : Prop := ∀ (S : Sto), call SP 82 [.list 2 (x0.map eAttr) false] S = .ok (.v (.bool r0)) S
def R_Q83 (x0 : Block) (r0 : Bool) : Prop := ∀ (S : Sto), call SP 83 [.agg (eBlock x0)] S = .ok (.v (.bool r0)) S
def R_Q84 (x0 : Block) (x1 : Bool) (r0 : Bool) : Prop := ∀ (S : Sto), call SP 84 [.agg (eBlock x0), .bool x1] S = .ok (.v (.bool r0)) S
def R_strconv_Itoa (x0 : Int) (r0 : List UInt8) : Prop := ∀ (S : Sto), call SP 106 [.int .i64 x0] S = .ok (.v (.str r0)) S
def R_strings_Cut (x0 : List UInt8) (x1 : List UInt8) (r0 : List UInt8) (r1 : List UInt8) (r2 : Bool) : Prop := ∀ (S : Sto), call SP 112 [.str x0, .str x1] S = .ok (.v (.tup [.str r0, .str r1, .bool r2])) S
def R_Q113 (x0 : List UInt8) (r0 : Bool) : Prop := ∀ (S : Sto), call SP 113 [.str x0] S = .ok (.v (.bool r0)) S
def R_Q114 (x0 : List UInt8) (r0 : Bool) : Prop := ∀ (S : Sto), call SP 114 [.str x0] S = .ok (.v (.bool r0)) S
def R_Q115 (x0 : List UInt8) (r0 : Bool) : Prop := ∀ (S : Sto), call SP 115 [.str x0] S = .ok (.v (.bool r0)) S
def R_Q116 (x0 : List Part) (r0 : Bool) : Prop := ∀ (S : Sto), call SP 116 [.list 2 (x0.map ePart) false] S = .ok (.v (.bool r0)) S
def R_Q118 (x0 : UInt8) (r0 : Bool) : Prop := ∀ (S : Sto), call SP 118 [.int .u8 ((x0.toNat : Nat) : Int)] S = .ok (.v (.bool r0)) S
def R_Q119 (x0 : UInt8) (r0 : Bool) : Prop := ∀ (S : Sto), call SP 119 [.int .u8 ((x0.toNat : Nat) : Int)] S = .ok (.v (.bool r0)) S
def R_strings_ReplaceAll (x0 : List UInt8) (x1 : List UInt8) (x2 : List UInt8) (r0 : List UInt8) : Prop := ∀ (S : Sto), call SP 120 [.str x0, .str x1, .str x2] S = .ok (.v (.str r0)) S
def R_Q121 (x0 : Attr) (x1 : Attr) (r0 : Bool) : Prop := ∀ (S : Sto) (n1 : Nat) (t1 : Nat), (getBox S n1 t1).map (List.take 2) = some [.str x1.Name, .list 5 (x1.Expr.map eNode) false] → call SP 121 [.agg (eAttr x0), .ptr n1 t1 0] S = .ok (.v (.bool r0)) S
def R_Q122 (x0 : List UInt8) (r0 : Bool) : Prop := ∀ (S : Sto), call SP 122 [.str x0] S = .ok (.v (.bool r0)) S
def R_strings_HasPrefix (x0 : List UInt8) (x1 : List UInt8) (r0 : Bool) : Prop := ∀ (S : Sto), call SP 129 [.str x0, .str x1] S = .ok (.v (.bool r0)) S
def R_Q137 (x0 : UInt8) (r0 : Int) : Prop := ∀ (S : Sto), call SP 137 [.int .u8 ((x0.toNat : Nat) : Int)] S = .ok (.v (.int .i64 r0)) S
def R_Q143 (x0 : Int) (x1 : List UInt8) (r0 : Int) (r1 : Bool) : Prop := ∀ (S : Sto), call SP 143 [.int .i64 x0, .str x1] S = .ok (.v (.tup [.int .i64 r0, .bool r1])) S
def R_slices_Clone_int_int (x0 : List Int) (r0 : List Int) : Prop := ∀ (S : Sto), call SP 144 [.list 1 (x0.map eI) false] S = .ok (.v (.list 1 (r0.map eI) false)) S
def R_Q151 (x0 : List UInt8) (x1 : List Int) (r0 : Int) : Prop := ∀ (S : Sto), call SP 151 [.str x0, .list 1 (x1.map eI) false] S = .ok (.v (.int .i64 r0)) S
def R_Q152 (x0 : List UInt8) (r0 : Bool) : Prop := ∀ (S : Sto), call SP 152 [.str x0] S = .ok (.v (.bool r0)) S
def R_slices_Contains_string_string (x0 : List (List UInt8)) (x1 : List UInt8) (r0 : Bool) : Prop := ∀ (S : Sto), call SP 161 [.list 1 (x0.map eS) false, .str x1] S = .ok (.v (.bool r0)) S
def R_strings_Contains (x0 : List UInt8) (x1 : List UInt8) (r0 : Bool) : Prop := ∀ (S : Sto), call SP 162 [.str x0, .str x1] S = .ok (.v (.bool r0)) S
def R_strconv_Atoi (x0 : List UInt8) (r0 : Int) (r1 : Bool) : Prop := ∀ (S : Sto), call SP 163 [.str x0] S = .ok (.v (.tup [.int .i64 r0, eE 218 r1])) S
def R_Q164 (x0 : List UInt8) (r0 : UInt8) (r1 : Bool) : Prop := ∀ (S : Sto), call SP 164 [.str x0] S = .ok (.v (.tup [.int .u8 ((r0.toNat : Nat) : Int), .bool r1])) S
def R_Q166 (x0 : List UInt8) (r0 : List UInt8) (r1 : Bool) : Prop := ∀ (S : Sto), call SP 166 [.str x0] S = .ok (.v (.tup [.str r0, .bool r1])) S
def R_slices_Contains_int_int (x0 : List Int) (x1 : Int) (r0 : Bool) : Prop := ∀ (S : Sto), call SP 170 [.list 1 (x0.map eI) false, .int .i64 x1] S = .ok (.v (.bool r0)) S
def R_strings_IndexByte (x0 : List UInt8) (x1 : UInt8) (r0 : Int) : Prop := ∀ (S : Sto), call SP 179 [.str x0, .int .u8 ((x1.toNat : Nat) : Int)] S = .ok (.v (.int .i64 r0)) S
def R_slices_Index_int_int (x0 : List Int) (x1 : Int) (r0 : Int) : Prop := ∀ (S : Sto), call SP 190 [.list 1 (x0.map eI) false, .int .i64 x1] S = .ok (.v (.int .i64 r0)) S
def R_Q38 (x0 : PTokens) (r0 : Token) (x0' : PTokens) : Prop := ∀ (S : Sto) (n0 : Nat) (t0 : Nat), (getBox S n0 t0).map (List.take 2) = some [.list 5 (x0.l.map eToken) false, .int .i64 x0.pos] → call SP 38 [.ptr n0 t0 0] S = .ok (.v (.agg [.int .i64 r0.Kind, .str r0.Text, .int .i64 r0.Num, .list 2 (r0.Parts.map ePart) false, .int .i64 r0.At])) (setBox S n0 t0 ([.list 5 (x0'.l.map eToken) false, .int .i64 x0'.pos] ++ ((getBox S n0 t0).getD []).drop 2))
def R_Q39 (x0 : PBlocks) (x0_g2 : Nat) (x0_z2 : Bool) (x1 : Bool) (o : Option Int) (r0 : Block) (x0' : PBlocks) (x0'_g2 : Nat) (x0'_z2 : Bool) : Prop := ∀ (S : Sto) (n0 : Nat) (t0 : Nat), (getBox S n0 t0).map (List.take 4) = some [.list 5 (x0.exprs.tokens.l.map eToken) false, .int .i64 x0.exprs.tokens.pos, .sl 0 (.cell t0 2) 0 x0.exprs.out.length x0.exprs.out.length x0_g2 false, .int .i64 x0.exprs.deep] ∧ getArr S n0 (.cell t0 2) = some ⟨5, x0.exprs.out.map eNode, x0_z2, x0_g2⟩ → call SP 39 [.ptr n0 t0 0, .bool x1] S = po 116 o (.v (.agg [.int .i64 r0.Kind, .str r0.Label, .list 2 (r0.Attrs.map eAttr) false, .list 4 (r0.Blocks.map eBlock) false])) (setArr (setBox S n0 t0 ([.list 5 (x0'.exprs.tokens.l.map eToken) false, .int .i64 x0'.exprs.tokens.pos, .sl 0 (.cell t0 2) 0 x0'.exprs.out.length x0'.exprs.out.length x0'_g2 false, .int .i64 x0'.exprs.deep] ++ ((getBox S n0 t0).getD []).drop 4)) n0 (.cell t0 2) ⟨5, x0'.exprs.out.map eNode, x0'_z2, x0'_g2⟩)
def R_Q41 (x0 : PExprs) (x0_g2 : Nat) (x0_z2 : Bool) (o : Option Int) (r0 : List Node) (x0' : PExprs) (x0'_g2 : Nat) (x0'_z2 : Bool) : Prop := ∀ (S : Sto) (n0 : Nat) (t0 : Nat), (getBox S n0 t0).map (List.take 4) = some [.list 5 (x0.tokens.l.map eToken) false, .int .i64 x0.tokens.pos, .sl 0 (.cell t0 2) 0 x0.out.length x0.out.length x0_g2 false, .int .i64 x0.deep] ∧ getArr S n0 (.cell t0 2) = some ⟨5, x0.out.map eNode, x0_z2, x0_g2⟩ → call SP 41 [.ptr n0 t0 0] S = po 116 o (.v (.list 5 (r0.map eNode) false)) (setArr (setBox S n0 t0 ([.list 5 (x0'.tokens.l.map eToken) false, .int .i64 x0'.tokens.pos, .sl 0 (.cell t0 2) 0 x0'.out.length x0'.out.length x0'_g2 false, .int .i64 x0'.deep] ++ ((getBox S n0 t0).getD []).drop 4)) n0 (.cell t0 2) ⟨5, x0'.out.map eNode, x0'_z2, x0'_g2⟩)
def R_Q42 (x0 : PTokens) (x1 : Int) (o : Option Int) (x0' : PTokens) : Prop := ∀ (S : Sto) (n0 : Nat) (t0 : Nat), (getBox S n0 t0).map (List.take 2) = some [.list 5 (x0.l.map eToken) false, .int .i64 x0.pos] → call SP 42 [.ptr n0 t0 0, .int .i64 x1] S = po 116 o (.v (.tup [])) (setBox S n0 t0 ([.list 5 (x0'.l.map eToken) false, .int .i64 x0'.pos] ++ ((getBox S n0 t0).getD []).drop 2))
def R_Q64 (x0 : PBlocks) (x0_g2 : Nat) (x0_z2 : Bool) (o : Option Int) (r0 : List UInt8) (x0' : PBlocks) (x0'_g2 : Nat) (x0'_z2 : Bool) : Prop := ∀ (S : Sto) (n0 : Nat) (t0 : Nat), (getBox S n0 t0).map (List.take 4) = some [.list 5 (x0.exprs.tokens.l.map eToken) false, .int .i64 x0.exprs.tokens.pos, .sl 0 (.cell t0 2) 0 x0.exprs.out.length x0.exprs.out.length x0_g2 false, .int .i64 x0.exprs.deep] ∧ getArr S n0 (.cell t0 2) = some ⟨5, x0.exprs.out.map eNode, x0_z2, x0_g2⟩ → call SP 64 [.ptr n0 t0 0] S = po 116 o (.v (.str r0)) (setArr (setBox S n0 t0 ([.list 5 (x0'.exprs.tokens.l.map eToken) false, .int .i64 x0'.exprs.tokens.pos, .sl 0 (.cell t0 2) 0 x0'.exprs.out.length x0'.exprs.out.length x0'_g2 false, .int .i64 x0'.exprs.deep] ++ ((getBox S n0 t0).getD []).drop 4)) n0 (.cell t0 2) ⟨5, x0'.exprs.out.map eNode, x0'_z2, x0'_g2⟩)
def R_Q65 (x0 : PBlocks) (x0_g2 : Nat) (x0_z2 : Bool) (o : Option Int) (r0 : List Attr) (x0' : PBlocks) (x0'_g2 : Nat) (x0'_z2 : Bool) : Prop := (∀ (S : Sto) (n0 : Nat) (t0 : Nat), (getBox S n0 t0).map (List.take 4) = some [.list 5 (x0.exprs.tokens.l.map eToken) false, .int .i64 x0.exprs.tokens.pos, .sl 0 (.cell t0 2) 0 x0.exprs.out.length x0.exprs.out.length x0_g2 false, .int .i64 x0.exprs.deep] ∧ getArr S n0 (.cell t0 2) = some ⟨5, x0.exprs.out.map eNode, x0_z2, x0_g2⟩ → call SP 65 [.ptr n0 t0 0] S = po 116 o (.v (.list 2 (r0.map eAttr) false)) (setArr (setBox S n0 t0 ([.list 5 (x0'.exprs.tokens.l.map eToken) false, .int .i64 x0'.exprs.tokens.pos, .sl 0 (.cell t0 2) 0 x0'.exprs.out.length x0'.exprs.out.length x0'_g2 false, .int .i64 x0'.exprs.deep] ++ ((getBox S n0 t0).getD []).drop 4)) n0 (.cell t0 2) ⟨5, x0'.exprs.out.map eNode, x0'_z2, x0'_g2⟩)) ∨ (∀ (S : Sto) (n0 : Nat) (t0 : Nat), (getBox S n0 t0).map (List.take 4) = some [.list 5 (x0.exprs.tokens.l.map eToken) false, .int .i64 x0.exprs.tokens.pos, .sl 0 (.cell t0 2) 0 x0.exprs.out.length x0.exprs.out.length x0_g2 false, .int .i64 x0.exprs.deep] ∧ getArr S n0 (.cell t0 2) = some ⟨5, x0.exprs.out.map eNode, x0_z2, x0_g2⟩ → call SP 65 [.ptr n0 t0 0] S = po 116 o (.arr 2 (r0.map eAttr) false) (setArr (setBox S n0 t0 ([.list 5 (x0'.exprs.tokens.l.map eToken) false, .int .i64 x0'.exprs.tokens.pos, .sl 0 (.cell t0 2) 0 x0'.exprs.out.length x0'.exprs.out.length x0'_g2 false, .int .i64 x0'.exprs.deep] ++ ((getBox S n0 t0).getD []).drop 4)) n0 (.cell t0 2) ⟨5, x0'.exprs.out.map eNode, x0'_z2, x0'_g2⟩))
def R_Q66 (x0 : PTokens) (x1 : List UInt8) (o : Option Int) (x0' : PTokens) : Prop := ∀ (S : Sto) (n0 : Nat) (t0 : Nat), (getBox S n0 t0).map (List.take 2) = some [.list 5 (x0.l.map eToken) false, .int .i64 x0.pos] → call SP 66 [.ptr n0 t0 0, .str x1] S = po 116 o (.v (.tup [])) (setBox S n0 t0 ([.list 5 (x0'.l.map eToken) false, .int .i64 x0'.pos] ++ ((getBox S n0 t0).getD []).drop 2))
def R_Q67 (x0 : PTokens) (x1 : List UInt8) (r0 : Bool) (x0' : PTokens) : Prop := ∀ (S : Sto) (n0 : Nat) (t0 : Nat), (getBox S n0 t0).map (List.take 2) = some [.list 5 (x0.l.map eToken) false, .int .i64 x0.pos] → call SP 67 [.ptr n0 t0 0, .str x1] S = .ok (.v (.bool r0)) (setBox S n0 t0 ([.list 5 (x0'.l.map eToken) false, .int .i64 x0'.pos] ++ ((getBox S n0 t0).getD []).drop 2))
def R_Q68 (x0 : PExprs) (x0_g2 : Nat) (x0_z2 : Bool) (o : Option Int) (r0 : Int) (x0' : PExprs) (x0'_g2 : Nat) (x0'_z2 : Bool) : Prop := ∀ (S : Sto) (n0 : Nat) (t0 : Nat), (getBox S n0 t0).map (List.take 4) = some [.list 5 (x0.tokens.l.map eToken) false, .int .i64 x0.tokens.pos, .sl 0 (.cell t0 2) 0 x0.out.length x0.out.length x0_g2 false, .int .i64 x0.deep] ∧ getArr S n0 (.cell t0 2) = some ⟨5, x0.out.map eNode, x0_z2, x0_g2⟩ → call SP 68 [.ptr n0 t0 0] S = po 116 o (.v (.int .i64 r0)) (setArr (setBox S n0 t0 ([.list 5 (x0'.tokens.l.map eToken) false, .int .i64 x0'.tokens.pos, .sl 0 (.cell t0 2) 0 x0'.out.length x0'.out.length x0'_g2 false, .int .i64 x0'.deep] ++ ((getBox S n0 t0).getD []).drop 4)) n0 (.cell t0 2) ⟨5, x0'.out.map eNode, x0'_z2, x0'_g2⟩)
def R_Q97 (x0 : LTokens) (x0_g2 : Nat) (x0_z2 : Bool) (x0' : LTokens) (x0'_g2 : Nat) (x0'_z2 : Bool) : Prop := ∀ (S : Sto) (n0 : Nat) (t0 : Nat), (getBox S n0 t0).map (List.take 3) = some [.str x0.text.left, .int .i64 x0.text.pos, .sl 0 (.cell t0 2) 0 x0.out.length x0.out.length x0_g2 false] ∧ getArr S n0 (.cell t0 2) = some ⟨5, x0.out.map eToken, x0_z2, x0_g2⟩ → call SP 97 [.ptr n0 t0 0] S = .ok (.v (.tup [])) (setArr (setBox S n0 t0 ([.str x0'.text.left, .int .i64 x0'.text.pos, .sl 0 (.cell t0 2) 0 x0'.out.length x0'.out.length x0'_g2 false] ++ ((getBox S n0 t0).getD []).drop 3)) n0 (.cell t0 2) ⟨5, x0'.out.map eToken, x0'_z2, x0'_g2⟩)
def R_Q98 (x0 : LTokens) (x0_g2 : Nat) (x0_z2 : Bool) (r0 : Bool) (x0' : LTokens) (x0'_g2 : Nat) (x0'_z2 : Bool) : Prop := ∀ (S : Sto) (n0 : Nat) (t0 : Nat), (getBox S n0 t0).map (List.take 3) = some [.str x0.text.left, .int .i64 x0.text.pos, .sl 0 (.cell t0 2) 0 x0.out.length x0.out.length x0_g2 false] ∧ getArr S n0 (.cell t0 2) = some ⟨5, x0.out.map eToken, x0_z2, x0_g2⟩ → call SP 98 [.ptr n0 t0 0] S = .ok (.v (.bool r0)) (setArr (setBox S n0 t0 ([.str x0'.text.left, .int .i64 x0'.text.pos, .sl 0 (.cell t0 2) 0 x0'.out.length x0'.out.length x0'_g2 false] ++ ((getBox S n0 t0).getD []).drop 3)) n0 (.cell t0 2) ⟨5, x0'.out.map eToken, x0'_z2, x0'_g2⟩)
def R_Q100 (x0 : Attr) (x1 : List UInt8) (r0 : Bool) : Prop := ∀ (S : Sto) (n1 : Nat) (t1 : Nat), (getBox S n1 t1).map (List.take 1) = some [.str x1] → call SP 100 [.agg (eAttr x0), .ptr n1 t1 0] S = .ok (.v (.bool r0)) S
def R_Q101 (x0 : PTokens) (o : Option Int) (r0 : List UInt8) (x0' : PTokens) : Prop := ∀ (S : Sto) (n0 : Nat) (t0 : Nat), (getBox S n0 t0).map (List.take 2) = some [.list 5 (x0.l.map eToken) false, .int .i64 x0.pos] → call SP 101 [.ptr n0 t0 0] S = po 116 o (.v (.str r0)) (setBox S n0 t0 ([.list 5 (x0'.l.map eToken) false, .int .i64 x0'.pos] ++ ((getBox S n0 t0).getD []).drop 2))
def R_Q102 (x0 : PTokens) (x1 : List UInt8) (r0 : Bool) (x0' : PTokens) : Prop := ∀ (S : Sto) (n0 : Nat) (t0 : Nat), (getBox S n0 t0).map (List.take 2) = some [.list 5 (x0.l.map eToken) false, .int .i64 x0.pos] → call SP 102 [.ptr n0 t0 0, .str x1] S = .ok (.v (.bool r0)) (setBox S n0 t0 ([.list 5 (x0'.l.map eToken) false, .int .i64 x0'.pos] ++ ((getBox S n0 t0).getD []).drop 2))
def R_Q103 (x0 : PExprs) (x0_g2 : Nat) (x0_z2 : Bool) (x1 : Int) (o : Option Int) (r0 : Int) (x0' : PExprs) (x0'_g2 : Nat) (x0'_z2 : Bool) : Prop := ∀ (S : Sto) (n0 : Nat) (t0 : Nat), (getBox S n0 t0).map (List.take 4) = some [.list 5 (x0.tokens.l.map eToken) false, .int .i64 x0.tokens.pos, .sl 0 (.cell t0 2) 0 x0.out.length x0.out.length x0_g2 false, .int .i64 x0.deep] ∧ getArr S n0 (.cell t0 2) = some ⟨5, x0.out.map eNode, x0_z2, x0_g2⟩ → call SP 103 [.ptr n0 t0 0, .int .i64 x1] S = po 116 o (.v (.int .i64 r0)) (setArr (setBox S n0 t0 ([.list 5 (x0'.tokens.l.map eToken) false, .int .i64 x0'.tokens.pos, .sl 0 (.cell t0 2) 0 x0'.out.length x0'.out.length x0'_g2 false, .int .i64 x0'.deep] ++ ((getBox S n0 t0).getD []).drop 4)) n0 (.cell t0 2) ⟨5, x0'.out.map eNode, x0'_z2, x0'_g2⟩)
def R_Q104 (x0 : PExprs) (x0_g2 : Nat) (x0_z2 : Bool) (x1 : List UInt8) (o : Option Int) (x0' : PExprs) (x0'_g2 : Nat) (x0'_z2 : Bool) : Prop := ∀ (S : Sto) (n0 : Nat) (t0 : Nat), (getBox S n0 t0).map (List.take 4) = some [.list 5 (x0.tokens.l.map eToken) false, .int .i64 x0.tokens.pos, .sl 0 (.cell t0 2) 0 x0.out.length x0.out.length x0_g2 false, .int .i64 x0.deep] ∧ getArr S n0 (.cell t0 2) = some ⟨5, x0.out.map eNode, x0_z2, x0_g2⟩ → call SP 104 [.ptr n0 t0 0, .str x1] S = po 116 o (.v (.tup [])) (setArr (setBox S n0 t0 ([.list 5 (x0'.tokens.l.map eToken) false, .int .i64 x0'.tokens.pos, .sl 0 (.cell t0 2) 0 x0'.out.length x0'.out.length x0'_g2 false, .int .i64 x0'.deep] ++ ((getBox S n0 t0).getD []).drop 4)) n0 (.cell t0 2) ⟨5, x0'.out.map eNode, x0'_z2, x0'_g2⟩)
def R_Q105 (x0 : PExprs) (x0_g2 : Nat) (x0_z2 : Bool) (x1 : Int) (x2 : List UInt8) (x3 : List Int) (r0 : Int) (x0' : PExprs) (x0'_g2 : Nat) (x0'_z2 : Bool) : Prop := ∀ (S : Sto) (n0 : Nat) (t0 : Nat), (getBox S n0 t0).map (List.take 4) = some [.list 5 (x0.tokens.l.map eToken) false, .int .i64 x0.tokens.pos, .sl 0 (.cell t0 2) 0 x0.out.length x0.out.length x0_g2 false, .int .i64 x0.deep] ∧ getArr S n0 (.cell t0 2) = some ⟨5, x0.out.map eNode, x0_z2, x0_g2⟩ → call SP 105 [.ptr n0 t0 0, .int .i64 x1, .str x2, .list 1 (x3.map eI) false] S = .ok (.v (.int .i64 r0)) (setArr (setBox S n0 t0 ([.list 5 (x0'.tokens.l.map eToken) false, .int .i64 x0'.tokens.pos, .sl 0 (.cell t0 2) 0 x0'.out.length x0'.out.length x0'_g2 false, .int .i64 x0'.deep] ++ ((getBox S n0 t0).getD []).drop 4)) n0 (.cell t0 2) ⟨5, x0'.out.map eNode, x0'_z2, x0'_g2⟩)
def R_Q134 (x0 : LText) (x1 : List Int) (r0 : List UInt8) (x0' : LText) : Prop := ∀ (S : Sto) (n0 : Nat) (t0 : Nat), (getBox S n0 t0).map (List.take 2) = some [.str x0.left, .int .i64 x0.pos] → call SP 134 [.ptr n0 t0 0, .list 1 (x1.map eI) false] S = .ok (.v (.str r0)) (setBox S n0 t0 ([.str x0'.left, .int .i64 x0'.pos] ++ ((getBox S n0 t0).getD []).drop 2))
def R_Q135 (x0 : LText) (x1 : Int) (r0 : List UInt8) (x0' : LText) : Prop := ∀ (S : Sto) (n0 : Nat) (t0 : Nat), (getBox S n0 t0).map (List.take 2) = some [.str x0.left, .int .i64 x0.pos] → call SP 135 [.ptr n0 t0 0, .int .i64 x1] S = .ok (.v (.str r0)) (setBox S n0 t0 ([.str x0'.left, .int .i64 x0'.pos] ++ ((getBox S n0 t0).getD []).drop 2))
def R_Q136 (x0 : LTokens) (x0_g2 : Nat) (x0_z2 : Bool) (r0 : Token) (r1 : Bool) (x0' : LTokens) (x0'_g2 : Nat) (x0'_z2 : Bool) : Prop := ∀ (S : Sto) (n0 : Nat) (t0 : Nat), (getBox S n0 t0).map (List.take 3) = some [.str x0.text.left, .int .i64 x0.text.pos, .sl 0 (.cell t0 2) 0 x0.out.length x0.out.length x0_g2 false] ∧ getArr S n0 (.cell t0 2) = some ⟨5, x0.out.map eToken, x0_z2, x0_g2⟩ → call SP 136 [.ptr n0 t0 0] S = .ok (.v (.tup [.agg [.int .i64 r0.Kind, .str r0.Text, .int .i64 r0.Num, .list 2 (r0.Parts.map ePart) false, .int .i64 r0.At], .bool r1])) (setArr (setBox S n0 t0 ([.str x0'.text.left, .int .i64 x0'.text.pos, .sl 0 (.cell t0 2) 0 x0'.out.length x0'.out.length x0'_g2 false] ++ ((getBox S n0 t0).getD []).drop 3)) n0 (.cell t0 2) ⟨5, x0'.out.map eToken, x0'_z2, x0'_g2⟩)
def R_Q138 (x0 : LTokens) (x0_g2 : Nat) (x0_z2 : Bool) (r0 : Token) (r1 : Bool) (x0' : LTokens) (x0'_g2 : Nat) (x0'_z2 : Bool) : Prop := ∀ (S : Sto) (n0 : Nat) (t0 : Nat), (getBox S n0 t0).map (List.take 3) = some [.str x0.text.left, .int .i64 x0.text.pos, .sl 0 (.cell t0 2) 0 x0.out.length x0.out.length x0_g2 false] ∧ getArr S n0 (.cell t0 2) = some ⟨5, x0.out.map eToken, x0_z2, x0_g2⟩ → call SP 138 [.ptr n0 t0 0] S = .ok (.v (.tup [.agg [.int .i64 r0.Kind, .str r0.Text, .int .i64 r0.Num, .list 2 (r0.Parts.map ePart) false, .int .i64 r0.At], .bool r1])) (setArr (setBox S n0 t0 ([.str x0'.text.left, .int .i64 x0'.text.pos, .sl 0 (.cell t0 2) 0 x0'.out.length x0'.out.length x0'_g2 false] ++ ((getBox S n0 t0).getD []).drop 3)) n0 (.cell t0 2) ⟨5, x0'.out.map eToken, x0'_z2, x0'_g2⟩)
def R_Q139 (x0 : LTokens) (x0_g2 : Nat) (x0_z2 : Bool) (r0 : Token) (r1 : Bool) (x0' : LTokens) (x0'_g2 : Nat) (x0'_z2 : Bool) : Prop := ∀ (S : Sto) (n0 : Nat) (t0 : Nat), (getBox S n0 t0).map (List.take 3) = some [.str x0.text.left, .int .i64 x0.text.pos, .sl 0 (.cell t0 2) 0 x0.out.length x0.out.length x0_g2 false] ∧ getArr S n0 (.cell t0 2) = some ⟨5, x0.out.map eToken, x0_z2, x0_g2⟩ → call SP 139 [.ptr n0 t0 0] S = .ok (.v (.tup [.agg [.int .i64 r0.Kind, .str r0.Text, .int .i64 r0.Num, .list 2 (r0.Parts.map ePart) false, .int .i64 r0.At], .bool r1])) (setArr (setBox S n0 t0 ([.str x0'.text.left, .int .i64 x0'.text.pos, .sl 0 (.cell t0 2) 0 x0'.out.length x0'.out.length x0'_g2 false] ++ ((getBox S n0 t0).getD []).drop 3)) n0 (.cell t0 2) ⟨5, x0'.out.map eToken, x0'_z2, x0'_g2⟩)
def R_Q140 (x0 : LTokens) (x0_g2 : Nat) (x0_z2 : Bool) (r0 : Token) (r1 : Bool) (x0' : LTokens) (x0'_g2 : Nat) (x0'_z2 : Bool) : Prop := ∀ (S : Sto) (n0 : Nat) (t0 : Nat), (getBox S n0 t0).map (List.take 3) = some [.str x0.text.left, .int .i64 x0.text.pos, .sl 0 (.cell t0 2) 0 x0.out.length x0.out.length x0_g2 false] ∧ getArr S n0 (.cell t0 2) = some ⟨5, x0.out.map eToken, x0_z2, x0_g2⟩ → call SP 140 [.ptr n0 t0 0] S = .ok (.v (.tup [.agg [.int .i64 r0.Kind, .str r0.Text, .int .i64 r0.Num, .list 2 (r0.Parts.map ePart) false, .int .i64 r0.At], .bool r1])) (setArr (setBox S n0 t0 ([.str x0'.text.left, .int .i64 x0'.text.pos, .sl 0 (.cell t0 2) 0 x0'.out.length x0'.out.length x0'_g2 false] ++ ((getBox S n0 t0).getD []).drop 3)) n0 (.cell t0 2) ⟨5, x0'.out.map eToken, x0'_z2, x0'_g2⟩)
def R_Q142 (x0 : PExprs) (x0_g2 : Nat) (x0_z2 : Bool) (o : Option Int) (r0 : Int) (x0' : PExprs) (x0'_g2 : Nat) (x0'_z2 : Bool) : Prop := ∀ (S : Sto) (n0 : Nat) (t0 : Nat), (getBox S n0 t0).map (List.take 4) = some [.list 5 (x0.tokens.l.map eToken) false, .int .i64 x0.tokens.pos, .sl 0 (.cell t0 2) 0 x0.out.length x0.out.length x0_g2 false, .int .i64 x0.deep] ∧ getArr S n0 (.cell t0 2) = some ⟨5, x0.out.map eNode, x0_z2, x0_g2⟩ → call SP 142 [.ptr n0 t0 0] S = po 116 o (.v (.int .i64 r0)) (setArr (setBox S n0 t0 ([.list 5 (x0'.tokens.l.map eToken) false, .int .i64 x0'.tokens.pos, .sl 0 (.cell t0 2) 0 x0'.out.length x0'.out.length x0'_g2 false, .int .i64 x0'.deep] ++ ((getBox S n0 t0).getD []).drop 4)) n0 (.cell t0 2) ⟨5, x0'.out.map eNode, x0'_z2, x0'_g2⟩)
def R_Q165 (x0 : List Part) (x0_g0 : Nat) (x0_z0 : Bool) (x1 : UInt8) (x0' : List Part) (x0'_g0 : Nat) (x0'_z0 : Bool) : Prop := ∀ (S : Sto) (n0 : Nat) (t0 : Nat), (getBox S n0 t0).map (List.take 1) = some [.sl 0 (.cell t0 0) 0 x0.length x0.length x0_g0 false] ∧ getArr S n0 (.cell t0 0) = some ⟨2, x0.map ePart, x0_z0, x0_g0⟩ → call SP 165 [.ptr n0 t0 0, .int .u8 ((x1.toNat : Nat) : Int)] S = .ok (.v (.tup [])) (setArr (setBox S n0 t0 ([.sl 0 (.cell t0 0) 0 x0'.length x0'.length x0'_g0 false] ++ ((getBox S n0 t0).getD []).drop 1)) n0 (.cell t0 0) ⟨2, x0'.map ePart, x0'_z0, x0'_g0⟩)
def R_Q167 (x0 : PExprs) (x0_g2 : Nat) (x0_z2 : Bool) (o : Option Int) (r0 : Int) (x0' : PExprs) (x0'_g2 : Nat) (x0'_z2 : Bool) : Prop := ∀ (S : Sto) (n0 : Nat) (t0 : Nat), (getBox S n0 t0).map (List.take 4) = some [.list 5 (x0.tokens.l.map eToken) false, .int .i64 x0.tokens.pos, .sl 0 (.cell t0 2) 0 x0.out.length x0.out.length x0_g2 false, .int .i64 x0.deep] ∧ getArr S n0 (.cell t0 2) = some ⟨5, x0.out.map eNode, x0_z2, x0_g2⟩ → call SP 167 [.ptr n0 t0 0] S = po 116 o (.v (.int .i64 r0)) (setArr (setBox S n0 t0 ([.list 5 (x0'.tokens.l.map eToken) false, .int .i64 x0'.tokens.pos, .sl 0 (.cell t0 2) 0 x0'.out.length x0'.out.length x0'_g2 false, .int .i64 x0'.deep] ++ ((getBox S n0 t0).getD []).drop 4)) n0 (.cell t0 2) ⟨5, x0'.out.map eNode, x0'_z2, x0'_g2⟩)
def R_Q180 (x0 : PExprs) (x0_g2 : Nat) (x0_z2 : Bool) (o : Option Int) (r0 : Int) (x0' : PExprs) (x0'_g2 : Nat) (x0'_z2 : Bool) : Prop := ∀ (S : Sto) (n0 : Nat) (t0 : Nat), (getBox S n0 t0).map (List.take 4) = some [.list 5 (x0.tokens.l.map eToken) false, .int .i64 x0.tokens.pos, .sl 0 (.cell t0 2) 0 x0.out.length x0.out.length x0_g2 false, .int .i64 x0.deep] ∧ getArr S n0 (.cell t0 2) = some ⟨5, x0.out.map eNode, x0_z2, x0_g2⟩ → call SP 180 [.ptr n0 t0 0] S = po 116 o (.v (.int .i64 r0)) (setArr (setBox S n0 t0 ([.list 5 (x0'.tokens.l.map eToken) false, .int .i64 x0'.tokens.pos, .sl 0 (.cell t0 2) 0 x0'.out.length x0'.out.length x0'_g2 false, .int .i64 x0'.deep] ++ ((getBox S n0 t0).getD []).drop 4)) n0 (.cell t0 2) ⟨5, x0'.out.map eNode, x0'_z2, x0'_g2⟩)
def R_Q181 (x0 : PExprs) (x0_g2 : Nat) (x0_z2 : Bool) (x1 : List UInt8) (o : Option Int) (x0' : PExprs) (x0'_g2 : Nat) (x0'_z2 : Bool) : Prop := ∀ (S : Sto) (n0 : Nat) (t0 : Nat), (getBox S n0 t0).map (List.take 4) = some [.list 5 (x0.tokens.l.map eToken) false, .int .i64 x0.tokens.pos, .sl 0 (.cell t0 2) 0 x0.out.length x0.out.length x0_g2 false, .int .i64 x0.deep] ∧ getArr S n0 (.cell t0 2) = some ⟨5, x0.out.map eNode, x0_z2, x0_g2⟩ → call SP 181 [.ptr n0 t0 0, .str x1] S = po 116 o (.v (.tup [])) (setArr (setBox S n0 t0 ([.list 5 (x0'.tokens.l.map eToken) false, .int .i64 x0'.tokens.pos, .sl 0 (.cell t0 2) 0 x0'.out.length x0'.out.length x0'_g2 false, .int .i64 x0'.deep] ++ ((getBox S n0 t0).getD []).drop 4)) n0 (.cell t0 2) ⟨5, x0'.out.map eNode, x0'_z2, x0'_g2⟩)
def R_Q201 (x0 : PExprs) (x0_g2 : Nat) (x0_z2 : Bool) (o : Option Int) (r0 : Int) (x0' : PExprs) (x0'_g2 : Nat) (x0'_z2 : Bool) : Prop := ∀ (S : Sto) (n0 : Nat) (t0 : Nat), (getBox S n0 t0).map (List.take 4) = some [.list 5 (x0.tokens.l.map eToken) false, .int .i64 x0.tokens.pos, .sl 0 (.cell t0 2) 0 x0.out.length x0.out.length x0_g2 false, .int .i64 x0.deep] ∧ getArr S n0 (.cell t0 2) = some ⟨5, x0.out.map eNode, x0_z2, x0_g2⟩ → call SP 201 [.ptr n0 t0 0] S = po 116 o (.v (.int .i64 r0)) (setArr (setBox S n0 t0 ([.list 5 (x0'.tokens.l.map eToken) false, .int .i64 x0'.tokens.pos, .sl 0 (.cell t0 2) 0 x0'.out.length x0'.out.length x0'_g2 false, .int .i64 x0'.deep] ++ ((getBox S n0 t0).getD []).drop 4)) n0 (.cell t0 2) ⟨5, x0'.out.map eNode, x0'_z2, x0'_g2⟩)
def R_Q202 (x0 : PExprs) (x0_g2 : Nat) (x0_z2 : Bool) (x1 : Int) (x2 : Int) (r0 : Int) (x0' : PExprs) (x0'_g2 : Nat) (x0'_z2 : Bool) : Prop := ∀ (S : Sto) (n0 : Nat) (t0 : Nat), (getBox S n0 t0).map (List.take 4) = some [.list 5 (x0.tokens.l.map eToken) false, .int .i64 x0.tokens.pos, .sl 0 (.cell t0 2) 0 x0.out.length x0.out.length x0_g2 false, .int .i64 x0.deep] ∧ getArr S n0 (.cell t0 2) = some ⟨5, x0.out.map eNode, x0_z2, x0_g2⟩ → call SP 202 [.ptr n0 t0 0, .int .i64 x1, .int .i64 x2] S = .ok (.v (.int .i64 r0)) (setArr (setBox S n0 t0 ([.list 5 (x0'.tokens.l.map eToken) false, .int .i64 x0'.tokens.pos, .sl 0 (.cell t0 2) 0 x0'.out.length x0'.out.length x0'_g2 false, .int .i64 x0'.deep] ++ ((getBox S n0 t0).getD []).drop 4)) n0 (.cell t0 2) ⟨5, x0'.out.map eNode, x0'_z2, x0'_g2⟩)
def R_Q203 (x0 : PExprs) (x0_g2 : Nat) (x0_z2 : Bool) (x1 : List UInt8) (o : Option Int) (r0 : List Int) (x0' : PExprs) (x0'_g2 : Nat) (x0'_z2 : Bool) : Prop := ∀ (S : Sto) (n0 : Nat) (t0 : Nat), (getBox S n0 t0).map (List.take 4) = some [.list 5 (x0.tokens.l.map eToken) false, .int .i64 x0.tokens.pos, .sl 0 (.cell t0 2) 0 x0.out.length x0.out.length x0_g2 false, .int .i64 x0.deep] ∧ getArr S n0 (.cell t0 2) = some ⟨5, x0.out.map eNode, x0_z2, x0_g2⟩ → call SP 203 [.ptr n0 t0 0, .str x1] S = po 116 o (.arr 1 (r0.map eI) false) (setArr (setBox S n0 t0 ([.list 5 (x0'.tokens.l.map eToken) false, .int .i64 x0'.tokens.pos, .sl 0 (.cell t0 2) 0 x0'.out.length x0'.out.length x0'_g2 false, .int .i64 x0'.deep] ++ ((getBox S n0 t0).getD []).drop 4)) n0 (.cell t0 2) ⟨5, x0'.out.map eNode, x0'_z2, x0'_g2⟩)
end Go.Proofs.YtfbcnpbhhooapaaGreatDoor.M
namespace Go.Proofs.YtfbcnpbhhooapaaGreatDoor.M
open Go
set_option linter.unusedVariables false
def c_slices_IndexFunc_api_Block_api_Block_1 : SC := .seq (.reg [⟨some 4, none, .v (.mov (.c (.int .i64 (-1))))⟩]) .ret
def b_slices_IndexFunc_api_Block_api_Block_1 : SC := .seq (.reg [⟨some 9, none, .v (.bin .lss (.t 8) (.t 7))⟩]) (.seq (.cond (.t 9) .skip (.exit 0)) (.seq (.block 1 (.seq (.reg [⟨some 10, none, .v (.mov (.t 8))⟩, ⟨some 5, none, .v (.mov (.t 10))⟩]) (.seq (.reg [⟨some 11, none, .v (.mov (.t 1))⟩, ⟨some 12, none, .v (.mov (.t 0))⟩, ⟨some 13, none, .v (.mov (.t 5))⟩, ⟨some 14, none, .v (.iaddr 4 (.t 12) (.t 13))⟩, ⟨some 15, none, .v (.load (some 4) (.t 14))⟩, ⟨some 16, none, .call (.t 11) [(.t 15)]⟩]) (.cond (.t 16) (.seq (.reg [⟨some 17, none, .v (.mov (.t 5))⟩, ⟨some 4, none, .v (.mov (.t 17))⟩]) .ret) .skip)))) (.reg [⟨some 18, none, .v (.bin .add (.t 8) (.c (.int .i64 1)))⟩, ⟨some 8, none, .v (.mov (.t 18))⟩])))
def sc_slices_IndexFunc_api_Block_api_Block : SFunc := ⟨2, 19, .seq (.reg [⟨some 4, none, .v (.mov (.c (.int .i64 0)))⟩]) (.seq (.seq (.reg [⟨some 6, none, .v (.mov (.t 0))⟩, ⟨some 7, none, .v (.len false (.t 6))⟩, ⟨some 8, none, .v (.mov (.c (.int .i64 0)))⟩]) (.block 0 (.loop b_slices_IndexFunc_api_Block_api_Block_1))) c_slices_IndexFunc_api_Block_api_Block_1), [(.t 4)]⟩
noncomputable def k_slices_IndexFunc_api_Block_api_Block_1 (SP : Prg) (x : EO) : CO := fin [(.t 4)] (thC SP (inBlk 0 (x)) c_slices_IndexFunc_api_Block_api_Block_1)
theorem U_slices_IndexFunc_api_Block_api_Block : type_of% (And.intro (ue c_slices_IndexFunc_api_Block_api_Block_1.eq_1) <| And.intro (ue b_slices_IndexFunc_api_Block_api_Block_1.eq_1) <| sc_slices_IndexFunc_api_Block_api_Block.eq_1) := And.intro (ue c_slices_IndexFunc_api_Block_api_Block_1.eq_1) <| And.intro (ue b_slices_IndexFunc_api_Block_api_Block_1.eq_1) <| sc_slices_IndexFunc_api_Block_api_Block.eq_1
theorem comp_slices_IndexFunc_api_Block_api_Block : comp Tryz.prog Tryz.f80 = some sc_slices_IndexFunc_api_Block_api_Block := by kernel_rfl
def sc_slices_ContainsFunc_api_Block_api_Block : SFunc := ⟨2, 9, .seq (.reg [⟨some 4, none, .v (.mov (.c (.bool false)))⟩]) (.seq (.reg [⟨some 5, none, .v (.mov (.t 0))⟩, ⟨some 6, none, .v (.mov (.t 1))⟩, ⟨some 7, none, .call (.c (.func 80 [])) [(.t 5), (.t 6)]⟩, ⟨some 8, none, .v (.bin .geq (.t 7) (.c (.int .i64 0)))⟩, ⟨some 4, none, .v (.mov (.t 8))⟩]) .ret), [(.t 4)]⟩
theorem U_slices_ContainsFunc_api_Block_api_Block : type_of% (sc_slices_ContainsFunc_api_Block_api_Block.eq_1) := sc_slices_ContainsFunc_api_Block_api_Block.eq_1
theorem comp_slices_ContainsFunc_api_Block_api_Block : comp Tryz.prog Tryz.f50 = some sc_slices_ContainsFunc_api_Block_api_Block := by kernel_rfl
def sc_Q30 : SFunc := ⟨1, 6, .seq (.reg [⟨some 2, none, .v (.mov (.c (.bool false)))⟩]) (.seq (.reg [⟨some 3, none, .v (.mov (.t 0))⟩, ⟨some 4, none, .call (.c (.func 50 [])) [(.t 3), (.c (.func 51 []))]⟩, ⟨some 5, none, .v (.un .not (.t 4))⟩, ⟨some 2, none, .v (.mov (.t 5))⟩]) .ret), [(.t 2)]⟩
theorem U_Q30 : type_of% (sc_Q30.eq_1) := sc_Q30.eq_1
theorem comp_Q30 : comp Tryz.prog Tryz.f30 = some sc_Q30 := by kernel_rfl
def sc_Q51 : SFunc := ⟨1, 6, .seq (.reg [⟨some 1, none, .box (.t 0)⟩, ⟨some 2, none, .v (.mov (.c (.bool false)))⟩]) (.seq (.reg [⟨some 3, none, .v (.load (some 4) (.t 1))⟩, ⟨some 4, none, .call (.c (.func 52 [])) [(.t 3), (.c (.bool false))]⟩, ⟨some 5, none, .v (.un .not (.t 4))⟩, ⟨some 2, none, .v (.mov (.t 5))⟩]) .ret), [(.t 2)]⟩
theorem U_Q51 : type_of% (sc_Q51.eq_1) := sc_Q51.eq_1
theorem comp_Q51 : comp Tryz.prog Tryz.f51 = some sc_Q51 := by kernel_rfl
def c_Q83 : SC := .seq (.reg [⟨some 39, none, .v (.mov (.t 1))⟩, ⟨some 40, none, .v (.un .not (.t 39))⟩, ⟨some 41, none, .v (.mov (.t 40))⟩, ⟨some 42, some (41, true), .v (.faddr 2 (.t 2))⟩, ⟨some 43, some (41, true), .v (.load none (.t 42))⟩, ⟨some 44, some (41, true), .v (.len false (.t 43))⟩, ⟨some 45, some (41, true), .v (.bin .eql (.t 44) (.c (.int .i64 0)))⟩, ⟨some 46, none, .v (.pick (.t 41) (.t 45) (.c (.bool false)))⟩, ⟨some 47, none, .v (.mov (.t 46))⟩, ⟨some 48, some (47, true), .v (.faddr 3 (.t 2))⟩, ⟨some 49, some (47, true), .v (.load none (.t 48))⟩, ⟨some 50, some (47, true), .call (.c (.func 50 [])) [(.t 49), (.c (.func 83 []))]⟩, ⟨some 51, some (47, true), .v (.un .not (.t 50))⟩, ⟨some 52, none, .v (.pick (.t 47) (.t 51) (.c (.bool false)))⟩, ⟨some 4, none, .v (.mov (.t 52))⟩]) .ret
def c_Q52_2 : SC := .seq (.seq (.reg [⟨some 27, none, .v (.faddr 0 (.t 2))⟩, ⟨some 28, none, .v (.load none (.t 27))⟩, ⟨some 29, none, .v (.bin .neq (.t 28) (.c (.int .i64 5)))⟩]) (.cond (.t 29) (.seq (.reg [⟨some 30, none, .v (.faddr 3 (.t 2))⟩, ⟨some 31, none, .v (.load none (.t 30))⟩, ⟨some 32, none, .v (.len false (.t 31))⟩, ⟨some 33, none, .v (.bin .eql (.t 32) (.c (.int .i64 0)))⟩, ⟨some 34, none, .v (.mov (.t 33))⟩, ⟨some 35, some (34, true), .v (.faddr 2 (.t 2))⟩, ⟨some 36, some (34, true), .v (.load none (.t 35))⟩, ⟨some 37, some (34, true), .call (.c (.func 82 [])) [(.t 36)]⟩, ⟨some 38, none, .v (.pick (.t 34) (.t 37) (.c (.bool false)))⟩, ⟨some 4, none, .v (.mov (.t 38))⟩]) .ret) .skip)) c_Q83
def c_Q52_3 : SC := .seq (.seq (.reg [⟨some 15, none, .v (.faddr 0 (.t 2))⟩, ⟨some 16, none, .v (.load none (.t 15))⟩, ⟨some 17, none, .v (.bin .lss (.t 16) (.c (.int .i64 1)))⟩, ⟨some 18, none, .v (.mov (.t 17))⟩, ⟨some 19, some (18, false), .v (.faddr 0 (.t 2))⟩, ⟨some 20, some (18, false), .v (.load none (.t 19))⟩, ⟨some 21, some (18, false), .v (.bin .gtr (.t 20) (.c (.int .i64 5)))⟩, ⟨some 22, none, .v (.pick (.t 18) (.c (.bool true)) (.t 21))⟩, ⟨some 23, none, .v (.mov (.t 22))⟩, ⟨some 24, some (23, false), .v (.mov (.t 5))⟩, ⟨some 25, some (23, false), .v (.un .not (.t 24))⟩, ⟨some 26, none, .v (.pick (.t 23) (.c (.bool true)) (.t 25))⟩]) (.cond (.t 26) (.seq (.reg [⟨some 4, none, .v (.mov (.c (.bool false)))⟩]) .ret) .skip)) c_Q52_2
def c_Q52_4 : SC := .seq (.seq (.reg [⟨some 9, none, .v (.faddr 0 (.t 2))⟩, ⟨some 10, none, .v (.load none (.t 9))⟩, ⟨some 11, none, .v (.bin .eql (.t 10) (.c (.int .i64 2)))⟩]) (.cond (.t 11) (.reg [⟨some 12, none, .v (.faddr 1 (.t 2))⟩, ⟨some 13, none, .v (.load none (.t 12))⟩, ⟨some 14, none, .v (.bin .eql (.t 13) (.c (.str [])))⟩, ⟨some 5, none, .v (.mov (.t 14))⟩]) .skip)) c_Q52_3
def c_Q52_5 : SC := .seq (.reg [⟨some 6, none, .v (.faddr 1 (.t 2))⟩, ⟨some 7, none, .v (.load none (.t 6))⟩, ⟨some 8, none, .call (.c (.func 81 [])) [(.t 7)]⟩, ⟨some 5, none, .v (.mov (.t 8))⟩]) c_Q52_4
def sc_Q52 : SFunc := ⟨2, 53, .seq (.reg [⟨some 2, none, .box (.t 0)⟩, ⟨some 4, none, .v (.mov (.c (.bool false)))⟩]) c_Q52_5, [(.t 4)]⟩
theorem U_Q52 : type_of% (And.intro (ue c_Q83.eq_1) <| And.intro (ue c_Q52_2.eq_1) <| And.intro (ue c_Q52_3.eq_1) <| And.intro (ue c_Q52_4.eq_1) <| And.intro (ue c_Q52_5.eq_1) <| sc_Q52.eq_1) := And.intro (ue c_Q83.eq_1) <| And.intro (ue c_Q52_2.eq_1) <| And.intro (ue c_Q52_3.eq_1) <| And.intro (ue c_Q52_4.eq_1) <| And.intro (ue c_Q52_5.eq_1) <| sc_Q52.eq_1
theorem comp_Q52 : comp Tryz.prog Tryz.f52 = some sc_Q52 := by kernel_rfl
def sc_Q83 : SFunc := ⟨1, 6, .seq (.reg [⟨some 1, none, .box (.t 0)⟩, ⟨some 2, none, .v (.mov (.c (.bool false)))⟩]) (.seq (.reg [⟨some 3, none, .v (.load (some 4) (.t 1))⟩, ⟨some 4, none, .call (.c (.func 52 [])) [(.t 3), (.c (.bool true))]⟩, ⟨some 5, none, .v (.un .not (.t 4))⟩, ⟨some 2, none, .v (.mov (.t 5))⟩]) .ret), [(.t 2)]⟩
theorem U_Q83 : type_of% (sc_Q83.eq_1) := sc_Q83.eq_1
theorem comp_Q83 : comp Tryz.prog Tryz.f83 = some sc_Q83 := by kernel_rfl
def c_Q121 : SC := .seq (.reg [⟨some 2, none, .v (.mov (.c (.bool true)))⟩]) .ret
def c_Q82_2 : SC := .seq (.block 1 (.seq (.reg [⟨some 9, none, .v (.mov (.t 7))⟩, ⟨some 10, none, .v (.iaddr 2 (.t 5) (.t 7))⟩, ⟨some 11, none, .v (.load (some 2) (.t 10))⟩, ⟨some 4, none, .alloc [(.str []), (.nils 5)]⟩, ⟨some 3, none, .v (.mov (.t 9))⟩, ⟨none, none, .store 2 (.t 4) (.t 11)⟩]) (.seq (.reg [⟨some 12, none, .v (.faddr 0 (.t 4))⟩, ⟨some 13, none, .v (.load none (.t 12))⟩, ⟨some 14, none, .call (.c (.func 115 [])) [(.t 13)]⟩, ⟨some 15, none, .v (.un .not (.t 14))⟩, ⟨some 16, none, .v (.mov (.t 15))⟩, ⟨some 17, some (16, false), .v (.faddr 1 (.t 4))⟩, ⟨some 18, some (16, false), .v (.load none (.t 17))⟩, ⟨some 19, some (16, false), .call (.c (.func 26 [])) [(.t 18)]⟩, ⟨some 20, some (16, false), .v (.un .not (.t 19))⟩, ⟨some 21, none, .v (.pick (.t 16) (.c (.bool true)) (.t 20))⟩, ⟨some 22, none, .v (.mov (.t 21))⟩, ⟨some 23, some (22, false), .v (.mov (.t 0))⟩, ⟨some 24, some (22, false), .v (.mov (.t 3))⟩, ⟨some 25, some (22, false), .v (.slc 2 (.t 23) none (some (.t 24)) none)⟩, ⟨some 26, some (22, false), .v (.func 121 [(.t 4)])⟩, ⟨some 27, some (22, false), .call (.c (.func 99 [])) [(.t 25), (.t 26)]⟩, ⟨some 28, none, .v (.pick (.t 22) (.c (.bool true)) (.t 27))⟩]) (.cond (.t 28) (.seq (.reg [⟨some 2, none, .v (.mov (.c (.bool false)))⟩]) .ret) .skip)))) (.reg [⟨some 29, none, .v (.bin .add (.t 7) (.c (.int .i64 1)))⟩, ⟨some 7, none, .v (.mov (.t 29))⟩])
def c_Q82_3 : SC := .seq (.cond (.t 8) .skip (.exit 0)) c_Q82_2
def b_Q121 : SC := .seq (.reg [⟨some 8, none, .v (.bin .lss (.t 7) (.t 6))⟩]) c_Q82_3
def c_Q82_4 : SC := .block 0 (.loop b_Q121)
def c_Q82_5 : SC := .seq (.seq (.reg [⟨some 5, none, .v (.mov (.t 0))⟩, ⟨some 6, none, .v (.len false (.t 5))⟩, ⟨some 7, none, .v (.mov (.c (.int .i64 0)))⟩]) c_Q82_4) c_Q121
def sc_Q82 : SFunc := ⟨1, 30, .seq (.reg [⟨some 2, none, .v (.mov (.c (.bool false)))⟩]) c_Q82_5, [(.t 2)]⟩
noncomputable def k_Q121 (SP : Prg) (x : EO) : CO := fin [(.t 2)] (thC SP (inBlk 0 (x)) c_Q121)
theorem U_Q82 : type_of% (And.intro (ue c_Q121.eq_1) <| And.intro (ue c_Q82_2.eq_1) <| And.intro (ue c_Q82_3.eq_1) <| And.intro (ue b_Q121.eq_1) <| And.intro (ue c_Q82_4.eq_1) <| And.intro (ue c_Q82_5.eq_1) <| sc_Q82.eq_1) := And.intro (ue c_Q121.eq_1) <| And.intro (ue c_Q82_2.eq_1) <| And.intro (ue c_Q82_3.eq_1) <| And.intro (ue b_Q121.eq_1) <| And.intro (ue c_Q82_4.eq_1) <| And.intro (ue c_Q82_5.eq_1) <| sc_Q82.eq_1
theorem comp_Q82 : comp Tryz.prog Tryz.f82 = some sc_Q82 := by kernel_rfl
def sc_Q121 : SFunc := ⟨2, 9, .seq (.reg [⟨some 2, none, .box (.t 0)⟩, ⟨some 3, none, .v (.mov (.c (.bool false)))⟩]) (.seq (.reg [⟨some 4, none, .v (.faddr 0 (.t 2))⟩, ⟨some 5, none, .v (.load none (.t 4))⟩, ⟨some 6, none, .v (.faddr 0 (.t 1))⟩, ⟨some 7, none, .v (.load none (.t 6))⟩, ⟨some 8, none, .v (.bin .eql (.t 5) (.t 7))⟩, ⟨some 3, none, .v (.mov (.t 8))⟩]) .ret), [(.t 3)]⟩
theorem U_Q121 : type_of% (sc_Q121.eq_1) := sc_Q121.eq_1
theorem comp_Q121 : comp Tryz.prog Tryz.f121 = some sc_Q121 := by kernel_rfl
def c_Q48_1 : SC := .seq (.reg [⟨some 2, none, .v (.mov (.c (.int .i64 (-2))))⟩]) .ret
def c_Q48_2 : SC := .cond (.t 10) (.seq (.reg [⟨some 2, none, .v (.mov (.c (.int .i64 (-1))))⟩]) .ret) (.seq (.reg [⟨some 18, none, .v (.mov (.t 0))⟩, ⟨some 19, none, .v (.bin .eql (.t 18) (.c (.int .i64 8)))⟩, ⟨some 20, none, .v (.mov (.t 19))⟩, ⟨some 21, some (20, false), .v (.mov (.t 0))⟩, ⟨some 22, some (20, false), .v (.bin .eql (.t 21) (.c (.int .i64 9)))⟩, ⟨some 23, none, .v (.pick (.t 20) (.c (.bool true)) (.t 22))⟩, ⟨some 17, none, .v (.mov (.t 23))⟩]) (.cond (.t 17) (.seq (.reg [⟨some 2, none, .v (.mov (.c (.int .i64 1)))⟩]) .ret) (.seq (.reg [⟨some 25, none, .v (.mov (.t 0))⟩, ⟨some 26, none, .v (.bin .eql (.t 25) (.c (.int .i64 10)))⟩, ⟨some 24, none, .v (.mov (.t 26))⟩]) (.cond (.t 24) (.seq (.reg [⟨some 2, none, .v (.mov (.c (.int .i64 3)))⟩]) .ret) (.seq (.reg [⟨some 28, none, .v (.mov (.t 0))⟩, ⟨some 29, none, .v (.bin .eql (.t 28) (.c (.int .i64 7)))⟩, ⟨some 30, none, .v (.mov (.t 29))⟩, ⟨some 31, some (30, false), .v (.mov (.t 0))⟩, ⟨some 32, some (30, false), .v (.bin .geq (.t 31) (.c (.int .i64 11)))⟩, ⟨some 33, some (30, false), .v (.mov (.t 32))⟩, ⟨some 34, some (33, true), .v (.mov (.t 0))⟩, ⟨some 35, some (33, true), .v (.bin .leq (.t 34) (.c (.int .i64 23)))⟩, ⟨some 36, some (30, false), .v (.pick (.t 33) (.t 35) (.c (.bool false)))⟩, ⟨some 37, none, .v (.pick (.t 30) (.c (.bool true)) (.t 36))⟩, ⟨some 27, none, .v (.mov (.t 37))⟩]) (.cond (.t 27) (.seq (.reg [⟨some 2, none, .v (.mov (.c (.int .i64 2)))⟩]) .ret) .skip))))))
def c_Q48_3 : SC := .cond (.t 3) (.seq (.reg [⟨some 2, none, .v (.mov (.c (.int .i64 0)))⟩]) .ret) (.seq (.reg [⟨some 11, none, .v (.mov (.t 0))⟩, ⟨some 12, none, .v (.bin .eql (.t 11) (.c (.int .i64 5)))⟩, ⟨some 13, none, .v (.mov (.t 12))⟩, ⟨some 14, some (13, false), .v (.mov (.t 0))⟩, ⟨some 15, some (13, false), .v (.bin .eql (.t 14) (.c (.int .i64 6)))⟩, ⟨some 16, none, .v (.pick (.t 13) (.c (.bool true)) (.t 15))⟩, ⟨some 10, none, .v (.mov (.t 16))⟩]) c_Q48_2)
def c_Q48_4 : SC := .seq (.block 0 (.seq (.reg [⟨some 4, none, .v (.mov (.t 0))⟩, ⟨some 5, none, .v (.bin .geq (.t 4) (.c (.int .i64 1)))⟩, ⟨some 6, none, .v (.mov (.t 5))⟩, ⟨some 7, some (6, true), .v (.mov (.t 0))⟩, ⟨some 8, some (6, true), .v (.bin .leq (.t 7) (.c (.int .i64 4)))⟩, ⟨some 9, none, .v (.pick (.t 6) (.t 8) (.c (.bool false)))⟩, ⟨some 3, none, .v (.mov (.t 9))⟩]) c_Q48_3)) c_Q48_1
def sc_Q48 : SFunc := ⟨1, 38, .seq (.reg [⟨some 2, none, .v (.mov (.c (.int .i64 0)))⟩]) c_Q48_4, [(.t 2)]⟩
theorem U_Q48 : type_of% (And.intro (ue c_Q48_1.eq_1) <| And.intro (ue c_Q48_2.eq_1) <| And.intro (ue c_Q48_3.eq_1) <| And.intro (ue c_Q48_4.eq_1) <| sc_Q48.eq_1) := And.intro (ue c_Q48_1.eq_1) <| And.intro (ue c_Q48_2.eq_1) <| And.intro (ue c_Q48_3.eq_1) <| And.intro (ue c_Q48_4.eq_1) <| sc_Q48.eq_1
theorem comp_Q48 : comp Tryz.prog Tryz.f48 = some sc_Q48 := by kernel_rfl
def c_Q76_1 : SC := .seq (.reg [⟨some 2, none, .v (.mov (.c (.bool true)))⟩]) .ret
def c_Q76_2 : SC := .reg [⟨some 9, none, .v (.mov (.t 3))⟩, ⟨some 10, none, .v (.bin .add (.t 9) (.c (.int .i64 1)))⟩, ⟨some 3, none, .v (.mov (.t 10))⟩]
def c_Q76_3 : SC := .seq (.block 3 (.seq (.reg [⟨some 52, none, .v (.mov (.t 0))⟩, ⟨some 53, none, .v (.mov (.t 3))⟩, ⟨some 54, none, .v (.iaddr 2 (.t 52) (.t 53))⟩, ⟨some 55, none, .v (.faddr 1 (.t 54))⟩, ⟨some 56, none, .v (.load none (.t 55))⟩, ⟨some 57, none, .v (.mov (.t 4))⟩, ⟨some 58, none, .v (.istr (.t 56) (.t 57))⟩, ⟨some 59, none, .v (.bin .lss (.t 58) (.c (.int .u8 32)))⟩, ⟨some 60, none, .v (.mov (.t 59))⟩, ⟨some 61, some (60, true), .v (.mov (.t 0))⟩, ⟨some 62, some (60, true), .v (.mov (.t 3))⟩, ⟨some 63, some (60, true), .v (.iaddr 2 (.t 61) (.t 62))⟩, ⟨some 64, some (60, true), .v (.faddr 1 (.t 63))⟩, ⟨some 65, some (60, true), .v (.load none (.t 64))⟩, ⟨some 66, some (60, true), .v (.mov (.t 4))⟩, ⟨some 67, some (60, true), .v (.istr (.t 65) (.t 66))⟩, ⟨some 68, some (60, true), .v (.bin .neq (.t 67) (.c (.int .u8 10)))⟩, ⟨some 69, none, .v (.pick (.t 60) (.t 68) (.c (.bool false)))⟩]) (.cond (.t 69) (.seq (.reg [⟨some 2, none, .v (.mov (.c (.bool false)))⟩]) .ret) .skip))) (.reg [⟨some 50, none, .v (.mov (.t 4))⟩, ⟨some 51, none, .v (.bin .add (.t 50) (.c (.int .i64 1)))⟩, ⟨some 4, none, .v (.mov (.t 51))⟩])
def b_Q76_2 : SC := .seq (.seq (.reg [⟨some 42, none, .v (.mov (.t 4))⟩, ⟨some 43, none, .v (.mov (.t 0))⟩, ⟨some 44, none, .v (.mov (.t 3))⟩, ⟨some 45, none, .v (.iaddr 2 (.t 43) (.t 44))⟩, ⟨some 46, none, .v (.faddr 1 (.t 45))⟩, ⟨some 47, none, .v (.load none (.t 46))⟩, ⟨some 48, none, .v (.len true (.t 47))⟩, ⟨some 49, none, .v (.bin .lss (.t 42) (.t 48))⟩]) (.cond (.t 49) .skip (.exit 2))) c_Q76_3
def c_Q76_4 : SC := .block 2 (.loop b_Q76_2)
def c_Q76_5 : SC := .seq (.reg [⟨some 4, none, .v (.mov (.c (.int .i64 0)))⟩]) c_Q76_4
def c_Q76_6 : SC := .seq (.seq (.reg [⟨some 23, none, .v (.mov (.t 0))⟩, ⟨some 24, none, .v (.mov (.t 3))⟩, ⟨some 25, none, .v (.iaddr 2 (.t 23) (.t 24))⟩, ⟨some 26, none, .v (.faddr 1 (.t 25))⟩, ⟨some 27, none, .v (.load none (.t 26))⟩, ⟨some 28, none, .v (.bin .eql (.t 27) (.c (.str [])))⟩, ⟨some 29, none, .v (.mov (.t 28))⟩, ⟨some 30, some (29, false), .v (.mov (.t 3))⟩, ⟨some 31, some (29, false), .v (.bin .gtr (.t 30) (.c (.int .i64 0)))⟩, ⟨some 32, some (29, false), .v (.mov (.t 31))⟩, ⟨some 33, some (32, true), .v (.mov (.t 0))⟩, ⟨some 34, some (32, true), .v (.mov (.t 3))⟩, ⟨some 35, some (32, true), .v (.bin .sub (.t 34) (.c (.int .i64 1)))⟩, ⟨some 36, some (32, true), .v (.iaddr 2 (.t 33) (.t 35))⟩, ⟨some 37, some (32, true), .v (.faddr 0 (.t 36))⟩, ⟨some 38, some (32, true), .v (.load none (.t 37))⟩, ⟨some 39, some (32, true), .v (.un .not (.t 38))⟩, ⟨some 40, some (29, false), .v (.pick (.t 32) (.t 39) (.c (.bool false)))⟩, ⟨some 41, none, .v (.pick (.t 29) (.c (.bool true)) (.t 40))⟩]) (.cond (.t 41) (.seq (.reg [⟨some 2, none, .v (.mov (.c (.bool false)))⟩]) .ret) .skip)) c_Q76_5
def c_Q76_7 : SC := .seq (.block 1 (.seq (.seq (.reg [⟨some 11, none, .v (.mov (.t 0))⟩, ⟨some 12, none, .v (.mov (.t 3))⟩, ⟨some 13, none, .v (.iaddr 2 (.t 11) (.t 12))⟩, ⟨some 14, none, .v (.faddr 0 (.t 13))⟩, ⟨some 15, none, .v (.load none (.t 14))⟩]) (.cond (.t 15) (.seq (.seq (.reg [⟨some 16, none, .v (.mov (.t 0))⟩, ⟨some 17, none, .v (.mov (.t 3))⟩, ⟨some 18, none, .v (.iaddr 2 (.t 16) (.t 17))⟩, ⟨some 19, none, .v (.faddr 1 (.t 18))⟩, ⟨some 20, none, .v (.load none (.t 19))⟩, ⟨some 21, none, .call (.c (.func 78 [])) [(.t 20)]⟩, ⟨some 22, none, .v (.un .not (.t 21))⟩]) (.cond (.t 22) (.seq (.reg [⟨some 2, none, .v (.mov (.c (.bool false)))⟩]) .ret) .skip)) (.exit 1)) .skip)) c_Q76_6)) c_Q76_2
def b_Q76_1 : SC := .seq (.seq (.reg [⟨some 5, none, .v (.mov (.t 3))⟩, ⟨some 6, none, .v (.mov (.t 0))⟩, ⟨some 7, none, .v (.len false (.t 6))⟩, ⟨some 8, none, .v (.bin .lss (.t 5) (.t 7))⟩]) (.cond (.t 8) .skip (.exit 0))) c_Q76_7
def c_Q76_8 : SC := .block 0 (.loop b_Q76_1)
def c_Q76_9 : SC := .seq (.seq (.reg [⟨some 3, none, .v (.mov (.c (.int .i64 0)))⟩]) c_Q76_8) c_Q76_1
def sc_Q76 : SFunc := ⟨1, 70, .seq (.reg [⟨some 2, none, .v (.mov (.c (.bool false)))⟩]) c_Q76_9, [(.t 2)]⟩
noncomputable def k_Q76_2 (SP : Prg) (x : EO) : CO := fin [(.t 2)] (thC SP (inBlk 0 (thC SP (thC SP (inBlk 1 (inBlk 2 (x))) c_Q76_2) (.loop b_Q76_1))) c_Q76_1)
noncomputable def k_Q76_1 (SP : Prg) (x : EO) : CO := fin [(.t 2)] (thC SP (inBlk 0 (x)) c_Q76_1)
theorem U_Q76 : type_of% (And.intro (ue c_Q76_1.eq_1) <| And.intro (ue c_Q76_2.eq_1) <| And.intro (ue c_Q76_3.eq_1) <| And.intro (ue b_Q76_2.eq_1) <| And.intro (ue c_Q76_4.eq_1) <| And.intro (ue c_Q76_5.eq_1) <| And.intro (ue c_Q76_6.eq_1) <| And.intro (ue c_Q76_7.eq_1) <| And.intro (ue b_Q76_1.eq_1) <| And.intro (ue c_Q76_8.eq_1) <| And.intro (ue c_Q76_9.eq_1) <| sc_Q76.eq_1) := And.intro (ue c_Q76_1.eq_1) <| And.intro (ue c_Q76_2.eq_1) <| And.intro (ue c_Q76_3.eq_1) <| And.intro (ue b_Q76_2.eq_1) <| And.intro (ue c_Q76_4.eq_1) <| And.intro (ue c_Q76_5.eq_1) <| And.intro (ue c_Q76_6.eq_1) <| And.intro (ue c_Q76_7.eq_1) <| And.intro (ue b_Q76_1.eq_1) <| And.intro (ue c_Q76_8.eq_1) <| And.intro (ue c_Q76_9.eq_1) <| sc_Q76.eq_1
theorem comp_Q76 : comp Tryz.prog Tryz.f76 = some sc_Q76 := by kernel_rfl
def c_Q49_1 : SC := .seq (.reg [⟨some 2, none, .v (.mov (.c (.bool true)))⟩]) .ret
def c_Q49_2 : SC := .cond (.t 65) (.seq (.dreg [⟨some 67, none, .v (.faddr 2 (.t 1))⟩, ⟨some 68, none, .v (.load none (.t 67))⟩, ⟨some 69, none, .v (.faddr 2 (.t 1))⟩, ⟨some 70, none, .v (.load none (.t 69))⟩, ⟨some 71, none, .call (.c (.func 77 [])) [(.t 70), (.c (.int .i64 0))]⟩, ⟨some 72, none, .v (.sls (.t 68) none (some (.t 71)))⟩, ⟨some 3, none, .v (.mov (.t 72))⟩] [false, false, false, false, false, true, true]) (.seq (.reg [⟨some 73, none, .v (.faddr 2 (.t 1))⟩, ⟨some 74, none, .v (.load none (.t 73))⟩, ⟨some 75, none, .call (.c (.func 78 [])) [(.t 74)]⟩, ⟨some 76, none, .v (.mov (.t 75))⟩, ⟨some 77, some (76, true), .v (.mov (.t 3))⟩, ⟨some 78, some (76, true), .v (.bin .neq (.t 77) (.c (.str [116, 114, 117, 101])))⟩, ⟨some 79, none, .v (.pick (.t 76) (.t 78) (.c (.bool false)))⟩, ⟨some 80, none, .v (.mov (.t 79))⟩, ⟨some 81, some (80, true), .v (.mov (.t 3))⟩, ⟨some 82, some (80, true), .v (.bin .neq (.t 81) (.c (.str [102, 97, 108, 115, 101])))⟩, ⟨some 83, none, .v (.pick (.t 80) (.t 82) (.c (.bool false)))⟩, ⟨some 2, none, .v (.mov (.t 83))⟩]) .ret)) (.seq (.reg [⟨some 85, none, .v (.bin .eql (.t 44) (.c (.int .i64 5)))⟩, ⟨some 84, none, .v (.mov (.t 85))⟩]) (.cond (.t 84) (.seq (.reg [⟨some 86, none, .v (.faddr 2 (.t 1))⟩, ⟨some 87, none, .v (.load none (.t 86))⟩, ⟨some 88, none, .call (.c (.func 79 [])) [(.t 87)]⟩, ⟨some 89, none, .v (.mov (.t 88))⟩, ⟨some 90, some (89, true), .v (.faddr 2 (.t 1))⟩, ⟨some 91, some (89, true), .v (.load none (.t 90))⟩, ⟨some 92, some (89, true), .v (.bin .neq (.t 91) (.c (.str [116, 114, 117, 101])))⟩, ⟨some 93, none, .v (.pick (.t 89) (.t 92) (.c (.bool false)))⟩, ⟨some 94, none, .v (.mov (.t 93))⟩, ⟨some 95, some (94, true), .v (.faddr 2 (.t 1))⟩, ⟨some 96, some (94, true), .v (.load none (.t 95))⟩, ⟨some 97, some (94, true), .v (.bin .neq (.t 96) (.c (.str [102, 97, 108, 115, 101])))⟩, ⟨some 98, none, .v (.pick (.t 94) (.t 97) (.c (.bool false)))⟩, ⟨some 2, none, .v (.mov (.t 98))⟩]) .ret) .skip))
def c_Q49_3 : SC := .cond (.t 60) (.seq (.reg [⟨some 62, none, .v (.faddr 3 (.t 1))⟩, ⟨some 63, none, .v (.load none (.t 62))⟩, ⟨some 64, none, .call (.c (.func 76 [])) [(.t 63)]⟩, ⟨some 2, none, .v (.mov (.t 64))⟩]) .ret) (.seq (.reg [⟨some 66, none, .v (.bin .eql (.t 44) (.c (.int .i64 4)))⟩, ⟨some 65, none, .v (.mov (.t 66))⟩]) c_Q49_2)
def c_Q49_4 : SC := .cond (.t 50) (.seq (.reg [⟨some 52, none, .v (.faddr 1 (.t 1))⟩, ⟨some 53, none, .v (.load none (.t 52))⟩, ⟨some 54, none, .v (.bin .eql (.t 53) (.c (.int .i64 0)))⟩, ⟨some 55, none, .v (.mov (.t 54))⟩, ⟨some 56, some (55, false), .v (.faddr 1 (.t 1))⟩, ⟨some 57, some (55, false), .v (.load none (.t 56))⟩, ⟨some 58, some (55, false), .v (.bin .eql (.t 57) (.c (.int .i64 1)))⟩, ⟨some 59, none, .v (.pick (.t 55) (.c (.bool true)) (.t 58))⟩, ⟨some 2, none, .v (.mov (.t 59))⟩]) .ret) (.seq (.reg [⟨some 61, none, .v (.bin .eql (.t 44) (.c (.int .i64 2)))⟩, ⟨some 60, none, .v (.mov (.t 61))⟩]) c_Q49_3)
def c_Q49_5 : SC := .cond (.t 45) (.seq (.reg [⟨some 47, none, .v (.faddr 1 (.t 1))⟩, ⟨some 48, none, .v (.load none (.t 47))⟩, ⟨some 49, none, .v (.bin .geq (.t 48) (.c (.int .i64 0)))⟩, ⟨some 2, none, .v (.mov (.t 49))⟩]) .ret) (.seq (.reg [⟨some 51, none, .v (.bin .eql (.t 44) (.c (.int .i64 3)))⟩, ⟨some 50, none, .v (.mov (.t 51))⟩]) c_Q49_4)
def c_Q49_6 : SC := .block 0 (.seq (.reg [⟨some 46, none, .v (.bin .eql (.t 44) (.c (.int .i64 1)))⟩, ⟨some 45, none, .v (.mov (.t 46))⟩]) c_Q49_5)
def c_Q49_7 : SC := .seq (.seq (.reg [⟨some 43, none, .v (.faddr 0 (.t 1))⟩, ⟨some 44, none, .v (.load none (.t 43))⟩]) c_Q49_6) c_Q49_1
def c_Q49_8 : SC := .cond (.t 42) (.seq (.reg [⟨some 2, none, .v (.mov (.c (.bool false)))⟩]) .ret) .skip
def c_Q49_9 : SC := .seq (.seq (.reg [⟨some 4, none, .v (.faddr 0 (.t 1))⟩, ⟨some 5, none, .v (.load none (.t 4))⟩, ⟨some 6, none, .v (.bin .neq (.t 5) (.c (.int .i64 1)))⟩, ⟨some 7, none, .v (.mov (.t 6))⟩, ⟨some 8, some (7, true), .v (.faddr 0 (.t 1))⟩, ⟨some 9, some (7, true), .v (.load none (.t 8))⟩, ⟨some 10, some (7, true), .v (.bin .neq (.t 9) (.c (.int .i64 3)))⟩, ⟨some 11, none, .v (.pick (.t 7) (.t 10) (.c (.bool false)))⟩, ⟨some 12, none, .v (.mov (.t 11))⟩, ⟨some 13, some (12, true), .v (.faddr 1 (.t 1))⟩, ⟨some 14, some (12, true), .v (.load none (.t 13))⟩, ⟨some 15, some (12, true), .v (.bin .neq (.t 14) (.c (.int .i64 0)))⟩, ⟨some 16, none, .v (.pick (.t 12) (.t 15) (.c (.bool false)))⟩, ⟨some 17, none, .v (.mov (.t 16))⟩, ⟨some 18, some (17, false), .v (.faddr 0 (.t 1))⟩, ⟨some 19, some (17, false), .v (.load none (.t 18))⟩, ⟨some 20, some (17, false), .v (.bin .neq (.t 19) (.c (.int .i64 4)))⟩, ⟨some 21, some (17, false), .v (.mov (.t 20))⟩, ⟨some 22, some (21, true), .v (.faddr 0 (.t 1))⟩, ⟨some 23, some (21, true), .v (.load none (.t 22))⟩, ⟨some 24, some (21, true), .v (.bin .neq (.t 23) (.c (.int .i64 5)))⟩, ⟨some 25, some (17, false), .v (.pick (.t 21) (.t 24) (.c (.bool false)))⟩, ⟨some 26, some (17, false), .v (.mov (.t 25))⟩, ⟨some 27, some (26, true), .v (.faddr 2 (.t 1))⟩, ⟨some 28, some (26, true), .v (.load none (.t 27))⟩, ⟨some 29, some (26, true), .v (.bin .neq (.t 28) (.c (.str [])))⟩, ⟨some 30, some (17, false), .v (.pick (.t 26) (.t 29) (.c (.bool false)))⟩, ⟨some 31, none, .v (.pick (.t 17) (.c (.bool true)) (.t 30))⟩, ⟨some 32, none, .v (.mov (.t 31))⟩, ⟨some 33, some (32, false), .v (.faddr 0 (.t 1))⟩, ⟨some 34, some (32, false), .v (.load none (.t 33))⟩, ⟨some 35, some (32, false), .v (.bin .neq (.t 34) (.c (.int .i64 2)))⟩, ⟨some 36, some (32, false), .v (.mov (.t 35))⟩, ⟨some 37, some (36, true), .v (.faddr 3 (.t 1))⟩, ⟨some 38, some (36, true), .v (.load none (.t 37))⟩, ⟨some 39, some (36, true), .v (.len false (.t 38))⟩, ⟨some 40, some (36, true), .v (.bin .gtr (.t 39) (.c (.int .i64 0)))⟩, ⟨some 41, some (32, false), .v (.pick (.t 36) (.t 40) (.c (.bool false)))⟩, ⟨some 42, none, .v (.pick (.t 32) (.c (.bool true)) (.t 41))⟩]) c_Q49_8) c_Q49_7
def sc_Q49 : SFunc := ⟨1, 99, .seq (.reg [⟨some 1, none, .box (.t 0)⟩, ⟨some 2, none, .v (.mov (.c (.bool false)))⟩]) c_Q49_9, [(.t 2)]⟩
theorem U_Q49 : type_of% (And.intro (ue c_Q49_1.eq_1) <| And.intro (ue c_Q49_2.eq_1) <| And.intro (ue c_Q49_3.eq_1) <| And.intro (ue c_Q49_4.eq_1) <| And.intro (ue c_Q49_5.eq_1) <| And.intro (ue c_Q49_6.eq_1) <| And.intro (ue c_Q49_7.eq_1) <| And.intro (ue c_Q49_8.eq_1) <| And.intro (ue c_Q49_9.eq_1) <| sc_Q49.eq_1) := And.intro (ue c_Q49_1.eq_1) <| And.intro (ue c_Q49_2.eq_1) <| And.intro (ue c_Q49_3.eq_1) <| And.intro (ue c_Q49_4.eq_1) <| And.intro (ue c_Q49_5.eq_1) <| And.intro (ue c_Q49_6.eq_1) <| And.intro (ue c_Q49_7.eq_1) <| And.intro (ue c_Q49_8.eq_1) <| And.intro (ue c_Q49_9.eq_1) <| sc_Q49.eq_1
theorem comp_Q49 : comp Tryz.prog Tryz.f49 = some sc_Q49 := by kernel_rfl
def c_Q29_1 : SC := .seq (.reg [⟨some 79, none, .v (.mov (.t 3))⟩, ⟨some 80, none, .v (.len false (.t 79))⟩, ⟨some 81, none, .v (.bin .eql (.t 80) (.c (.int .i64 1)))⟩, ⟨some 2, none, .v (.mov (.t 81))⟩]) .ret
def c_Q29_2 : SC := .reg [⟨some 12, none, .v (.mov (.t 4))⟩, ⟨some 13, none, .v (.bin .add (.t 12) (.c (.int .i64 1)))⟩, ⟨some 4, none, .v (.mov (.t 13))⟩]
def c_Q29_3 : SC := .reg [⟨some 66, none, .v (.mov (.t 3))⟩, ⟨some 67, none, .v (.mov (.t 3))⟩, ⟨some 68, none, .v (.len false (.t 67))⟩, ⟨some 69, none, .v (.mov (.t 6))⟩, ⟨some 70, none, .v (.bin .sub (.t 68) (.t 69))⟩, ⟨some 71, none, .v (.mov (.t 3))⟩, ⟨some 72, none, .v (.len false (.t 71))⟩, ⟨some 73, none, .v (.mov (.t 6))⟩, ⟨some 74, none, .v (.bin .sub (.t 72) (.t 73))⟩, ⟨some 75, none, .v (.slc 1 (.t 66) none (some (.t 70)) (some (.t 74)))⟩, ⟨some 76, none, .v (.mov (.t 4))⟩, ⟨some 77, none, .bslice 1 1 [(.int .i64 0)] [(0, (.t 76))]⟩, ⟨some 78, none, .append 1 8 (.t 75) (.t 77)⟩, ⟨some 3, none, .v (.mov (.t 78))⟩]
def b_Q29_2 : SC := .seq (.seq (.reg [⟨some 46, none, .v (.mov (.t 7))⟩, ⟨some 47, none, .v (.mov (.t 6))⟩, ⟨some 48, none, .v (.bin .lss (.t 46) (.t 47))⟩]) (.cond (.t 48) .skip (.exit 2))) (.seq (.block 3 (.seq (.dreg [⟨some 51, none, .v (.mov (.t 3))⟩, ⟨some 52, none, .v (.mov (.t 3))⟩, ⟨some 53, none, .v (.len false (.t 52))⟩, ⟨some 54, none, .v (.mov (.t 6))⟩, ⟨some 55, none, .v (.bin .sub (.t 53) (.t 54))⟩, ⟨some 56, none, .v (.mov (.t 7))⟩, ⟨some 57, none, .v (.bin .add (.t 55) (.t 56))⟩, ⟨some 58, none, .v (.iaddr 1 (.t 51) (.t 57))⟩, ⟨some 59, none, .v (.load none (.t 58))⟩, ⟨some 60, none, .v (.faddr 4 (.t 5))⟩, ⟨some 61, none, .v (.load none (.t 60))⟩, ⟨some 62, none, .v (.mov (.t 7))⟩, ⟨some 63, none, .v (.iaddr 1 (.t 61) (.t 62))⟩, ⟨some 64, none, .v (.load none (.t 63))⟩, ⟨some 65, none, .v (.bin .neq (.t 59) (.t 64))⟩] [false, false, false, false, false, false, false, false, false, false, false, false, false, false, true]) (.cond (.t 65) (.seq (.reg [⟨some 2, none, .v (.mov (.c (.bool false)))⟩]) .ret) .skip))) (.reg [⟨some 49, none, .v (.mov (.t 7))⟩, ⟨some 50, none, .v (.bin .add (.t 49) (.c (.int .i64 1)))⟩, ⟨some 7, none, .v (.mov (.t 50))⟩]))
def c_Q29_4 : SC := .seq (.seq (.reg [⟨some 7, none, .v (.mov (.c (.int .i64 0)))⟩]) (.block 2 (.loop b_Q29_2))) c_Q29_3
def c_Q29_5 : SC := .seq (.seq (.reg [⟨some 26, none, .v (.mov (.t 6))⟩, ⟨some 27, none, .v (.bin .lss (.t 26) (.c (.int .i64 0)))⟩, ⟨some 28, none, .v (.mov (.t 27))⟩, ⟨some 29, some (28, false), .v (.mov (.t 6))⟩, ⟨some 30, some (28, false), .v (.faddr 4 (.t 5))⟩, ⟨some 31, some (28, false), .v (.load none (.t 30))⟩, ⟨some 32, some (28, false), .v (.len false (.t 31))⟩, ⟨some 33, some (28, false), .v (.bin .neq (.t 29) (.t 32))⟩, ⟨some 34, none, .v (.pick (.t 28) (.c (.bool true)) (.t 33))⟩, ⟨some 35, none, .v (.mov (.t 34))⟩, ⟨some 36, some (35, false), .v (.mov (.t 6))⟩, ⟨some 37, some (35, false), .v (.mov (.t 3))⟩, ⟨some 38, some (35, false), .v (.len false (.t 37))⟩, ⟨some 39, some (35, false), .v (.bin .gtr (.t 36) (.t 38))⟩, ⟨some 40, none, .v (.pick (.t 35) (.c (.bool true)) (.t 39))⟩, ⟨some 41, none, .v (.mov (.t 40))⟩, ⟨some 42, some (41, false), .v (.load (some 5) (.t 5))⟩, ⟨some 43, some (41, false), .call (.c (.func 49 [])) [(.t 42)]⟩, ⟨some 44, some (41, false), .v (.un .not (.t 43))⟩, ⟨some 45, none, .v (.pick (.t 41) (.c (.bool true)) (.t 44))⟩]) (.cond (.t 45) (.seq (.reg [⟨some 2, none, .v (.mov (.c (.bool false)))⟩]) .ret) .skip)) c_Q29_4
def c_Q29_6 : SC := .seq (.seq (.reg [⟨some 21, none, .v (.mov (.t 6))⟩, ⟨some 22, none, .v (.bin .eql (.t 21) (.c (.int .i64 (-1))))⟩]) (.cond (.t 22) (.reg [⟨some 23, none, .v (.faddr 4 (.t 5))⟩, ⟨some 24, none, .v (.load none (.t 23))⟩, ⟨some 25, none, .v (.len false (.t 24))⟩, ⟨some 6, none, .v (.mov (.t 25))⟩]) .skip)) c_Q29_5
def c_Q29_7 : SC := .seq (.reg [⟨some 18, none, .v (.faddr 0 (.t 5))⟩, ⟨some 19, none, .v (.load none (.t 18))⟩, ⟨some 20, none, .call (.c (.func 48 [])) [(.t 19)]⟩, ⟨some 6, none, .v (.mov (.t 20))⟩]) c_Q29_6
def c_Q29_8 : SC := .seq (.block 1 (.seq (.reg [⟨some 14, none, .v (.mov (.t 0))⟩, ⟨some 15, none, .v (.mov (.t 4))⟩, ⟨some 16, none, .v (.iaddr 5 (.t 14) (.t 15))⟩, ⟨some 17, none, .v (.load (some 5) (.t 16))⟩, ⟨some 5, none, .alloc [(.int .i64 0), (.int .i64 0), (.str []), (.nils 2), (.nils 1)]⟩, ⟨none, none, .store 5 (.t 5) (.t 17)⟩]) c_Q29_7)) c_Q29_2
def b_Q29_1 : SC := .seq (.seq (.reg [⟨some 8, none, .v (.mov (.t 4))⟩, ⟨some 9, none, .v (.mov (.t 0))⟩, ⟨some 10, none, .v (.len false (.t 9))⟩, ⟨some 11, none, .v (.bin .lss (.t 8) (.t 10))⟩]) (.cond (.t 11) .skip (.exit 0))) c_Q29_8
def c_Q29_9 : SC := .block 0 (.loop b_Q29_1)
def c_Q29_10 : SC := .seq (.seq (.reg [⟨some 4, none, .v (.mov (.c (.int .i64 0)))⟩]) c_Q29_9) c_Q29_1
def c_Q29_11 : SC := .seq (.reg [⟨some 3, none, .nilv 1⟩]) c_Q29_10
def sc_Q29 : SFunc := ⟨1, 82, .seq (.reg [⟨some 2, none, .v (.mov (.c (.bool false)))⟩]) c_Q29_11, [(.t 2)]⟩
noncomputable def k_Q29_2 (SP : Prg) (x : EO) : CO := fin [(.t 2)] (thC SP (inBlk 0 (thC SP (thC SP (inBlk 1 (thC SP (inBlk 2 (x)) c_Q29_3)) c_Q29_2) (.loop b_Q29_1))) c_Q29_1)
noncomputable def k_Q29_1 (SP : Prg) (x : EO) : CO := fin [(.t 2)] (thC SP (inBlk 0 (x)) c_Q29_1)
theorem U_Q29 : type_of% (And.intro (ue c_Q29_1.eq_1) <| And.intro (ue c_Q29_2.eq_1) <| And.intro (ue c_Q29_3.eq_1) <| And.intro (ue b_Q29_2.eq_1) <| And.intro (ue c_Q29_4.eq_1) <| And.intro (ue c_Q29_5.eq_1) <| And.intro (ue c_Q29_6.eq_1) <| And.intro (ue c_Q29_7.eq_1) <| And.intro (ue c_Q29_8.eq_1) <| And.intro (ue b_Q29_1.eq_1) <| And.intro (ue c_Q29_9.eq_1) <| And.intro (ue c_Q29_10.eq_1) <| And.intro (ue c_Q29_11.eq_1) <| sc_Q29.eq_1) := And.intro (ue c_Q29_1.eq_1) <| And.intro (ue c_Q29_2.eq_1) <| And.intro (ue c_Q29_3.eq_1) <| And.intro (ue b_Q29_2.eq_1) <| And.intro (ue c_Q29_4.eq_1) <| And.intro (ue c_Q29_5.eq_1) <| And.intro (ue c_Q29_6.eq_1) <| And.intro (ue c_Q29_7.eq_1) <| And.intro (ue c_Q29_8.eq_1) <| And.intro (ue b_Q29_1.eq_1) <| And.intro (ue c_Q29_9.eq_1) <| And.intro (ue c_Q29_10.eq_1) <| And.intro (ue c_Q29_11.eq_1) <| sc_Q29.eq_1
theorem comp_Q29 : comp Tryz.prog Tryz.f29 = some sc_Q29 := by kernel_rfl
def c_Q84_1 : SC := .seq (.reg [⟨some 95, none, .v (.faddr 3 (.t 2))⟩, ⟨some 96, none, .v (.load none (.t 95))⟩, ⟨some 97, none, .v (.len false (.t 96))⟩, ⟨some 98, none, .v (.bin .eql (.t 97) (.c (.int .i64 0)))⟩, ⟨some 4, none, .v (.mov (.t 98))⟩]) .ret
def c_Q84_2 : SC := .reg [⟨some 57, none, .v (.mov (.t 5))⟩, ⟨some 58, none, .v (.bin .add (.t 57) (.c (.int .i64 1)))⟩, ⟨some 5, none, .v (.mov (.t 58))⟩]
def b_Q84_2 : SC := .seq (.seq (.reg [⟨some 77, none, .v (.mov (.t 6))⟩, ⟨some 78, none, .v (.mov (.t 5))⟩, ⟨some 79, none, .v (.bin .lss (.t 77) (.t 78))⟩]) (.cond (.t 79) .skip (.exit 2))) (.seq (.block 3 (.seq (.dreg [⟨some 82, none, .v (.faddr 2 (.t 2))⟩, ⟨some 83, none, .v (.load none (.t 82))⟩, ⟨some 84, none, .v (.mov (.t 6))⟩, ⟨some 85, none, .v (.iaddr 2 (.t 83) (.t 84))⟩, ⟨some 86, none, .v (.faddr 0 (.t 85))⟩, ⟨some 87, none, .v (.load none (.t 86))⟩, ⟨some 88, none, .v (.faddr 2 (.t 2))⟩, ⟨some 89, none, .v (.load none (.t 88))⟩, ⟨some 90, none, .v (.mov (.t 5))⟩, ⟨some 91, none, .v (.iaddr 2 (.t 89) (.t 90))⟩, ⟨some 92, none, .v (.faddr 0 (.t 91))⟩, ⟨some 93, none, .v (.load none (.t 92))⟩, ⟨some 94, none, .v (.bin .eql (.t 87) (.t 93))⟩] [false, false, false, false, false, false, false, false, false, false, false, false, true]) (.cond (.t 94) (.seq (.reg [⟨some 4, none, .v (.mov (.c (.bool false)))⟩]) .ret) .skip))) (.reg [⟨some 80, none, .v (.mov (.t 6))⟩, ⟨some 81, none, .v (.bin .add (.t 80) (.c (.int .i64 1)))⟩, ⟨some 6, none, .v (.mov (.t 81))⟩]))
def c_Q84_3 : SC := .seq (.reg [⟨some 6, none, .v (.mov (.c (.int .i64 0)))⟩]) (.block 2 (.loop b_Q84_2))
def c_Q84_4 : SC := .seq (.block 1 (.seq (.seq (.reg [⟨some 59, none, .v (.faddr 2 (.t 2))⟩, ⟨some 60, none, .v (.load none (.t 59))⟩, ⟨some 61, none, .v (.mov (.t 5))⟩, ⟨some 62, none, .v (.iaddr 2 (.t 60) (.t 61))⟩, ⟨some 63, none, .v (.faddr 0 (.t 62))⟩, ⟨some 64, none, .v (.load none (.t 63))⟩, ⟨some 65, none, .call (.c (.func 79 [])) [(.t 64)]⟩, ⟨some 66, none, .v (.un .not (.t 65))⟩, ⟨some 67, none, .v (.mov (.t 66))⟩, ⟨some 68, some (67, false), .v (.faddr 2 (.t 2))⟩, ⟨some 69, some (67, false), .v (.load none (.t 68))⟩, ⟨some 70, some (67, false), .v (.mov (.t 5))⟩, ⟨some 71, some (67, false), .v (.iaddr 2 (.t 69) (.t 70))⟩, ⟨some 72, some (67, false), .v (.faddr 1 (.t 71))⟩, ⟨some 73, some (67, false), .v (.load none (.t 72))⟩, ⟨some 74, some (67, false), .call (.c (.func 29 [])) [(.t 73)]⟩, ⟨some 75, some (67, false), .v (.un .not (.t 74))⟩, ⟨some 76, none, .v (.pick (.t 67) (.c (.bool true)) (.t 75))⟩]) (.cond (.t 76) (.seq (.reg [⟨some 4, none, .v (.mov (.c (.bool false)))⟩]) .ret) .skip)) c_Q84_3)) c_Q84_2
def b_Q84_1 : SC := .seq (.seq (.reg [⟨some 52, none, .v (.mov (.t 5))⟩, ⟨some 53, none, .v (.faddr 2 (.t 2))⟩, ⟨some 54, none, .v (.load none (.t 53))⟩, ⟨some 55, none, .v (.len false (.t 54))⟩, ⟨some 56, none, .v (.bin .lss (.t 52) (.t 55))⟩]) (.cond (.t 56) .skip (.exit 0))) c_Q84_4
def c_Q84_5 : SC := .block 0 (.loop b_Q84_1)
def c_Q84_6 : SC := .seq (.seq (.reg [⟨some 5, none, .v (.mov (.c (.int .i64 0)))⟩]) c_Q84_5) c_Q84_1
def c_Q84_7 : SC := .seq (.seq (.reg [⟨some 36, none, .v (.faddr 0 (.t 2))⟩, ⟨some 37, none, .v (.load none (.t 36))⟩, ⟨some 38, none, .v (.bin .eql (.t 37) (.c (.int .i64 5)))⟩]) (.cond (.t 38) (.seq (.reg [⟨some 39, none, .v (.mov (.t 1))⟩, ⟨some 40, none, .v (.un .not (.t 39))⟩, ⟨some 41, none, .v (.mov (.t 40))⟩, ⟨some 42, some (41, true), .v (.faddr 2 (.t 2))⟩, ⟨some 43, some (41, true), .v (.load none (.t 42))⟩, ⟨some 44, some (41, true), .v (.len false (.t 43))⟩, ⟨some 45, some (41, true), .v (.bin .eql (.t 44) (.c (.int .i64 0)))⟩, ⟨some 46, none, .v (.pick (.t 41) (.t 45) (.c (.bool false)))⟩, ⟨some 47, none, .v (.mov (.t 46))⟩, ⟨some 48, some (47, true), .v (.faddr 3 (.t 2))⟩, ⟨some 49, some (47, true), .v (.load none (.t 48))⟩, ⟨some 50, some (47, true), .call (.c (.func 53 [])) [(.t 49), (.c (.bool true))]⟩, ⟨some 51, none, .v (.pick (.t 47) (.t 50) (.c (.bool false)))⟩, ⟨some 4, none, .v (.mov (.t 51))⟩]) .ret) .skip)) c_Q84_6
def c_Q84_8 : SC := .cond (.t 35) (.seq (.reg [⟨some 4, none, .v (.mov (.c (.bool false)))⟩]) .ret) .skip
def c_Q84_9 : SC := .seq (.seq (.reg [⟨some 7, none, .v (.faddr 0 (.t 2))⟩, ⟨some 8, none, .v (.load none (.t 7))⟩, ⟨some 9, none, .v (.bin .lss (.t 8) (.c (.int .i64 1)))⟩, ⟨some 10, none, .v (.mov (.t 9))⟩, ⟨some 11, some (10, false), .v (.faddr 0 (.t 2))⟩, ⟨some 12, some (10, false), .v (.load none (.t 11))⟩, ⟨some 13, some (10, false), .v (.bin .gtr (.t 12) (.c (.int .i64 5)))⟩, ⟨some 14, none, .v (.pick (.t 10) (.c (.bool true)) (.t 13))⟩, ⟨some 15, none, .v (.mov (.t 14))⟩, ⟨some 16, some (15, false), .v (.faddr 0 (.t 2))⟩, ⟨some 17, some (15, false), .v (.load none (.t 16))⟩, ⟨some 18, some (15, false), .v (.bin .eql (.t 17) (.c (.int .i64 2)))⟩, ⟨some 19, some (15, false), .v (.mov (.t 18))⟩, ⟨some 20, some (19, true), .v (.faddr 1 (.t 2))⟩, ⟨some 21, some (19, true), .v (.load none (.t 20))⟩, ⟨some 22, some (19, true), .v (.bin .neq (.t 21) (.c (.str [])))⟩, ⟨some 23, some (15, false), .v (.pick (.t 19) (.t 22) (.c (.bool false)))⟩, ⟨some 24, none, .v (.pick (.t 15) (.c (.bool true)) (.t 23))⟩, ⟨some 25, none, .v (.mov (.t 24))⟩, ⟨some 26, some (25, false), .v (.faddr 0 (.t 2))⟩, ⟨some 27, some (25, false), .v (.load none (.t 26))⟩, ⟨some 28, some (25, false), .v (.bin .neq (.t 27) (.c (.int .i64 2)))⟩, ⟨some 29, some (25, false), .v (.mov (.t 28))⟩, ⟨some 30, some (29, true), .v (.faddr 1 (.t 2))⟩, ⟨some 31, some (29, true), .v (.load none (.t 30))⟩, ⟨some 32, some (29, true), .call (.c (.func 122 [])) [(.t 31)]⟩, ⟨some 33, some (29, true), .v (.un .not (.t 32))⟩, ⟨some 34, some (25, false), .v (.pick (.t 29) (.t 33) (.c (.bool false)))⟩, ⟨some 35, none, .v (.pick (.t 25) (.c (.bool true)) (.t 34))⟩]) c_Q84_8) c_Q84_7
def sc_Q84 : SFunc := ⟨2, 99, .seq (.reg [⟨some 2, none, .box (.t 0)⟩, ⟨some 4, none, .v (.mov (.c (.bool false)))⟩]) c_Q84_9, [(.t 4)]⟩
noncomputable def k_Q84_2 (SP : Prg) (x : EO) : CO := fin [(.t 4)] (thC SP (inBlk 0 (thC SP (thC SP (inBlk 1 (inBlk 2 (x))) c_Q84_2) (.loop b_Q84_1))) c_Q84_1)
noncomputable def k_Q84_1 (SP : Prg) (x : EO) : CO := fin [(.t 4)] (thC SP (inBlk 0 (x)) c_Q84_1)
theorem U_Q84 : type_of% (And.intro (ue c_Q84_1.eq_1) <| And.intro (ue c_Q84_2.eq_1) <| And.intro (ue b_Q84_2.eq_1) <| And.intro (ue c_Q84_3.eq_1) <| And.intro (ue c_Q84_4.eq_1) <| And.intro (ue b_Q84_1.eq_1) <| And.intro (ue c_Q84_5.eq_1) <| And.intro (ue c_Q84_6.eq_1) <| And.intro (ue c_Q84_7.eq_1) <| And.intro (ue c_Q84_8.eq_1) <| And.intro (ue c_Q84_9.eq_1) <| sc_Q84.eq_1) := And.intro (ue c_Q84_1.eq_1) <| And.intro (ue c_Q84_2.eq_1) <| And.intro (ue b_Q84_2.eq_1) <| And.intro (ue c_Q84_3.eq_1) <| And.intro (ue c_Q84_4.eq_1) <| And.intro (ue b_Q84_1.eq_1) <| And.intro (ue c_Q84_5.eq_1) <| And.intro (ue c_Q84_6.eq_1) <| And.intro (ue c_Q84_7.eq_1) <| And.intro (ue c_Q84_8.eq_1) <| And.intro (ue c_Q84_9.eq_1) <| sc_Q84.eq_1
theorem comp_Q84 : comp Tryz.prog Tryz.f84 = some sc_Q84 := by kernel_rfl
def c_Q53_1 : SC := .seq (.reg [⟨some 4, none, .v (.mov (.c (.bool true)))⟩]) .ret
def b_Q53_1 : SC := .seq (.seq (.reg [⟨some 6, none, .v (.mov (.t 5))⟩, ⟨some 7, none, .v (.mov (.t 0))⟩, ⟨some 8, none, .v (.len false (.t 7))⟩, ⟨some 9, none, .v (.bin .lss (.t 6) (.t 8))⟩]) (.cond (.t 9) .skip (.exit 0))) (.seq (.block 1 (.seq (.reg [⟨some 12, none, .v (.mov (.t 0))⟩, ⟨some 13, none, .v (.mov (.t 5))⟩, ⟨some 14, none, .v (.iaddr 4 (.t 12) (.t 13))⟩, ⟨some 15, none, .v (.load (some 4) (.t 14))⟩, ⟨some 16, none, .v (.mov (.t 1))⟩, ⟨some 17, none, .call (.c (.func 84 [])) [(.t 15), (.t 16)]⟩, ⟨some 18, none, .v (.un .not (.t 17))⟩]) (.cond (.t 18) (.seq (.reg [⟨some 4, none, .v (.mov (.c (.bool false)))⟩]) .ret) .skip))) (.reg [⟨some 10, none, .v (.mov (.t 5))⟩, ⟨some 11, none, .v (.bin .add (.t 10) (.c (.int .i64 1)))⟩, ⟨some 5, none, .v (.mov (.t 11))⟩]))
def sc_Q53 : SFunc := ⟨2, 19, .seq (.reg [⟨some 4, none, .v (.mov (.c (.bool false)))⟩]) (.seq (.seq (.reg [⟨some 5, none, .v (.mov (.c (.int .i64 0)))⟩]) (.block 0 (.loop b_Q53_1))) c_Q53_1), [(.t 4)]⟩
noncomputable def k_Q53_1 (SP : Prg) (x : EO) : CO := fin [(.t 4)] (thC SP (inBlk 0 (x)) c_Q53_1)
theorem U_Q53 : type_of% (And.intro (ue c_Q53_1.eq_1) <| And.intro (ue b_Q53_1.eq_1) <| sc_Q53.eq_1) := And.intro (ue c_Q53_1.eq_1) <| And.intro (ue b_Q53_1.eq_1) <| sc_Q53.eq_1
theorem comp_Q53 : comp Tryz.prog Tryz.f53 = some sc_Q53 := by kernel_rfl
def sc_Q31 : SFunc := ⟨1, 5, .seq (.reg [⟨some 2, none, .v (.mov (.c (.bool false)))⟩]) (.seq (.reg [⟨some 3, none, .v (.mov (.t 0))⟩, ⟨some 4, none, .call (.c (.func 53 [])) [(.t 3), (.c (.bool false))]⟩, ⟨some 2, none, .v (.mov (.t 4))⟩]) .ret), [(.t 2)]⟩
theorem U_Q31 : type_of% (sc_Q31.eq_1) := sc_Q31.eq_1
theorem comp_Q31 : comp Tryz.prog Tryz.f31 = some sc_Q31 := by kernel_rfl
def c_Q27_1 : SC := .seq (.reg [⟨some 61, none, .v (.mov (.t 0))⟩, ⟨some 62, none, .v (.len false (.t 61))⟩, ⟨some 63, none, .v (.bin .gtr (.t 62) (.c (.int .i64 80)))⟩, ⟨some 2, none, .v (.mov (.t 63))⟩]) .ret
def c_Q27_2 : SC := .reg [⟨some 13, none, .v (.mov (.t 3))⟩, ⟨some 14, none, .v (.bin .add (.t 13) (.c (.int .i64 1)))⟩, ⟨some 3, none, .v (.mov (.t 14))⟩]
def b_Q27_2 : SC := .seq (.seq (.reg [⟨some 40, none, .v (.mov (.t 4))⟩, ⟨some 41, none, .v (.mov (.t 0))⟩, ⟨some 42, none, .v (.mov (.t 3))⟩, ⟨some 43, none, .v (.iaddr 5 (.t 41) (.t 42))⟩, ⟨some 44, none, .v (.faddr 3 (.t 43))⟩, ⟨some 45, none, .v (.load none (.t 44))⟩, ⟨some 46, none, .v (.len false (.t 45))⟩, ⟨some 47, none, .v (.bin .lss (.t 40) (.t 46))⟩]) (.cond (.t 47) .skip (.exit 2))) (.seq (.block 3 (.seq (.reg [⟨some 50, none, .v (.mov (.t 0))⟩, ⟨some 51, none, .v (.mov (.t 3))⟩, ⟨some 52, none, .v (.iaddr 5 (.t 50) (.t 51))⟩, ⟨some 53, none, .v (.faddr 3 (.t 52))⟩, ⟨some 54, none, .v (.load none (.t 53))⟩, ⟨some 55, none, .v (.mov (.t 4))⟩, ⟨some 56, none, .v (.iaddr 2 (.t 54) (.t 55))⟩, ⟨some 57, none, .v (.faddr 1 (.t 56))⟩, ⟨some 58, none, .v (.load none (.t 57))⟩, ⟨some 59, none, .v (.len true (.t 58))⟩, ⟨some 60, none, .v (.bin .gtr (.t 59) (.c (.int .i64 300)))⟩]) (.cond (.t 60) (.seq (.reg [⟨some 2, none, .v (.mov (.c (.bool true)))⟩]) .ret) .skip))) (.reg [⟨some 48, none, .v (.mov (.t 4))⟩, ⟨some 49, none, .v (.bin .add (.t 48) (.c (.int .i64 1)))⟩, ⟨some 4, none, .v (.mov (.t 49))⟩]))
def c_Q27_3 : SC := .seq (.reg [⟨some 4, none, .v (.mov (.c (.int .i64 0)))⟩]) (.block 2 (.loop b_Q27_2))
def c_Q27_4 : SC := .cond (.t 39) (.seq (.reg [⟨some 2, none, .v (.mov (.c (.bool true)))⟩]) .ret) .skip
def c_Q27_5 : SC := .seq (.block 1 (.seq (.seq (.reg [⟨some 15, none, .v (.mov (.t 0))⟩, ⟨some 16, none, .v (.mov (.t 3))⟩, ⟨some 17, none, .v (.iaddr 5 (.t 15) (.t 16))⟩, ⟨some 18, none, .v (.faddr 4 (.t 17))⟩, ⟨some 19, none, .v (.load none (.t 18))⟩, ⟨some 20, none, .v (.len false (.t 19))⟩, ⟨some 21, none, .v (.bin .gtr (.t 20) (.c (.int .i64 100)))⟩, ⟨some 22, none, .v (.mov (.t 21))⟩, ⟨some 23, some (22, false), .v (.mov (.t 0))⟩, ⟨some 24, some (22, false), .v (.mov (.t 3))⟩, ⟨some 25, some (22, false), .v (.iaddr 5 (.t 23) (.t 24))⟩, ⟨some 26, some (22, false), .v (.faddr 2 (.t 25))⟩, ⟨some 27, some (22, false), .v (.load none (.t 26))⟩, ⟨some 28, some (22, false), .v (.len true (.t 27))⟩, ⟨some 29, some (22, false), .v (.bin .gtr (.t 28) (.c (.int .i64 300)))⟩, ⟨some 30, none, .v (.pick (.t 22) (.c (.bool true)) (.t 29))⟩, ⟨some 31, none, .v (.mov (.t 30))⟩, ⟨some 32, some (31, false), .v (.mov (.t 0))⟩, ⟨some 33, some (31, false), .v (.mov (.t 3))⟩, ⟨some 34, some (31, false), .v (.iaddr 5 (.t 32) (.t 33))⟩, ⟨some 35, some (31, false), .v (.faddr 3 (.t 34))⟩, ⟨some 36, some (31, false), .v (.load none (.t 35))⟩, ⟨some 37, some (31, false), .v (.len false (.t 36))⟩, ⟨some 38, some (31, false), .v (.bin .gtr (.t 37) (.c (.int .i64 60)))⟩, ⟨some 39, none, .v (.pick (.t 31) (.c (.bool true)) (.t 38))⟩]) c_Q27_4) c_Q27_3)) c_Q27_2
def b_Q27_1 : SC := .seq (.seq (.reg [⟨some 5, none, .v (.mov (.t 3))⟩, ⟨some 6, none, .v (.mov (.t 0))⟩, ⟨some 7, none, .v (.len false (.t 6))⟩, ⟨some 8, none, .v (.bin .lss (.t 5) (.t 7))⟩, ⟨some 9, none, .v (.mov (.t 8))⟩, ⟨some 10, some (9, true), .v (.mov (.t 3))⟩, ⟨some 11, some (9, true), .v (.bin .lss (.t 10) (.c (.int .i64 100)))⟩, ⟨some 12, none, .v (.pick (.t 9) (.t 11) (.c (.bool false)))⟩]) (.cond (.t 12) .skip (.exit 0))) c_Q27_5
def c_Q27_6 : SC := .block 0 (.loop b_Q27_1)
def c_Q27_7 : SC := .seq (.seq (.reg [⟨some 3, none, .v (.mov (.c (.int .i64 0)))⟩]) c_Q27_6) c_Q27_1
def sc_Q27 : SFunc := ⟨1, 64, .seq (.reg [⟨some 2, none, .v (.mov (.c (.bool false)))⟩]) c_Q27_7, [(.t 2)]⟩
noncomputable def k_Q27_2 (SP : Prg) (x : EO) : CO := fin [(.t 2)] (thC SP (inBlk 0 (thC SP (thC SP (inBlk 1 (inBlk 2 (x))) c_Q27_2) (.loop b_Q27_1))) c_Q27_1)
noncomputable def k_Q27_1 (SP : Prg) (x : EO) : CO := fin [(.t 2)] (thC SP (inBlk 0 (x)) c_Q27_1)
theorem U_Q27 : type_of% (And.intro (ue c_Q27_1.eq_1) <| And.intro (ue c_Q27_2.eq_1) <| And.intro (ue b_Q27_2.eq_1) <| And.intro (ue c_Q27_3.eq_1) <| And.intro (ue c_Q27_4.eq_1) <| And.intro (ue c_Q27_5.eq_1) <| And.intro (ue b_Q27_1.eq_1) <| And.intro (ue c_Q27_6.eq_1) <| And.intro (ue c_Q27_7.eq_1) <| sc_Q27.eq_1) := And.intro (ue c_Q27_1.eq_1) <| And.intro (ue c_Q27_2.eq_1) <| And.intro (ue b_Q27_2.eq_1) <| And.intro (ue c_Q27_3.eq_1) <| And.intro (ue c_Q27_4.eq_1) <| And.intro (ue c_Q27_5.eq_1) <| And.intro (ue b_Q27_1.eq_1) <| And.intro (ue c_Q27_6.eq_1) <| And.intro (ue c_Q27_7.eq_1) <| sc_Q27.eq_1
theorem comp_Q27 : comp Tryz.prog Tryz.f27 = some sc_Q27 := by kernel_rfl
def c_Q28_1 : SC := .seq (.reg [⟨some 4, none, .v (.mov (.c (.bool false)))⟩]) .ret
def c_Q28_2 : SC := .reg [⟨some 18, none, .v (.mov (.t 5))⟩, ⟨some 19, none, .v (.bin .add (.t 18) (.c (.int .i64 1)))⟩, ⟨some 5, none, .v (.mov (.t 19))⟩]
def c_Q28_3 : SC := .seq (.block 3 (.seq (.reg [⟨some 56, none, .v (.mov (.t 0))⟩, ⟨some 57, none, .v (.mov (.t 5))⟩, ⟨some 58, none, .v (.iaddr 4 (.t 56) (.t 57))⟩, ⟨some 59, none, .v (.faddr 2 (.t 58))⟩, ⟨some 60, none, .v (.load none (.t 59))⟩, ⟨some 61, none, .v (.mov (.t 6))⟩, ⟨some 62, none, .v (.iaddr 2 (.t 60) (.t 61))⟩, ⟨some 63, none, .v (.faddr 0 (.t 62))⟩, ⟨some 64, none, .v (.load none (.t 63))⟩, ⟨some 65, none, .v (.len true (.t 64))⟩, ⟨some 66, none, .v (.bin .gtr (.t 65) (.c (.int .i64 100)))⟩, ⟨some 67, none, .v (.mov (.t 66))⟩, ⟨some 68, some (67, false), .v (.mov (.t 0))⟩, ⟨some 69, some (67, false), .v (.mov (.t 5))⟩, ⟨some 70, some (67, false), .v (.iaddr 4 (.t 68) (.t 69))⟩, ⟨some 71, some (67, false), .v (.faddr 2 (.t 70))⟩, ⟨some 72, some (67, false), .v (.load none (.t 71))⟩, ⟨some 73, some (67, false), .v (.mov (.t 6))⟩, ⟨some 74, some (67, false), .v (.iaddr 2 (.t 72) (.t 73))⟩, ⟨some 75, some (67, false), .v (.faddr 1 (.t 74))⟩, ⟨some 76, some (67, false), .v (.load none (.t 75))⟩, ⟨some 77, some (67, false), .call (.c (.func 27 [])) [(.t 76)]⟩, ⟨some 78, none, .v (.pick (.t 67) (.c (.bool true)) (.t 77))⟩]) (.cond (.t 78) (.seq (.reg [⟨some 4, none, .v (.mov (.c (.bool true)))⟩]) .ret) .skip))) (.reg [⟨some 54, none, .v (.mov (.t 6))⟩, ⟨some 55, none, .v (.bin .add (.t 54) (.c (.int .i64 1)))⟩, ⟨some 6, none, .v (.mov (.t 55))⟩])
def b_Q28_2 : SC := .seq (.seq (.reg [⟨some 46, none, .v (.mov (.t 6))⟩, ⟨some 47, none, .v (.mov (.t 0))⟩, ⟨some 48, none, .v (.mov (.t 5))⟩, ⟨some 49, none, .v (.iaddr 4 (.t 47) (.t 48))⟩, ⟨some 50, none, .v (.faddr 2 (.t 49))⟩, ⟨some 51, none, .v (.load none (.t 50))⟩, ⟨some 52, none, .v (.len false (.t 51))⟩, ⟨some 53, none, .v (.bin .lss (.t 46) (.t 52))⟩]) (.cond (.t 53) .skip (.exit 2))) c_Q28_3
def c_Q28_4 : SC := .block 2 (.loop b_Q28_2)
def c_Q28_5 : SC := .seq (.reg [⟨some 6, none, .v (.mov (.c (.int .i64 0)))⟩]) c_Q28_4
def c_Q28_6 : SC := .cond (.t 45) (.seq (.reg [⟨some 4, none, .v (.mov (.c (.bool true)))⟩]) .ret) .skip
def c_Q28_7 : SC := .seq (.block 1 (.seq (.seq (.reg [⟨some 20, none, .v (.mov (.t 0))⟩, ⟨some 21, none, .v (.mov (.t 5))⟩, ⟨some 22, none, .v (.iaddr 4 (.t 20) (.t 21))⟩, ⟨some 23, none, .v (.faddr 1 (.t 22))⟩, ⟨some 24, none, .v (.load none (.t 23))⟩, ⟨some 25, none, .v (.len true (.t 24))⟩, ⟨some 26, none, .v (.bin .gtr (.t 25) (.c (.int .i64 100)))⟩, ⟨some 27, none, .v (.mov (.t 26))⟩, ⟨some 28, some (27, false), .v (.mov (.t 0))⟩, ⟨some 29, some (27, false), .v (.mov (.t 5))⟩, ⟨some 30, some (27, false), .v (.iaddr 4 (.t 28) (.t 29))⟩, ⟨some 31, some (27, false), .v (.faddr 2 (.t 30))⟩, ⟨some 32, some (27, false), .v (.load none (.t 31))⟩, ⟨some 33, some (27, false), .v (.len false (.t 32))⟩, ⟨some 34, some (27, false), .v (.bin .gtr (.t 33) (.c (.int .i64 30)))⟩, ⟨some 35, none, .v (.pick (.t 27) (.c (.bool true)) (.t 34))⟩, ⟨some 36, none, .v (.mov (.t 35))⟩, ⟨some 37, some (36, false), .v (.mov (.t 0))⟩, ⟨some 38, some (36, false), .v (.mov (.t 5))⟩, ⟨some 39, some (36, false), .v (.iaddr 4 (.t 37) (.t 38))⟩, ⟨some 40, some (36, false), .v (.faddr 3 (.t 39))⟩, ⟨some 41, some (36, false), .v (.load none (.t 40))⟩, ⟨some 42, some (36, false), .v (.mov (.t 1))⟩, ⟨some 43, some (36, false), .v (.bin .add (.t 42) (.c (.int .i64 1)))⟩, ⟨some 44, some (36, false), .call (.c (.func 28 [])) [(.t 41), (.t 43)]⟩, ⟨some 45, none, .v (.pick (.t 36) (.c (.bool true)) (.t 44))⟩]) c_Q28_6) c_Q28_5)) c_Q28_2
def b_Q28_1 : SC := .seq (.seq (.reg [⟨some 14, none, .v (.mov (.t 5))⟩, ⟨some 15, none, .v (.mov (.t 0))⟩, ⟨some 16, none, .v (.len false (.t 15))⟩, ⟨some 17, none, .v (.bin .lss (.t 14) (.t 16))⟩]) (.cond (.t 17) .skip (.exit 0))) c_Q28_7
def c_Q28_8 : SC := .block 0 (.loop b_Q28_1)
def c_Q28_9 : SC := .seq (.seq (.reg [⟨some 5, none, .v (.mov (.c (.int .i64 0)))⟩]) c_Q28_8) c_Q28_1
def c_Q28_10 : SC := .seq (.seq (.reg [⟨some 7, none, .v (.mov (.t 0))⟩, ⟨some 8, none, .v (.len false (.t 7))⟩, ⟨some 9, none, .v (.bin .gtr (.t 8) (.c (.int .i64 20)))⟩, ⟨some 10, none, .v (.mov (.t 9))⟩, ⟨some 11, some (10, false), .v (.mov (.t 1))⟩, ⟨some 12, some (10, false), .v (.bin .gtr (.t 11) (.c (.int .i64 6)))⟩, ⟨some 13, none, .v (.pick (.t 10) (.c (.bool true)) (.t 12))⟩]) (.cond (.t 13) (.seq (.reg [⟨some 4, none, .v (.mov (.c (.bool true)))⟩]) .ret) .skip)) c_Q28_9
def sc_Q28 : SFunc := ⟨2, 79, .seq (.reg [⟨some 4, none, .v (.mov (.c (.bool false)))⟩]) c_Q28_10, [(.t 4)]⟩
noncomputable def k_Q28_2 (SP : Prg) (x : EO) : CO := fin [(.t 4)] (thC SP (inBlk 0 (thC SP (thC SP (inBlk 1 (inBlk 2 (x))) c_Q28_2) (.loop b_Q28_1))) c_Q28_1)
noncomputable def k_Q28_1 (SP : Prg) (x : EO) : CO := fin [(.t 4)] (thC SP (inBlk 0 (x)) c_Q28_1)
theorem U_Q28 : type_of% (And.intro (ue c_Q28_1.eq_1) <| And.intro (ue c_Q28_2.eq_1) <| And.intro (ue c_Q28_3.eq_1) <| And.intro (ue b_Q28_2.eq_1) <| And.intro (ue c_Q28_4.eq_1) <| And.intro (ue c_Q28_5.eq_1) <| And.intro (ue c_Q28_6.eq_1) <| And.intro (ue c_Q28_7.eq_1) <| And.intro (ue b_Q28_1.eq_1) <| And.intro (ue c_Q28_8.eq_1) <| And.intro (ue c_Q28_9.eq_1) <| And.intro (ue c_Q28_10.eq_1) <| sc_Q28.eq_1) := And.intro (ue c_Q28_1.eq_1) <| And.intro (ue c_Q28_2.eq_1) <| And.intro (ue c_Q28_3.eq_1) <| And.intro (ue b_Q28_2.eq_1) <| And.intro (ue c_Q28_4.eq_1) <| And.intro (ue c_Q28_5.eq_1) <| And.intro (ue c_Q28_6.eq_1) <| And.intro (ue c_Q28_7.eq_1) <| And.intro (ue b_Q28_1.eq_1) <| And.intro (ue c_Q28_8.eq_1) <| And.intro (ue c_Q28_9.eq_1) <| And.intro (ue c_Q28_10.eq_1) <| sc_Q28.eq_1
theorem comp_Q28 : comp Tryz.prog Tryz.f28 = some sc_Q28 := by kernel_rfl
def sc_Q10 : SFunc := ⟨2, 27, .seq (.reg [⟨some 4, none, .v (.mov (.c (.bool false)))⟩]) (.seq (.seq (.reg [⟨some 5, none, .v (.mov (.t 0))⟩, ⟨some 6, none, .call (.c (.func 27 [])) [(.t 5)]⟩, ⟨some 7, none, .v (.mov (.t 6))⟩, ⟨some 8, some (7, false), .v (.mov (.t 1))⟩, ⟨some 9, some (7, false), .call (.c (.func 28 [])) [(.t 8), (.c (.int .i64 0))]⟩, ⟨some 10, none, .v (.pick (.t 7) (.c (.bool true)) (.t 9))⟩]) (.cond (.t 10) (.seq (.reg [⟨some 11, none, .call (.c (.func 15 [])) []⟩, ⟨some 4, none, .v (.mov (.t 11))⟩]) .ret) .skip)) (.seq (.reg [⟨some 12, none, .v (.mov (.t 0))⟩, ⟨some 13, none, .call (.c (.func 26 [])) [(.t 12)]⟩, ⟨some 14, none, .v (.mov (.t 0))⟩, ⟨some 15, none, .call (.c (.func 29 [])) [(.t 14)]⟩, ⟨some 16, none, .v (.binb false (.t 13) (.t 15))⟩, ⟨some 17, none, .v (.mov (.t 16))⟩, ⟨some 18, some (17, true), .v (.mov (.t 1))⟩, ⟨some 19, some (17, true), .call (.c (.func 30 [])) [(.t 18)]⟩, ⟨some 20, some (17, true), .v (.mov (.t 1))⟩, ⟨some 21, some (17, true), .call (.c (.func 31 [])) [(.t 20)]⟩, ⟨some 22, some (17, true), .v (.binb false (.t 19) (.t 21))⟩, ⟨some 23, none, .v (.pick (.t 17) (.t 22) (.c (.bool false)))⟩, ⟨some 24, none, .v (.mov (.t 23))⟩, ⟨some 25, some (24, true), .call (.c (.func 15 [])) []⟩, ⟨some 26, none, .v (.pick (.t 24) (.t 25) (.c (.bool false)))⟩, ⟨some 4, none, .v (.mov (.t 26))⟩]) .ret)), [(.t 4)]⟩
theorem U_Q10 : type_of% (sc_Q10.eq_1) := sc_Q10.eq_1
theorem comp_Q10 : comp Tryz.prog Tryz.f10 = some sc_Q10 := by kernel_rfl
def c_Q73_1 : SC := .seq (.reg [⟨some 2, none, .v (.mov (.c (.int .i64 2)))⟩]) .ret
def c_Q73_2 : SC := .cond (.t 3) (.seq (.reg [⟨some 2, none, .v (.mov (.c (.int .i64 (-2))))⟩]) .ret) (.seq (.reg [⟨some 11, none, .v (.mov (.t 0))⟩, ⟨some 12, none, .v (.bin .leq (.t 11) (.c (.int .i64 4)))⟩, ⟨some 10, none, .v (.mov (.t 12))⟩]) (.cond (.t 10) (.seq (.reg [⟨some 2, none, .v (.mov (.c (.int .i64 0)))⟩]) .ret) (.seq (.reg [⟨some 14, none, .v (.mov (.t 0))⟩, ⟨some 15, none, .v (.bin .eql (.t 14) (.c (.int .i64 5)))⟩, ⟨some 16, none, .v (.mov (.t 15))⟩, ⟨some 17, some (16, false), .v (.mov (.t 0))⟩, ⟨some 18, some (16, false), .v (.bin .eql (.t 17) (.c (.int .i64 6)))⟩, ⟨some 19, none, .v (.pick (.t 16) (.c (.bool true)) (.t 18))⟩, ⟨some 13, none, .v (.mov (.t 19))⟩]) (.cond (.t 13) (.seq (.reg [⟨some 2, none, .v (.mov (.c (.int .i64 (-1))))⟩]) .ret) (.seq (.reg [⟨some 21, none, .v (.mov (.t 0))⟩, ⟨some 22, none, .v (.bin .eql (.t 21) (.c (.int .i64 8)))⟩, ⟨some 23, none, .v (.mov (.t 22))⟩, ⟨some 24, some (23, false), .v (.mov (.t 0))⟩, ⟨some 25, some (23, false), .v (.bin .eql (.t 24) (.c (.int .i64 9)))⟩, ⟨some 26, none, .v (.pick (.t 23) (.c (.bool true)) (.t 25))⟩, ⟨some 20, none, .v (.mov (.t 26))⟩]) (.cond (.t 20) (.seq (.reg [⟨some 2, none, .v (.mov (.c (.int .i64 1)))⟩]) .ret) (.seq (.reg [⟨some 28, none, .v (.mov (.t 0))⟩, ⟨some 29, none, .v (.bin .eql (.t 28) (.c (.int .i64 10)))⟩, ⟨some 27, none, .v (.mov (.t 29))⟩]) (.cond (.t 27) (.seq (.reg [⟨some 2, none, .v (.mov (.c (.int .i64 3)))⟩]) .ret) .skip))))))))
def c_Q73_3 : SC := .seq (.block 0 (.seq (.reg [⟨some 4, none, .v (.mov (.t 0))⟩, ⟨some 5, none, .v (.bin .lss (.t 4) (.c (.int .i64 1)))⟩, ⟨some 6, none, .v (.mov (.t 5))⟩, ⟨some 7, some (6, false), .v (.mov (.t 0))⟩, ⟨some 8, some (6, false), .v (.bin .gtr (.t 7) (.c (.int .i64 23)))⟩, ⟨some 9, none, .v (.pick (.t 6) (.c (.bool true)) (.t 8))⟩, ⟨some 3, none, .v (.mov (.t 9))⟩]) c_Q73_2)) c_Q73_1
def sc_Q73 : SFunc := ⟨1, 30, .seq (.reg [⟨some 2, none, .v (.mov (.c (.int .i64 0)))⟩]) c_Q73_3, [(.t 2)]⟩
theorem U_Q73 : type_of% (And.intro (ue c_Q73_1.eq_1) <| And.intro (ue c_Q73_2.eq_1) <| And.intro (ue c_Q73_3.eq_1) <| sc_Q73.eq_1) := And.intro (ue c_Q73_1.eq_1) <| And.intro (ue c_Q73_2.eq_1) <| And.intro (ue c_Q73_3.eq_1) <| sc_Q73.eq_1
theorem comp_Q73 : comp Tryz.prog Tryz.f73 = some sc_Q73 := by kernel_rfl
def sc_Q114 : SFunc := ⟨1, 9, .seq (.reg [⟨some 2, none, .v (.mov (.c (.bool false)))⟩]) (.seq (.reg [⟨some 3, none, .v (.mov (.t 0))⟩, ⟨some 4, none, .v (.bin .eql (.t 3) (.c (.str [116, 114, 117, 101])))⟩, ⟨some 5, none, .v (.mov (.t 4))⟩, ⟨some 6, some (5, false), .v (.mov (.t 0))⟩, ⟨some 7, some (5, false), .v (.bin .eql (.t 6) (.c (.str [102, 97, 108, 115, 101])))⟩, ⟨some 8, none, .v (.pick (.t 5) (.c (.bool true)) (.t 7))⟩, ⟨some 2, none, .v (.mov (.t 8))⟩]) .ret), [(.t 2)]⟩
theorem U_Q114 : type_of% (sc_Q114.eq_1) := sc_Q114.eq_1
theorem comp_Q114 : comp Tryz.prog Tryz.f114 = some sc_Q114 := by kernel_rfl
def sc_Q113 : SFunc := ⟨1, 21, .seq (.reg [⟨some 2, none, .v (.mov (.c (.bool false)))⟩]) (.seq (.reg [⟨some 7, none, .v (.mov (.t 0))⟩, ⟨some 8, none, .call (.c (.func 112 [])) [(.t 7), (.c (.str [46]))]⟩, ⟨some 6, none, .v (.mov (.t 8))⟩, ⟨some 9, none, .v (.extract 0 (.t 6))⟩, ⟨some 10, none, .v (.extract 1 (.t 6))⟩, ⟨some 11, none, .v (.extract 2 (.t 6))⟩, ⟨some 3, none, .v (.mov (.t 9))⟩, ⟨some 4, none, .v (.mov (.t 10))⟩, ⟨some 5, none, .v (.mov (.t 11))⟩]) (.seq (.reg [⟨some 12, none, .v (.mov (.t 5))⟩, ⟨some 13, none, .v (.mov (.t 12))⟩, ⟨some 14, some (13, true), .v (.mov (.t 3))⟩, ⟨some 15, some (13, true), .call (.c (.func 115 [])) [(.t 14)]⟩, ⟨some 16, none, .v (.pick (.t 13) (.t 15) (.c (.bool false)))⟩, ⟨some 17, none, .v (.mov (.t 16))⟩, ⟨some 18, some (17, true), .v (.mov (.t 4))⟩, ⟨some 19, some (17, true), .call (.c (.func 115 [])) [(.t 18)]⟩, ⟨some 20, none, .v (.pick (.t 17) (.t 19) (.c (.bool false)))⟩, ⟨some 2, none, .v (.mov (.t 20))⟩]) .ret)), [(.t 2)]⟩
theorem U_Q113 : type_of% (sc_Q113.eq_1) := sc_Q113.eq_1
theorem comp_Q113 : comp Tryz.prog Tryz.f113 = some sc_Q113 := by kernel_rfl
def c_Q152_1 : SC := .seq (.reg [⟨some 2, none, .v (.mov (.c (.bool true)))⟩]) .ret
def b_Q152_1 : SC := .seq (.reg [⟨some 7, none, .v (.bin .lss (.t 6) (.t 5))⟩]) (.seq (.cond (.t 7) .skip (.exit 0)) (.seq (.block 1 (.seq (.reg [⟨some 8, none, .v (.mov (.t 6))⟩, ⟨some 3, none, .v (.mov (.t 8))⟩]) (.seq (.reg [⟨some 9, none, .v (.mov (.t 0))⟩, ⟨some 10, none, .v (.mov (.t 3))⟩, ⟨some 11, none, .v (.istr (.t 9) (.t 10))⟩, ⟨some 12, none, .v (.bin .lss (.t 11) (.c (.int .u8 32)))⟩, ⟨some 13, none, .v (.mov (.t 12))⟩, ⟨some 14, some (13, true), .v (.mov (.t 0))⟩, ⟨some 15, some (13, true), .v (.mov (.t 3))⟩, ⟨some 16, some (13, true), .v (.istr (.t 14) (.t 15))⟩, ⟨some 17, some (13, true), .v (.bin .neq (.t 16) (.c (.int .u8 10)))⟩, ⟨some 18, none, .v (.pick (.t 13) (.t 17) (.c (.bool false)))⟩]) (.cond (.t 18) (.seq (.reg [⟨some 2, none, .v (.mov (.c (.bool false)))⟩]) .ret) .skip)))) (.reg [⟨some 19, none, .v (.bin .add (.t 6) (.c (.int .i64 1)))⟩, ⟨some 6, none, .v (.mov (.t 19))⟩])))
def sc_Q152 : SFunc := ⟨1, 20, .seq (.reg [⟨some 2, none, .v (.mov (.c (.bool false)))⟩]) (.seq (.seq (.reg [⟨some 4, none, .v (.mov (.t 0))⟩, ⟨some 5, none, .v (.len true (.t 4))⟩, ⟨some 6, none, .v (.mov (.c (.int .i64 0)))⟩]) (.block 0 (.loop b_Q152_1))) c_Q152_1), [(.t 2)]⟩
noncomputable def k_Q152_1 (SP : Prg) (x : EO) : CO := fin [(.t 2)] (thC SP (inBlk 0 (x)) c_Q152_1)
theorem U_Q152 : type_of% (And.intro (ue c_Q152_1.eq_1) <| And.intro (ue b_Q152_1.eq_1) <| sc_Q152.eq_1) := And.intro (ue c_Q152_1.eq_1) <| And.intro (ue b_Q152_1.eq_1) <| sc_Q152.eq_1
theorem comp_Q152 : comp Tryz.prog Tryz.f152 = some sc_Q152 := by kernel_rfl
def c_Q116_1 : SC := .seq (.reg [⟨some 2, none, .v (.mov (.c (.bool true)))⟩]) .ret
def c_Q116_2 : SC := .reg [⟨some 40, none, .v (.bin .add (.t 7) (.c (.int .i64 1)))⟩, ⟨some 7, none, .v (.mov (.t 40))⟩]
def c_Q116_3 : SC := .seq (.reg [⟨some 18, none, .v (.faddr 1 (.t 4))⟩, ⟨some 19, none, .v (.load none (.t 18))⟩, ⟨some 20, none, .v (.bin .eql (.t 19) (.c (.str [])))⟩, ⟨some 21, none, .v (.mov (.t 20))⟩, ⟨some 22, some (21, false), .v (.mov (.t 3))⟩, ⟨some 23, some (21, false), .v (.bin .gtr (.t 22) (.c (.int .i64 0)))⟩, ⟨some 24, some (21, false), .v (.mov (.t 23))⟩, ⟨some 25, some (24, true), .v (.mov (.t 0))⟩, ⟨some 26, some (24, true), .v (.mov (.t 3))⟩, ⟨some 27, some (24, true), .v (.bin .sub (.t 26) (.c (.int .i64 1)))⟩, ⟨some 28, some (24, true), .v (.iaddr 2 (.t 25) (.t 27))⟩, ⟨some 29, some (24, true), .v (.faddr 0 (.t 28))⟩, ⟨some 30, some (24, true), .v (.load none (.t 29))⟩, ⟨some 31, some (24, true), .v (.un .not (.t 30))⟩, ⟨some 32, some (21, false), .v (.pick (.t 24) (.t 31) (.c (.bool false)))⟩, ⟨some 33, none, .v (.pick (.t 21) (.c (.bool true)) (.t 32))⟩, ⟨some 34, none, .v (.mov (.t 33))⟩, ⟨some 35, some (34, false), .v (.faddr 1 (.t 4))⟩, ⟨some 36, some (34, false), .v (.load none (.t 35))⟩, ⟨some 37, some (34, false), .call (.c (.func 152 [])) [(.t 36)]⟩, ⟨some 38, some (34, false), .v (.un .not (.t 37))⟩, ⟨some 39, none, .v (.pick (.t 34) (.c (.bool true)) (.t 38))⟩]) (.cond (.t 39) (.seq (.reg [⟨some 2, none, .v (.mov (.c (.bool false)))⟩]) .ret) .skip)
def c_Q116_4 : SC := .seq (.seq (.reg [⟨some 12, none, .v (.faddr 0 (.t 4))⟩, ⟨some 13, none, .v (.load none (.t 12))⟩]) (.cond (.t 13) (.seq (.seq (.reg [⟨some 14, none, .v (.faddr 1 (.t 4))⟩, ⟨some 15, none, .v (.load none (.t 14))⟩, ⟨some 16, none, .call (.c (.func 113 [])) [(.t 15)]⟩, ⟨some 17, none, .v (.un .not (.t 16))⟩]) (.cond (.t 17) (.seq (.reg [⟨some 2, none, .v (.mov (.c (.bool false)))⟩]) .ret) .skip)) (.exit 1)) .skip)) c_Q116_3
def c_Q116_5 : SC := .seq (.block 1 (.seq (.reg [⟨some 9, none, .v (.mov (.t 7))⟩, ⟨some 10, none, .v (.iaddr 2 (.t 5) (.t 7))⟩, ⟨some 11, none, .v (.load (some 2) (.t 10))⟩, ⟨some 4, none, .alloc [(.bool false), (.str [])]⟩, ⟨some 3, none, .v (.mov (.t 9))⟩, ⟨none, none, .store 2 (.t 4) (.t 11)⟩]) c_Q116_4)) c_Q116_2
def c_Q116_6 : SC := .seq (.cond (.t 8) .skip (.exit 0)) c_Q116_5
def b_Q116_1 : SC := .seq (.reg [⟨some 8, none, .v (.bin .lss (.t 7) (.t 6))⟩]) c_Q116_6
def c_Q116_7 : SC := .block 0 (.loop b_Q116_1)
def c_Q116_8 : SC := .seq (.seq (.reg [⟨some 5, none, .v (.mov (.t 0))⟩, ⟨some 6, none, .v (.len false (.t 5))⟩, ⟨some 7, none, .v (.mov (.c (.int .i64 0)))⟩]) c_Q116_7) c_Q116_1
def sc_Q116 : SFunc := ⟨1, 41, .seq (.reg [⟨some 2, none, .v (.mov (.c (.bool false)))⟩]) c_Q116_8, [(.t 2)]⟩
noncomputable def k_Q116_1 (SP : Prg) (x : EO) : CO := fin [(.t 2)] (thC SP (inBlk 0 (x)) c_Q116_1)
theorem U_Q116 : type_of% (And.intro (ue c_Q116_1.eq_1) <| And.intro (ue c_Q116_2.eq_1) <| And.intro (ue c_Q116_3.eq_1) <| And.intro (ue c_Q116_4.eq_1) <| And.intro (ue c_Q116_5.eq_1) <| And.intro (ue c_Q116_6.eq_1) <| And.intro (ue b_Q116_1.eq_1) <| And.intro (ue c_Q116_7.eq_1) <| And.intro (ue c_Q116_8.eq_1) <| sc_Q116.eq_1) := And.intro (ue c_Q116_1.eq_1) <| And.intro (ue c_Q116_2.eq_1) <| And.intro (ue c_Q116_3.eq_1) <| And.intro (ue c_Q116_4.eq_1) <| And.intro (ue c_Q116_5.eq_1) <| And.intro (ue c_Q116_6.eq_1) <| And.intro (ue b_Q116_1.eq_1) <| And.intro (ue c_Q116_7.eq_1) <| And.intro (ue c_Q116_8.eq_1) <| sc_Q116.eq_1
theorem comp_Q116 : comp Tryz.prog Tryz.f116 = some sc_Q116 := by kernel_rfl
def c_Q74_1 : SC := .seq (.reg [⟨some 69, none, .v (.mov (.t 3))⟩, ⟨some 70, none, .v (.mov (.t 69))⟩, ⟨some 71, some (70, true), .v (.mov (.t 4))⟩, ⟨some 72, none, .v (.pick (.t 70) (.t 71) (.c (.bool false)))⟩, ⟨some 73, none, .v (.mov (.t 72))⟩, ⟨some 74, some (73, true), .v (.mov (.t 5))⟩, ⟨some 75, none, .v (.pick (.t 73) (.t 74) (.c (.bool false)))⟩, ⟨some 2, none, .v (.mov (.t 75))⟩]) .ret
def c_Q74_2 : SC := .cond (.t 36) (.seq (.reg [⟨some 39, none, .v (.faddr 2 (.t 1))⟩, ⟨some 40, none, .v (.load none (.t 39))⟩, ⟨some 41, none, .call (.c (.func 112 [])) [(.t 40), (.c (.str [46]))]⟩, ⟨some 38, none, .v (.mov (.t 41))⟩, ⟨some 42, none, .v (.extract 0 (.t 38))⟩, ⟨some 43, none, .v (.extract 1 (.t 38))⟩, ⟨some 44, none, .v (.extract 2 (.t 38))⟩, ⟨some 6, none, .v (.mov (.t 42))⟩, ⟨some 7, none, .v (.mov (.t 43))⟩, ⟨some 8, none, .v (.mov (.t 44))⟩]) (.reg [⟨some 45, none, .v (.faddr 2 (.t 1))⟩, ⟨some 46, none, .v (.load none (.t 45))⟩, ⟨some 47, none, .call (.c (.func 113 [])) [(.t 46)]⟩, ⟨some 48, none, .v (.mov (.t 47))⟩, ⟨some 49, some (48, true), .v (.mov (.t 6))⟩, ⟨some 50, some (48, true), .call (.c (.func 114 [])) [(.t 49)]⟩, ⟨some 51, some (48, true), .v (.un .not (.t 50))⟩, ⟨some 52, none, .v (.pick (.t 48) (.t 51) (.c (.bool false)))⟩, ⟨some 4, none, .v (.mov (.t 52))⟩])) (.seq (.reg [⟨some 54, none, .v (.bin .eql (.t 20) (.c (.int .i64 5)))⟩, ⟨some 53, none, .v (.mov (.t 54))⟩]) (.cond (.t 53) (.reg [⟨some 55, none, .v (.faddr 2 (.t 1))⟩, ⟨some 56, none, .v (.load none (.t 55))⟩, ⟨some 57, none, .call (.c (.func 115 [])) [(.t 56)]⟩, ⟨some 58, none, .v (.mov (.t 57))⟩, ⟨some 59, some (58, true), .v (.faddr 2 (.t 1))⟩, ⟨some 60, some (58, true), .v (.load none (.t 59))⟩, ⟨some 61, some (58, true), .call (.c (.func 114 [])) [(.t 60)]⟩, ⟨some 62, some (58, true), .v (.un .not (.t 61))⟩, ⟨some 63, none, .v (.pick (.t 58) (.t 62) (.c (.bool false)))⟩, ⟨some 4, none, .v (.mov (.t 63))⟩]) (.seq (.reg [⟨some 65, none, .v (.bin .eql (.t 20) (.c (.int .i64 2)))⟩, ⟨some 64, none, .v (.mov (.t 65))⟩]) (.cond (.t 64) (.reg [⟨some 66, none, .v (.faddr 3 (.t 1))⟩, ⟨some 67, none, .v (.load none (.t 66))⟩, ⟨some 68, none, .call (.c (.func 116 [])) [(.t 67)]⟩, ⟨some 5, none, .v (.mov (.t 68))⟩]) .skip))))
def c_Q74_3 : SC := .cond (.t 26) (.reg [⟨some 28, none, .v (.faddr 1 (.t 1))⟩, ⟨some 29, none, .v (.load none (.t 28))⟩, ⟨some 30, none, .v (.bin .eql (.t 29) (.c (.int .i64 0)))⟩, ⟨some 31, none, .v (.mov (.t 30))⟩, ⟨some 32, some (31, false), .v (.faddr 1 (.t 1))⟩, ⟨some 33, some (31, false), .v (.load none (.t 32))⟩, ⟨some 34, some (31, false), .v (.bin .eql (.t 33) (.c (.int .i64 1)))⟩, ⟨some 35, none, .v (.pick (.t 31) (.c (.bool true)) (.t 34))⟩, ⟨some 3, none, .v (.mov (.t 35))⟩]) (.seq (.reg [⟨some 37, none, .v (.bin .eql (.t 20) (.c (.int .i64 4)))⟩, ⟨some 36, none, .v (.mov (.t 37))⟩]) c_Q74_2)
def c_Q74_4 : SC := .cond (.t 21) (.reg [⟨some 23, none, .v (.faddr 1 (.t 1))⟩, ⟨some 24, none, .v (.load none (.t 23))⟩, ⟨some 25, none, .v (.bin .geq (.t 24) (.c (.int .i64 0)))⟩, ⟨some 3, none, .v (.mov (.t 25))⟩]) (.seq (.reg [⟨some 27, none, .v (.bin .eql (.t 20) (.c (.int .i64 3)))⟩, ⟨some 26, none, .v (.mov (.t 27))⟩]) c_Q74_3)
def c_Q74_5 : SC := .block 0 (.seq (.reg [⟨some 22, none, .v (.bin .eql (.t 20) (.c (.int .i64 1)))⟩, ⟨some 21, none, .v (.mov (.t 22))⟩]) c_Q74_4)
def c_Q74_6 : SC := .seq (.seq (.reg [⟨some 19, none, .v (.faddr 0 (.t 1))⟩, ⟨some 20, none, .v (.load none (.t 19))⟩]) c_Q74_5) c_Q74_1
def c_Q74_7 : SC := .seq (.dreg [⟨some 9, none, .v (.faddr 1 (.t 1))⟩, ⟨some 10, none, .v (.load none (.t 9))⟩, ⟨some 11, none, .v (.bin .eql (.t 10) (.c (.int .i64 0)))⟩, ⟨some 12, none, .v (.faddr 2 (.t 1))⟩, ⟨some 13, none, .v (.load none (.t 12))⟩, ⟨some 14, none, .v (.bin .eql (.t 13) (.c (.str [])))⟩, ⟨some 15, none, .v (.faddr 3 (.t 1))⟩, ⟨some 16, none, .v (.load none (.t 15))⟩, ⟨some 17, none, .v (.len false (.t 16))⟩, ⟨some 18, none, .v (.bin .eql (.t 17) (.c (.int .i64 0)))⟩, ⟨some 3, none, .v (.mov (.t 11))⟩, ⟨some 4, none, .v (.mov (.t 14))⟩, ⟨some 5, none, .v (.mov (.t 18))⟩] [false, false, false, false, false, false, false, false, false, false, false, false, true]) c_Q74_6
def sc_Q74 : SFunc := ⟨1, 76, .seq (.reg [⟨some 1, none, .box (.t 0)⟩, ⟨some 2, none, .v (.mov (.c (.bool false)))⟩]) c_Q74_7, [(.t 2)]⟩
theorem U_Q74 : type_of% (And.intro (ue c_Q74_1.eq_1) <| And.intro (ue c_Q74_2.eq_1) <| And.intro (ue c_Q74_3.eq_1) <| And.intro (ue c_Q74_4.eq_1) <| And.intro (ue c_Q74_5.eq_1) <| And.intro (ue c_Q74_6.eq_1) <| And.intro (ue c_Q74_7.eq_1) <| sc_Q74.eq_1) := And.intro (ue c_Q74_1.eq_1) <| And.intro (ue c_Q74_2.eq_1) <| And.intro (ue c_Q74_3.eq_1) <| And.intro (ue c_Q74_4.eq_1) <| And.intro (ue c_Q74_5.eq_1) <| And.intro (ue c_Q74_6.eq_1) <| And.intro (ue c_Q74_7.eq_1) <| sc_Q74.eq_1
theorem comp_Q74 : comp Tryz.prog Tryz.f74 = some sc_Q74 := by kernel_rfl
def sc_Q26 : SFunc := ⟨1, 14, .seq (.reg [⟨some 2, none, .v (.mov (.c (.bool false)))⟩]) (.seq (.reg [⟨some 3, none, .v (.mov (.t 0))⟩, ⟨some 4, none, .v (.len false (.t 3))⟩, ⟨some 5, none, .v (.bin .gtr (.t 4) (.c (.int .i64 0)))⟩, ⟨some 6, none, .v (.mov (.t 5))⟩, ⟨some 7, some (6, true), .v (.mov (.t 0))⟩, ⟨some 8, some (6, true), .v (.mov (.t 0))⟩, ⟨some 9, some (6, true), .v (.len false (.t 8))⟩, ⟨some 10, some (6, true), .v (.bin .sub (.t 9) (.c (.int .i64 1)))⟩, ⟨some 11, some (6, true), .call (.c (.func 47 [])) [(.t 7), (.t 10)]⟩, ⟨some 12, some (6, true), .v (.bin .eql (.t 11) (.c (.int .i64 0)))⟩, ⟨some 13, none, .v (.pick (.t 6) (.t 12) (.c (.bool false)))⟩, ⟨some 2, none, .v (.mov (.t 13))⟩]) .ret), [(.t 2)]⟩
theorem U_Q26 : type_of% (sc_Q26.eq_1) := sc_Q26.eq_1
theorem comp_Q26 : comp Tryz.prog Tryz.f26 = some sc_Q26 := by kernel_rfl
end Go.Proofs.YtfbcnpbhhooapaaGreatDoor.M
namespace Go.Proofs.YtfbcnpbhhooapaaGreatDoor.M
set_option linter.unusedSimpArgs false
set_option linter.unusedVariables false
open Go Classical
theorem sp_slices_IndexFunc_api_Block_api_Block : SP 80 = some (.code sc_slices_IndexFunc_api_Block_api_Block) := SPof_code rfl Tryz.func80 comp_slices_IndexFunc_api_Block_api_Block
theorem G_slices_IndexFunc_api_Block_api_Block (xs : List Block) (g : Nat) (caps : List PV) (p : Block → Bool) (S : Sto) (hl : xs.length < 9223372036854775808) (h1 : ∀ S, handA S (PV.upL caps) = some (PV.upL caps, S)) (h2 : (PV.upL caps).any PV.hasSl = false) (h3 : ∀ a, joinA a (PV.upL caps) = a ++ PV.upL caps) (hc : ∀ x, x ∈ xs → ∀ f, call SP g (.agg (eBlock x) :: PV.upL caps) (f :: S) = .ok (.v (.bool (p x))) (f :: S)) : call SP 80 [.list 4 (xs.map eBlock) false, .func g caps] S = .ok (.v (.int .i64 (findI p 0 xs))) S := by
  have loop : ∀ (k i : Nat), i + k = xs.length → ∀ (e : Nat → PV) (f : Fr), e 0 = .list 4 (xs.map eBlock) false ∧ e 1 = .func g (PV.upL caps) ∧ e 7 = .int .i64 ((xs.length : Nat) : Int) ∧ e 8 = .int .i64 ((i : Nat) : Int) → k_slices_IndexFunc_api_Block_api_Block_1 SP (E SP (.loop b_slices_IndexFunc_api_Block_api_Block_1) ⟨e, f :: S⟩) = .ok (.v (.int .i64 (findI p i (xs.drop i)))) S := by
    intro k
    induction k with
    | zero =>
      intro i hi e f h
      have hlt : ¬ (((i : Nat) : Int) < ((xs.length : Nat) : Int)) := by omega
      rw [List.drop_eq_nil_of_le (by omega)]
      unfold k_slices_IndexFunc_api_Block_api_Block_1 findI
      rw [E_loop]
      simp only [h, hlt, U_slices_IndexFunc_api_Block_api_Block, lw, lx, le, Nat.reduceMul, UInt8.reduceToNat, reduceIte, reduceCtorEq, Nat.reduceEqDiff, Nat.reduceAdd, Nat.reduceLeDiff, Nat.reduceSub, Nat.reduceLT, Int.reduceEq, Int.reduceLT, Int.reduceLE, Int.reduceToNat, Int.reduceAdd, Int.reduceSub, Int.reduceMul, Int.reduceNeg, h1, h2, h3]
    | succ k ih =>
      intro i hi e f h
      have hlt : (((i : Nat) : Int) < ((xs.length : Nat) : Int)) := by omega
      have hi' : i < xs.length := by omega
      have hv : xs[i]? = some xs[i] := List.getElem?_eq_getElem hi'
      have hcx := hc xs[i] (List.getElem_mem hi')
      have w1 : IntKind.i64.wrap ((i : Int) + 1) = ((i + 1 : Nat) : Int) := by rw [wrap_i64 (by omega) (by omega)]; omega
      rw [List.drop_eq_getElem_cons hi']
      simp only [le] at hcx
      have hi2 := ih (i + 1) (by omega)
      unfold k_slices_IndexFunc_api_Block_api_Block_1 at hi2 ⊢
      unfold findI
      rw [E_loop]
      cases hp : p xs[i] with
      | true =>
        rw [hp] at hcx
        simp only [h, hlt, hv, hcx, w1, nat_nonneg, Int.toNat_natCast, U_slices_IndexFunc_api_Block_api_Block, lw, lx, le, Nat.reduceMul, UInt8.reduceToNat, reduceIte, reduceCtorEq, Nat.reduceEqDiff, Nat.reduceAdd, Nat.reduceLeDiff, Nat.reduceSub, Nat.reduceLT, Int.reduceEq, Int.reduceLT, Int.reduceLE, Int.reduceToNat, Int.reduceAdd, Int.reduceSub, Int.reduceMul, Int.reduceNeg, h1, h2, h3]
      | false =>
        rw [hp] at hcx
        simp only [h, hlt, hv, hcx, w1, nat_nonneg, Int.toNat_natCast, U_slices_IndexFunc_api_Block_api_Block, lw, lx, le, Nat.reduceMul, UInt8.reduceToNat, reduceIte, reduceCtorEq, Nat.reduceEqDiff, Nat.reduceAdd, Nat.reduceLeDiff, Nat.reduceSub, Nat.reduceLT, Int.reduceEq, Int.reduceLT, Int.reduceLE, Int.reduceToNat, Int.reduceAdd, Int.reduceSub, Int.reduceMul, Int.reduceNeg, h1, h2, h3]
        rw [hi2 _ _ ?_]
        simp only [h, w1, U_slices_IndexFunc_api_Block_api_Block, lw, lx, le, Nat.reduceMul, UInt8.reduceToNat, reduceIte, reduceCtorEq, Nat.reduceEqDiff, Nat.reduceAdd, Nat.reduceLeDiff, Nat.reduceSub, Nat.reduceLT, Int.reduceEq, Int.reduceLT, Int.reduceLE, Int.reduceToNat, Int.reduceAdd, Int.reduceSub, Int.reduceMul, Int.reduceNeg, h1, h2, h3]
  rw [call_code sp_slices_IndexFunc_api_Block_api_Block _ _ rfl]
  simp only [U_slices_IndexFunc_api_Block_api_Block, lw, lx, le, Nat.reduceMul, UInt8.reduceToNat, reduceIte, reduceCtorEq, Nat.reduceEqDiff, Nat.reduceAdd, Nat.reduceLeDiff, Nat.reduceSub, Nat.reduceLT, Int.reduceEq, Int.reduceLT, Int.reduceLE, Int.reduceToNat, Int.reduceAdd, Int.reduceSub, Int.reduceMul, Int.reduceNeg, h1, h2, h3]
  have := loop xs.length 0 (by omega)
  unfold k_slices_IndexFunc_api_Block_api_Block_1 at this
  rw [this _ _ ?_]
  · rw [List.drop_zero]
  · simp only [U_slices_IndexFunc_api_Block_api_Block, lw, lx, le, Nat.reduceMul, UInt8.reduceToNat, reduceIte, reduceCtorEq, Nat.reduceEqDiff, Nat.reduceAdd, Nat.reduceLeDiff, Nat.reduceSub, Nat.reduceLT, Int.reduceEq, Int.reduceLT, Int.reduceLE, Int.reduceToNat, Int.reduceAdd, Int.reduceSub, Int.reduceMul, Int.reduceNeg, h1, h2, h3]
    try simp
theorem sp_slices_ContainsFunc_api_Block_api_Block : SP 50 = some (.code sc_slices_ContainsFunc_api_Block_api_Block) := SPof_code rfl Tryz.func50 comp_slices_ContainsFunc_api_Block_api_Block
theorem G_slices_ContainsFunc_api_Block_api_Block (xs : List Block) (g : Nat) (caps : List PV) (p : Block → Bool) (S : Sto) (hl : xs.length < 9223372036854775808) (h1 : ∀ S, handA S (PV.upL caps) = some (PV.upL caps, S)) (h2 : (PV.upL caps).any PV.hasSl = false) (h3 : ∀ a, joinA a (PV.upL caps) = a ++ PV.upL caps) (h1' : ∀ S, handA S (PV.upL (PV.upL caps)) = some (PV.upL (PV.upL caps), S)) (h2' : (PV.upL (PV.upL caps)).any PV.hasSl = false) (h3' : ∀ a, joinA a (PV.upL (PV.upL caps)) = a ++ PV.upL (PV.upL caps)) (hc : ∀ x, x ∈ xs → ∀ f f', call SP g (.agg (eBlock x) :: PV.upL (PV.upL caps)) (f :: f' :: S) = .ok (.v (.bool (p x))) (f :: f' :: S)) : call SP 50 [.list 4 (xs.map eBlock) false, .func g caps] S = .ok (.v (.bool (xs.any p))) S := by
  have ix := fun f' => G_slices_IndexFunc_api_Block_api_Block xs g (PV.upL caps) p (f' :: S) hl h1' h2' h3' fun x hx f => hc x hx f f'
  have hd := findI_dec p xs
  rw [call_code sp_slices_ContainsFunc_api_Block_api_Block _ _ rfl]
  simp only [ix, hd, U_slices_ContainsFunc_api_Block_api_Block, lw, lx, le, Nat.reduceMul, UInt8.reduceToNat, reduceIte, reduceCtorEq, Nat.reduceEqDiff, Nat.reduceAdd, Nat.reduceLeDiff, Nat.reduceSub, Nat.reduceLT, Int.reduceEq, Int.reduceLT, Int.reduceLE, Int.reduceToNat, Int.reduceAdd, Int.reduceSub, Int.reduceMul, Int.reduceNeg, h1, h2, h3]
end Go.Proofs.YtfbcnpbhhooapaaGreatDoor.M
