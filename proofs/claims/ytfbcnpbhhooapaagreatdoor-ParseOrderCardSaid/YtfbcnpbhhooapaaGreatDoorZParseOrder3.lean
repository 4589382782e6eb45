/- Parts of a proof, one behind another: Lp, Lw, Ty, Rc, Bk1, Bk2, Bk3, X0, R, R2, Sc9, Lt9, Sc1, Lt1, Sc2. -/
import Derived.Test.YtfbcnpbhhooapaaGreatDoorZParseOrder2
import Derived.Test.YtfbcnpbhhooapaaGreatDoorProg
import Derived.KernelRfl
import Derived.Tactics
import Derived.Tactics2
import Derived.Laws.Pointers
import Derived.RangeFuncNested
import Derived.RangeFuncBound
import Derived.RangeFuncCalls
import Derived.RangeFuncLeaves
import Derived.Shelf.Abstract
import Derived.WalkKit
import Derived.OwnWalkIn
import Derived.TacticsInMore
import Derived.LoopNIn
import Derived.LoopIn
set_option maxHeartbeats 4000000
namespace Go.Proofs.YtfbcnpbhhooapaaGreatDoor.M
set_option linter.unusedSimpArgs false
set_option linter.unusedVariables false
open Go Classical
def po (T : Nat) (o : Option Int) (r : Ret) (S : Sto) : CO := match o with | none => .ok r S | some e => .pan (.iface T (.int .i64 e)) S
theorem po_none (T : Nat) (r : Ret) (S : Sto) : po T none r S = .ok r S := rfl
theorem po_some (T : Nat) (e : Int) (r : Ret) (S : Sto) : po T (some e) r S = .pan (.iface T (.int .i64 e)) S := rfl
theorem take_some {o : Option (List PV)} {k : Nat} {l : List PV} (h : o.map (List.take k) = some l) : ∃ r, o = some (l ++ r) := by
 cases o with
 | none => cases h
 | some c => simp only [Option.map_some, Option.some.injEq] at h; exact ⟨c.drop k, by rw [← h, List.take_append_drop]⟩
theorem o_getBox_lt : ∀ {S : Sto} {n t : Nat} {c : List PV}, getBox S n t = some c → n < S.length
 | [], _, _, _, h => by simp [getBox] at h
 | _ :: _, 0, _, _, _ => by simp
 | _ :: S, n + 1, t, c, h => by have := o_getBox_lt (S := S) (n := n) (t := t) (c := c) h; simp; omega
theorem o_length_setBox : ∀ (S : Sto) (n t : Nat) (c : List PV), (setBox S n t c).length = S.length
 | [], _, _, _ => rfl
 | _ :: _, 0, _, _ => rfl
 | _ :: S, n + 1, t, c => by simp [setBox, o_length_setBox S n t c]
theorem o_length_setArr : ∀ (S : Sto) (n : Nat) (k : AK) (A : Arr), (setArr S n k A).length = S.length
 | [], _, _, _ => rfl
 | _ :: _, 0, _, _ => rfl
 | _ :: S, n + 1, t, c => by simp [setArr, o_length_setArr S n t c]
theorem o_getBox_setBox : ∀ {S : Sto} {n : Nat} (t : Nat) (c : List PV), n < S.length → getBox (setBox S n t c) n t = some c
 | [], _, _, _, h => by simp at h
 | _ :: _, 0, _, _, _ => by simp [setBox, getBox, upd]
 | _ :: S, n + 1, t, c, h => by simp only [setBox, getBox]; exact o_getBox_setBox t c (by simpa using h)
theorem o_getArr_setArr : ∀ {S : Sto} {n : Nat} (k : AK) (A : Arr), n < S.length → getArr (setArr S n k A) n k = some A
 | [], _, _, _, h => by simp at h
 | _ :: _, 0, _, _, _ => by simp [setArr, getArr, updK]
 | _ :: S, n + 1, t, c, h => by simp only [setArr, getArr]; exact o_getArr_setArr t c (by simpa using h)
theorem o_getBox_setArr : ∀ (S : Sto) (m : Nat) (k : AK) (A : Arr) (n t : Nat), getBox (setArr S m k A) n t = getBox S n t
 | [], _, _, _, _, _ => rfl
 | _ :: _, 0, _, _, 0, _ => rfl
 | _ :: _, 0, _, _, _ + 1, _ => rfl
 | _ :: _, _ + 1, _, _, 0, _ => rfl
 | _ :: S, m + 1, k, A, n + 1, t => by simp only [setArr, getBox]; exact o_getBox_setArr S m k A n t
theorem o_getArr_setBox : ∀ (S : Sto) (m t : Nat) (c : List PV) (n : Nat) (k : AK), getArr (setBox S m t c) n k = getArr S n k
 | [], _, _, _, _, _ => rfl
 | _ :: _, 0, _, _, 0, _ => rfl
 | _ :: _, 0, _, _, _ + 1, _ => rfl
 | _ :: _, _ + 1, _, _, 0, _ => rfl
 | _ :: S, m + 1, k, A, n + 1, t => by simp only [setBox, getArr]; exact o_getArr_setBox S m k A n t
theorem o_upd_upd {α : Type} (f : Nat → α) (i : Nat) (a b : α) : upd (upd f i a) i b = upd f i b := by
 funext j; simp only [upd]; split <;> rfl
theorem o_updK_updK {α : Type} (f : AK → α) (i : AK) (a b : α) : updK (updK f i a) i b = updK f i b := by
 funext j; simp only [updK]; split <;> rfl
theorem o_setBox_setBox : ∀ (S : Sto) (n t : Nat) (a b : List PV), setBox (setBox S n t a) n t b = setBox S n t b
 | [], _, _, _, _ => rfl
 | _ :: _, 0, _, _, _ => by simp [setBox, o_upd_upd]
 | _ :: S, n + 1, t, a, b => by simp only [setBox, o_setBox_setBox S n t a b]
theorem o_setArr_setArr : ∀ (S : Sto) (n : Nat) (k : AK) (a b : Arr), setArr (setArr S n k a) n k b = setArr S n k b
 | [], _, _, _, _ => rfl
 | _ :: _, 0, _, _, _ => by simp [setArr, o_updK_updK]
 | _ :: S, n + 1, t, a, b => by simp only [setArr, o_setArr_setArr S n t a b]
theorem o_setBox_setArr : ∀ (S : Sto) (m : Nat) (k : AK) (A : Arr) (n t : Nat) (c : List PV), setBox (setArr S m k A) n t c = setArr (setBox S n t c) m k A
 | [], _, _, _, _, _, _ => rfl
 | _ :: _, 0, _, _, 0, _, _ => rfl
 | _ :: _, 0, _, _, _ + 1, _, _ => rfl
 | _ :: _, _ + 1, _, _, 0, _, _ => rfl
 | _ :: S, m + 1, k, A, n + 1, t, c => by simp only [setArr, setBox, o_setBox_setArr S m k A n t c]
theorem o_setBox_same : ∀ {S : Sto} {n t : Nat} {c : List PV}, getBox S n t = some c → setBox S n t c = S
 | [], _, _, _, h => rfl
 | f :: _, 0, t, c, h => by
  simp only [getBox] at h
  have : upd f.box t (some c) = f.box := by funext j; simp only [upd]; split <;> simp_all
  simp [setBox, this]
 | _ :: S, n + 1, t, c, h => by simp only [setBox]; rw [o_setBox_same (S := S) (n := n) h]
theorem o_setArr_same : ∀ {S : Sto} {n : Nat} {k : AK} {A : Arr}, getArr S n k = some A → setArr S n k A = S
 | [], _, _, _, h => rfl
 | f :: _, 0, t, c, h => by
  simp only [getArr] at h
  have : updK f.arr t (some c) = f.arr := by funext j; simp only [updK]; split <;> simp_all
  simp [setArr, this]
 | _ :: S, n + 1, t, c, h => by simp only [setArr]; rw [o_setArr_same (S := S) (n := n) h]
theorem o_getBox_ne : ∀ (S : Sto) (n t : Nat) (c : List PV) (m u : Nat), n ≠ m → getBox (setBox S n t c) m u = getBox S m u
 | [], _, _, _, _, _, _ => rfl
 | _ :: _, 0, _, _, 0, _, h => absurd rfl h
 | _ :: _, 0, _, _, _ + 1, _, _ => rfl
 | _ :: _, _ + 1, _, _, 0, _, _ => rfl
 | _ :: S, n + 1, t, c, m + 1, u, h => by simp only [setBox, getBox]; exact o_getBox_ne S n t c m u (fun e => h (by rw [e]))
theorem o_getArr_ne : ∀ (S : Sto) (n : Nat) (k : AK) (c : Arr) (m : Nat) (u : AK), n ≠ m → getArr (setArr S n k c) m u = getArr S m u
 | [], _, _, _, _, _, _ => rfl
 | _ :: _, 0, _, _, 0, _, h => absurd rfl h
 | _ :: _, 0, _, _, _ + 1, _, _ => rfl
 | _ :: _, _ + 1, _, _, 0, _, _ => rfl
 | _ :: S, n + 1, t, c, m + 1, u, h => by simp only [setArr, getArr]; exact o_getArr_ne S n t c m u (fun e => h (by rw [e]))
theorem o_setBox_comm : ∀ (S : Sto) (n t : Nat) (c : List PV) (m u : Nat) (d : List PV), n ≠ m → setBox (setBox S m u d) n t c = setBox (setBox S n t c) m u d
 | [], _, _, _, _, _, _, _ => rfl
 | _ :: _, 0, _, _, 0, _, _, h => absurd rfl h
 | _ :: _, 0, _, _, _ + 1, _, _, _ => rfl
 | _ :: _, _ + 1, _, _, 0, _, _, _ => rfl
 | _ :: S, n + 1, t, c, m + 1, u, d, h => by simp only [setBox]; rw [o_setBox_comm S n t c m u d (fun e => h (by rw [e]))]
theorem o_setArr_comm : ∀ (S : Sto) (n : Nat) (t : AK) (c : Arr) (m : Nat) (u : AK) (d : Arr), n ≠ m → setArr (setArr S m u d) n t c = setArr (setArr S n t c) m u d
 | [], _, _, _, _, _, _, _ => rfl
 | _ :: _, 0, _, _, 0, _, _, h => absurd rfl h
 | _ :: _, 0, _, _, _ + 1, _, _, _ => rfl
 | _ :: _, _ + 1, _, _, 0, _, _, _ => rfl
 | _ :: S, n + 1, t, c, m + 1, u, d, h => by simp only [setArr]; rw [o_setArr_comm S n t c m u d (fun e => h (by rw [e]))]
theorem two_ne {n m : Nat} (h : n ≠ m) : (∀ (S : Sto) (t : Nat) (c : List PV) (u : Nat), getBox (setBox S n t c) m u = getBox S m u) ∧ (∀ (S : Sto) (t : Nat) (c : List PV) (u : Nat), getBox (setBox S m t c) n u = getBox S n u) ∧
  (∀ (S : Sto) (t : AK) (c : Arr) (u : AK), getArr (setArr S n t c) m u = getArr S m u) ∧ (∀ (S : Sto) (t : AK) (c : Arr) (u : AK), getArr (setArr S m t c) n u = getArr S n u) ∧
  (∀ (S : Sto) (t : Nat) (c : List PV) (u : Nat) (d : List PV), setBox (setBox S m u d) n t c = setBox (setBox S n t c) m u d) ∧ (∀ (S : Sto) (t : AK) (c : Arr) (u : AK) (d : Arr), setArr (setArr S m u d) n t c = setArr (setArr S n t c) m u d) :=
 ⟨fun S t c u => o_getBox_ne S n t c m u h, fun S t c u => o_getBox_ne S m t c n u (Ne.symm h), fun S t c u => o_getArr_ne S n t c m u h, fun S t c u => o_getArr_ne S m t c n u (Ne.symm h), fun S t c u d => o_setBox_comm S n t c m u d h, fun S t c u d => o_setArr_comm S n t c m u d h⟩
theorem o_upN_int : ∀ (n : Nat) (k : IntKind) (x : Int), PV.upN n (.int k x) = .int k x
 | 0, _, _ => rfl
 | n + 1, k, x => by simp [PV.upN, o_upN_int n k x, PV.up]
theorem o_upN_bool : ∀ (n : Nat) (x : Bool), PV.upN n (.bool x) = .bool x
 | 0, _ => rfl
 | n + 1, x => by simp [PV.upN, o_upN_bool n x, PV.up]
theorem o_upN_str : ∀ (n : Nat) (x : List UInt8), PV.upN n (.str x) = .str x
 | 0, _ => rfl
 | n + 1, x => by simp [PV.upN, o_upN_str n x, PV.up]
theorem o_upN_list : ∀ (n z : Nat) (x : List (List PV)) (f : Bool), PV.upN n (.list z x f) = .list z x f
 | 0, _, _, _ => rfl
 | n + 1, z, x, f => by simp [PV.upN, o_upN_list n z x f, PV.up]
theorem o_upN_sl : ∀ (n m : Nat) (a : AK) (o l v g : Nat) (f : Bool), PV.upN n (.sl m a o l v g f) = .sl (m + n) a o l v g f
 | 0, _, _, _, _, _, _, _ => rfl
 | n + 1, m, a, o, l, v, g, f => by simp [PV.upN, o_upN_sl n m a o l v g f, PV.up]; omega
theorem o_upL_map : ∀ (l : List PV), PV.upL l = l.map PV.up
 | [] => rfl
 | v :: l => by simp [PV.upL, o_upL_map l]
theorem o_upN_agg : ∀ (n : Nat) (l : List PV), PV.upN n (.agg l) = .agg (l.map (PV.upN n))
 | 0, l => by simp [PV.upN]
 | n + 1, l => by simp [PV.upN, o_upN_agg n l, PV.up, o_upL_map]
theorem o_dnN_int : ∀ (n : Nat) (k : IntKind) (x : Int), PV.dnN n (.int k x) = some (.int k x)
 | 0, _, _ => rfl
 | n + 1, k, x => by simp [PV.dnN, PV.dn, o_dnN_int n k x]
theorem o_dnN_bool : ∀ (n : Nat) (x : Bool), PV.dnN n (.bool x) = some (.bool x)
 | 0, _ => rfl
 | n + 1, x => by simp [PV.dnN, PV.dn, o_dnN_bool n x]
theorem o_dnN_str : ∀ (n : Nat) (x : List UInt8), PV.dnN n (.str x) = some (.str x)
 | 0, _ => rfl
 | n + 1, x => by simp [PV.dnN, PV.dn, o_dnN_str n x]
theorem o_upN_func : ∀ (n f : Nat), PV.upN n (.func f []) = .func f []
 | 0, _ => rfl
 | n + 1, f => by simp [PV.upN, o_upN_func n f, PV.up, PV.upL]
theorem app_lit {α : Type} (xs : List α) (a : α) (l : List α) (b : α) (m : List α) : (xs ++ (a :: l)) ++ (b :: m) = xs ++ (a :: (l ++ (b :: m))) := by simp
theorem succ_ne_zero' (n : Nat) : (n + 1 = 0) = False := by simp
mutual
theorem o_kill_up (d : Nat) : ∀ v : PV, v.up.kill d = v.up
 | .bool _ | .int _ _ | .str _ | .nils _ | .list _ _ _ | .rowp _ _ | .nili | .nile | .undef | .junk => by simp [PV.up, PV.kill]
 | .agg vs => by simp [PV.up, PV.kill, o_killL_up d vs]
 | .tup vs => by simp [PV.up, PV.kill, o_killL_up d vs]
 | .ptr n t o => by simp [PV.up, PV.kill]
 | .elem n a i o v g => by simp [PV.up, PV.kill]
 | .sl n a o l v g f => by simp [PV.up, PV.kill]
 | .func f caps => by simp [PV.up, PV.kill, o_killL_up d caps]
 | .iface t v => by simp [PV.up, PV.kill, o_kill_up d v]
theorem o_killL_up (d : Nat) : ∀ vs : List PV, PV.killL d (PV.upL vs) = PV.upL vs
 | [] => by simp [PV.upL, PV.killL]
 | v :: vs => by simp [PV.upL, PV.killL, o_kill_up d v, o_killL_up d vs]
end
def findI {α : Type} (p : α → Bool) : Nat → List α → Int
 | _, [] => -1
 | i, x :: xs => if p x = true then (i : Int) else findI p (i + 1) xs
theorem findI_any {α : Type} (p : α → Bool) : ∀ (i : Nat) (xs : List α), (0 ≤ findI p i xs) ↔ xs.any p = true
 | i, [] => by simp [findI]
 | i, x :: xs => by
  have := findI_any p (i + 1) xs
  simp only [findI, List.any_cons]
  cases p x <;> simp [this]
theorem findI_dec {α : Type} (p : α → Bool) (xs : List α) : decide (0 ≤ findI p 0 xs) = xs.any p := by
 have := findI_any p 0 xs
 cases h : xs.any p <;> simp [h] at this ⊢ <;> omega
theorem take_app3 {α β : Type} (f : α → β) (a c : List α) (x : β) : (a.map f ++ [x] ++ c.map f).take (a.length + 1 + c.length) = a.map f ++ [x] ++ c.map f := List.take_of_length_le (by simp; omega)
theorem set_get {α : Type} (l : List α) (i : Nat) (a : α) : (l.set i a)[i]? = (l[i]?).map fun _ => a := by
 rw [List.getElem?_set]
 by_cases h : i < l.length
 ·simp [h]
 ·simp [h]
theorem take_set {α β : Type} (f : α → β) (l : List α) (i : Nat) (x : β) : ((l.map f).set i x).take l.length = (l.map f).set i x := List.take_of_length_le (by simp)
end Go.Proofs.YtfbcnpbhhooapaaGreatDoor.M
namespace Go.Proofs.YtfbcnpbhhooapaaGreatDoor.M
open Go Classical
set_option maxRecDepth 10000
theorem V_k (k n : Int) (s : List UInt8) (l : List V) : (V.mk k n s l).k = k := rfl
theorem V_n (k n : Int) (s : List UInt8) (l : List V) : (V.mk k n s l).n = n := rfl
theorem V_s (k n : Int) (s : List UInt8) (l : List V) : (V.mk k n s l).s = s := rfl
theorem V_l (k n : Int) (s : List UInt8) (l : List V) : (V.mk k n s l).l = l := rfl
theorem lw0 : type_of% (And.intro @List.map_cons.{0,0} <| And.intro @List.map_nil.{0,0} <| And.intro @PV.up.eq_1 <| And.intro @PV.up.eq_2 <| And.intro @PV.up.eq_3 <| And.intro @PV.up.eq_4 <| And.intro @PV.up.eq_5 <| And.intro @PV.up.eq_6 <| And.intro @PV.up.eq_7 <| And.intro @PV.up.eq_8 <| And.intro @PV.up.eq_9 <| And.intro @PV.up.eq_10 <| And.intro @PV.up.eq_11 <| And.intro @PV.up.eq_12 <| And.intro @PV.up.eq_13 <| And.intro @PV.up.eq_14 <| And.intro @PV.up.eq_15 <| And.intro @PV.up.eq_16 <| And.intro @PV.upL.eq_1 <| And.intro @PV.upL.eq_2 <| And.intro @E_seq <| And.intro @E_reg <| And.intro @E_block <| And.intro @E_cnd <| And.intro @E_skip <| And.intro @E_exit <| And.intro @E_ret <| And.intro @E_dreg <| And.intro @thC_nor <| And.intro @thC_ret <| And.intro @thC_ext <| And.intro @thC_pan <| And.intro @inBlk_ext <| And.intro @inBlk_nor <| And.intro @inBlk_ret <| And.intro @inBlk_pan <| And.intro @evOps_cons <| And.intro @evOps_nil <| And.intro @thOps_ok <| And.intro @thOps_pan <| And.intro @evD_cons <| And.intro @evD_nil <| And.intro @thD_tot <| And.intro @thD_same <| And.intro @List.tail_cons.{0} <| And.intro @stp_none <| And.intro @stp_some <| And.intro @gd_tt <| And.intro @gd_ff <| And.intro @gd_tf <| And.intro @gd_ft <| And.intro @gd_undef <| And.intro @gd_td <| And.intro @gd_fd <| And.intro @ex_v <| And.intro @vo_some <| And.intro @ex.eq_1 <| And.intro @ex.eq_2 <| And.intro @ex.eq_3 <| @ex.eq_4) := And.intro @List.map_cons.{0,0} <| And.intro @List.map_nil.{0,0} <| And.intro @PV.up.eq_1 <| And.intro @PV.up.eq_2 <| And.intro @PV.up.eq_3 <| And.intro @PV.up.eq_4 <| And.intro @PV.up.eq_5 <| And.intro @PV.up.eq_6 <| And.intro @PV.up.eq_7 <| And.intro @PV.up.eq_8 <| And.intro @PV.up.eq_9 <| And.intro @PV.up.eq_10 <| And.intro @PV.up.eq_11 <| And.intro @PV.up.eq_12 <| And.intro @PV.up.eq_13 <| And.intro @PV.up.eq_14 <| And.intro @PV.up.eq_15 <| And.intro @PV.up.eq_16 <| And.intro @PV.upL.eq_1 <| And.intro @PV.upL.eq_2 <| And.intro @E_seq <| And.intro @E_reg <| And.intro @E_block <| And.intro @E_cnd <| And.intro @E_skip <| And.intro @E_exit <| And.intro @E_ret <| And.intro @E_dreg <| And.intro @thC_nor <| And.intro @thC_ret <| And.intro @thC_ext <| And.intro @thC_pan <| And.intro @inBlk_ext <| And.intro @inBlk_nor <| And.intro @inBlk_ret <| And.intro @inBlk_pan <| And.intro @evOps_cons <| And.intro @evOps_nil <| And.intro @thOps_ok <| And.intro @thOps_pan <| And.intro @evD_cons <| And.intro @evD_nil <| And.intro @thD_tot <| And.intro @thD_same <| And.intro @List.tail_cons.{0} <| And.intro @stp_none <| And.intro @stp_some <| And.intro @gd_tt <| And.intro @gd_ff <| And.intro @gd_tf <| And.intro @gd_ft <| And.intro @gd_undef <| And.intro @gd_td <| And.intro @gd_fd <| And.intro @ex_v <| And.intro @vo_some <| And.intro @ex.eq_1 <| And.intro @ex.eq_2 <| And.intro @ex.eq_3 <| @ex.eq_4
theorem lw1 : type_of% (And.intro @ex.eq_5 <| And.intro @ex.eq_6 <| And.intro @ex.eq_7 <| And.intro @ex.eq_8 <| And.intro @ex_store <| And.intro @stO_some <| And.intro @ex.eq_11 <| And.intro @ex.eq_12 <| And.intro @ex.eq_13 <| And.intro @ex.eq_14 <| And.intro @vop.eq_1 <| And.intro @vop.eq_2 <| And.intro @vop.eq_3 <| And.intro @vop.eq_4 <| And.intro @vop.eq_5 <| And.intro @vop.eq_6 <| And.intro @vop.eq_7 <| And.intro @vop.eq_8 <| And.intro @vop.eq_9 <| And.intro @vop.eq_10 <| And.intro @vop.eq_11 <| And.intro @vop.eq_12 <| And.intro @vop.eq_13 <| And.intro @vop.eq_14 <| And.intro @vop.eq_15 <| And.intro @vop.eq_16 <| And.intro @vop.eq_17 <| And.intro @vop.eq_18 <| And.intro @vop.eq_19 <| And.intro @vop.eq_20 <| And.intro @vop.eq_21 <| And.intro @vop.eq_22 <| And.intro @ev_t <| And.intro @ev_c <| And.intro @put_some <| And.intro @put_none <| And.intro @upd_same <| And.intro @upd_ne <| And.intro @updK_same <| And.intro @updK_ne <| And.intro @ne_eq.{1} <| And.intro @argE_at <| And.intro @List.getElem?_cons_zero.{0} <| And.intro @List.getElem?_cons_succ.{0} <| And.intro @Option.getD_some.{0} <| And.intro @PV.cells.eq_1 <| And.intro @PV.cells.eq_2 <| And.intro @List.all_cons.{0} <| And.intro @List.all_nil.{0} <| And.intro @PV.one.eq_1 <| And.intro @PV.one.eq_2 <| And.intro @PV.one.eq_3 <| And.intro @PV.one.eq_4 <| And.intro @PV.one.eq_5 <| And.intro @Bool.and_true <| And.intro @Bool.true_and <| And.intro @if_true.{1} <| And.intro @and_self <| And.intro @true_and <| @and_true) := And.intro @ex.eq_5 <| And.intro @ex.eq_6 <| And.intro @ex.eq_7 <| And.intro @ex.eq_8 <| And.intro @ex_store <| And.intro @stO_some <| And.intro @ex.eq_11 <| And.intro @ex.eq_12 <| And.intro @ex.eq_13 <| And.intro @ex.eq_14 <| And.intro @vop.eq_1 <| And.intro @vop.eq_2 <| And.intro @vop.eq_3 <| And.intro @vop.eq_4 <| And.intro @vop.eq_5 <| And.intro @vop.eq_6 <| And.intro @vop.eq_7 <| And.intro @vop.eq_8 <| And.intro @vop.eq_9 <| And.intro @vop.eq_10 <| And.intro @vop.eq_11 <| And.intro @vop.eq_12 <| And.intro @vop.eq_13 <| And.intro @vop.eq_14 <| And.intro @vop.eq_15 <| And.intro @vop.eq_16 <| And.intro @vop.eq_17 <| And.intro @vop.eq_18 <| And.intro @vop.eq_19 <| And.intro @vop.eq_20 <| And.intro @vop.eq_21 <| And.intro @vop.eq_22 <| And.intro @ev_t <| And.intro @ev_c <| And.intro @put_some <| And.intro @put_none <| And.intro @upd_same <| And.intro @upd_ne <| And.intro @updK_same <| And.intro @updK_ne <| And.intro @ne_eq.{1} <| And.intro @argE_at <| And.intro @List.getElem?_cons_zero.{0} <| And.intro @List.getElem?_cons_succ.{0} <| And.intro @Option.getD_some.{0} <| And.intro @PV.cells.eq_1 <| And.intro @PV.cells.eq_2 <| And.intro @List.all_cons.{0} <| And.intro @List.all_nil.{0} <| And.intro @PV.one.eq_1 <| And.intro @PV.one.eq_2 <| And.intro @PV.one.eq_3 <| And.intro @PV.one.eq_4 <| And.intro @PV.one.eq_5 <| And.intro @Bool.and_true <| And.intro @Bool.true_and <| And.intro @if_true.{1} <| And.intro @and_self <| And.intro @true_and <| @and_true
theorem lw2 : type_of% (And.intro @killS.eq_1 <| And.intro @killS.eq_2 <| And.intro @kill_box <| And.intro @kill_arr <| And.intro @e_box <| And.intro @e_arr <| And.intro @AK.tmp.eq_1 <| And.intro @AK.tmp.eq_2 <| And.intro @PV.killL.eq_1 <| And.intro @PV.killL.eq_2 <| And.intro @PV.kill.eq_1 <| And.intro @PV.kill.eq_2 <| And.intro @PV.kill.eq_3 <| And.intro @PV.kill.eq_4 <| And.intro @PV.kill.eq_5 <| And.intro @PV.kill.eq_6 <| And.intro @PV.kill.eq_7 <| And.intro @PV.kill.eq_8 <| And.intro @PV.kill.eq_9 <| And.intro @PV.kill.eq_10 <| And.intro @PV.kill.eq_11 <| And.intro @PV.kill.eq_12 <| And.intro @PV.kill.eq_13 <| And.intro @PV.kill.eq_14 <| And.intro @PV.kill.eq_15 <| And.intro @PV.kill.eq_16 <| And.intro @killE_at <| And.intro @newBox.eq_1 <| And.intro @newBox.eq_2 <| And.intro @initC.eq_1 <| And.intro @initC.eq_2 <| And.intro @initC.eq_3 <| And.intro @initA.eq_1 <| And.intro @initA.eq_2 <| And.intro @initA.eq_3 <| And.intro @ld.eq_1 <| And.intro @ld.eq_2 <| And.intro @ld.eq_3 <| And.intro @ld.eq_4 <| And.intro @getBox.eq_1 <| And.intro @getBox.eq_2 <| And.intro @getBox.eq_3 <| And.intro @setBox.eq_1 <| And.intro @setBox.eq_2 <| And.intro @setBox.eq_3 <| And.intro @getArr.eq_1 <| And.intro @getArr.eq_2 <| And.intro @getArr.eq_3 <| And.intro @setArr.eq_1 <| And.intro @setArr.eq_2 <| And.intro @setArr.eq_3 <| And.intro @pickC.eq_1 <| And.intro @pickC.eq_2 <| And.intro @Option.map_some.{0,0} <| And.intro @Option.map_none.{0,0} <| And.intro @PV.upN.eq_1 <| And.intro @PV.upN.eq_2 <| And.intro @binP.eq_1 <| And.intro @binP.eq_2 <| @binP.eq_3) := And.intro @killS.eq_1 <| And.intro @killS.eq_2 <| And.intro @kill_box <| And.intro @kill_arr <| And.intro @e_box <| And.intro @e_arr <| And.intro @AK.tmp.eq_1 <| And.intro @AK.tmp.eq_2 <| And.intro @PV.killL.eq_1 <| And.intro @PV.killL.eq_2 <| And.intro @PV.kill.eq_1 <| And.intro @PV.kill.eq_2 <| And.intro @PV.kill.eq_3 <| And.intro @PV.kill.eq_4 <| And.intro @PV.kill.eq_5 <| And.intro @PV.kill.eq_6 <| And.intro @PV.kill.eq_7 <| And.intro @PV.kill.eq_8 <| And.intro @PV.kill.eq_9 <| And.intro @PV.kill.eq_10 <| And.intro @PV.kill.eq_11 <| And.intro @PV.kill.eq_12 <| And.intro @PV.kill.eq_13 <| And.intro @PV.kill.eq_14 <| And.intro @PV.kill.eq_15 <| And.intro @PV.kill.eq_16 <| And.intro @killE_at <| And.intro @newBox.eq_1 <| And.intro @newBox.eq_2 <| And.intro @initC.eq_1 <| And.intro @initC.eq_2 <| And.intro @initC.eq_3 <| And.intro @initA.eq_1 <| And.intro @initA.eq_2 <| And.intro @initA.eq_3 <| And.intro @ld.eq_1 <| And.intro @ld.eq_2 <| And.intro @ld.eq_3 <| And.intro @ld.eq_4 <| And.intro @getBox.eq_1 <| And.intro @getBox.eq_2 <| And.intro @getBox.eq_3 <| And.intro @setBox.eq_1 <| And.intro @setBox.eq_2 <| And.intro @setBox.eq_3 <| And.intro @getArr.eq_1 <| And.intro @getArr.eq_2 <| And.intro @getArr.eq_3 <| And.intro @setArr.eq_1 <| And.intro @setArr.eq_2 <| And.intro @setArr.eq_3 <| And.intro @pickC.eq_1 <| And.intro @pickC.eq_2 <| And.intro @Option.map_some.{0,0} <| And.intro @Option.map_none.{0,0} <| And.intro @PV.upN.eq_1 <| And.intro @PV.upN.eq_2 <| And.intro @binP.eq_1 <| And.intro @binP.eq_2 <| @binP.eq_3
theorem lw3 : type_of% (And.intro @binP.eq_4 <| And.intro @binP.eq_5 <| And.intro @binP.eq_6 <| And.intro @binP.eq_7 <| And.intro @binP.eq_8 <| And.intro @binP.eq_9 <| And.intro @binP.eq_10 <| And.intro @binP.eq_11 <| And.intro @binP.eq_12 <| And.intro @binP.eq_13 <| And.intro @binP.eq_14 <| And.intro @binP.eq_15 <| And.intro @binP.eq_16 <| And.intro @binInt.eq_1 <| And.intro @binInt.eq_2 <| And.intro @binInt.eq_3 <| And.intro @binInt.eq_4 <| And.intro @binInt.eq_5 <| And.intro @binInt.eq_6 <| And.intro @binInt.eq_7 <| And.intro @binInt.eq_8 <| And.intro @binInt.eq_9 <| And.intro @binInt.eq_10 <| And.intro @binInt.eq_11 <| And.intro @binInt.eq_12 <| And.intro @binStr.eq_1 <| And.intro @binStr.eq_2 <| And.intro @binStr.eq_3 <| And.intro @binStr.eq_4 <| And.intro @binStr.eq_5 <| And.intro @binStr.eq_6 <| And.intro @binStr.eq_7 <| And.intro @binStr.eq_8 <| And.intro @binB.eq_1 <| And.intro @binB.eq_2 <| And.intro @unP.eq_1 <| And.intro @unP.eq_2 <| And.intro @unP.eq_3 <| And.intro @cnd_true <| And.intro @cnd_false <| And.intro @cnd_dec <| And.intro @cnd_not <| And.intro @not_false_eq_true <| And.intro @not_true_eq_false <| And.intro @Nat.zero_add <| And.intro @Nat.add_zero <| And.intro @fin_ret <| And.intro @fin_nor <| And.intro @List.length_cons.{0} <| And.intro @List.length_nil.{0} <| And.intro @List.drop_succ_cons.{0} <| And.intro @List.drop_zero.{0} <| And.intro @List.take_succ_cons.{0} <| And.intro @List.take_zero.{0} <| And.intro @fillP.eq_1 <| And.intro @fillP.eq_2 <| And.intro @setAt.eq_1 <| And.intro @setAt.eq_2 <| And.intro @List.set_cons_zero.{0} <| @List.set_cons_succ.{0}) := And.intro @binP.eq_4 <| And.intro @binP.eq_5 <| And.intro @binP.eq_6 <| And.intro @binP.eq_7 <| And.intro @binP.eq_8 <| And.intro @binP.eq_9 <| And.intro @binP.eq_10 <| And.intro @binP.eq_11 <| And.intro @binP.eq_12 <| And.intro @binP.eq_13 <| And.intro @binP.eq_14 <| And.intro @binP.eq_15 <| And.intro @binP.eq_16 <| And.intro @binInt.eq_1 <| And.intro @binInt.eq_2 <| And.intro @binInt.eq_3 <| And.intro @binInt.eq_4 <| And.intro @binInt.eq_5 <| And.intro @binInt.eq_6 <| And.intro @binInt.eq_7 <| And.intro @binInt.eq_8 <| And.intro @binInt.eq_9 <| And.intro @binInt.eq_10 <| And.intro @binInt.eq_11 <| And.intro @binInt.eq_12 <| And.intro @binStr.eq_1 <| And.intro @binStr.eq_2 <| And.intro @binStr.eq_3 <| And.intro @binStr.eq_4 <| And.intro @binStr.eq_5 <| And.intro @binStr.eq_6 <| And.intro @binStr.eq_7 <| And.intro @binStr.eq_8 <| And.intro @binB.eq_1 <| And.intro @binB.eq_2 <| And.intro @unP.eq_1 <| And.intro @unP.eq_2 <| And.intro @unP.eq_3 <| And.intro @cnd_true <| And.intro @cnd_false <| And.intro @cnd_dec <| And.intro @cnd_not <| And.intro @not_false_eq_true <| And.intro @not_true_eq_false <| And.intro @Nat.zero_add <| And.intro @Nat.add_zero <| And.intro @fin_ret <| And.intro @fin_nor <| And.intro @List.length_cons.{0} <| And.intro @List.length_nil.{0} <| And.intro @List.drop_succ_cons.{0} <| And.intro @List.drop_zero.{0} <| And.intro @List.take_succ_cons.{0} <| And.intro @List.take_zero.{0} <| And.intro @fillP.eq_1 <| And.intro @fillP.eq_2 <| And.intro @setAt.eq_1 <| And.intro @setAt.eq_2 <| And.intro @List.set_cons_zero.{0} <| @List.set_cons_succ.{0}
theorem lw4 : type_of% (And.intro @storeP.eq_1 <| And.intro @storeP.eq_2 <| And.intro @storeP.eq_3 <| And.intro @stCells.eq_1 <| And.intro @stCells.eq_2 <| And.intro @stCell.eq_1 <| And.intro @stCell.eq_2 <| And.intro @stCell.eq_3 <| And.intro @stCell.eq_4 <| And.intro @PV.dnN.eq_1 <| And.intro @PV.dnN.eq_2 <| And.intro @PV.dn.eq_1 <| And.intro @PV.dn.eq_2 <| And.intro @PV.dn.eq_3 <| And.intro @PV.dn.eq_4 <| And.intro @PV.dn.eq_5 <| And.intro @PV.dn.eq_6 <| And.intro @PV.dn.eq_7 <| And.intro @PV.dn.eq_8 <| And.intro @PV.dn.eq_9 <| And.intro @PV.dn.eq_10 <| And.intro @PV.dn.eq_11 <| And.intro @PV.dn.eq_12 <| And.intro @PV.dn.eq_13 <| And.intro @PV.dn.eq_14 <| And.intro @PV.dn.eq_15 <| And.intro @PV.dn.eq_16 <| And.intro @PV.dn.eq_17 <| And.intro @PV.dn.eq_18 <| And.intro @PV.dn.eq_19 <| And.intro @PV.dnL.eq_1 <| And.intro @PV.dnL.eq_2 <| And.intro @retOf.eq_1 <| And.intro @rdRes.eq_1 <| And.intro @rdRes.eq_2 <| And.intro @rdRes.eq_3 <| And.intro @retL.eq_1 <| And.intro @retL.eq_2 <| And.intro @ret1.eq_1 <| And.intro @ret1.eq_2 <| And.intro @ret1.eq_3 <| And.intro @ret1.eq_4 <| And.intro @retV.eq_1 <| And.intro @hand.eq_1 <| And.intro @hand.eq_2 <| And.intro @hand1.eq_1 <| And.intro @hand1.eq_2 <| And.intro @hand1.eq_3 <| And.intro @hand1.eq_4 <| And.intro @handL.eq_1 <| And.intro @handL.eq_2 <| And.intro @handA.eq_1 <| And.intro @handA.eq_2 <| And.intro @callP.eq_1 <| And.intro @callP.eq_2 <| And.intro @List.append_nil.{0} <| And.intro @List.nil_append.{0} <| And.intro @List.any_cons.{0} <| And.intro @List.any_nil.{0} <| @PV.hasSl.eq_1) := And.intro @storeP.eq_1 <| And.intro @storeP.eq_2 <| And.intro @storeP.eq_3 <| And.intro @stCells.eq_1 <| And.intro @stCells.eq_2 <| And.intro @stCell.eq_1 <| And.intro @stCell.eq_2 <| And.intro @stCell.eq_3 <| And.intro @stCell.eq_4 <| And.intro @PV.dnN.eq_1 <| And.intro @PV.dnN.eq_2 <| And.intro @PV.dn.eq_1 <| And.intro @PV.dn.eq_2 <| And.intro @PV.dn.eq_3 <| And.intro @PV.dn.eq_4 <| And.intro @PV.dn.eq_5 <| And.intro @PV.dn.eq_6 <| And.intro @PV.dn.eq_7 <| And.intro @PV.dn.eq_8 <| And.intro @PV.dn.eq_9 <| And.intro @PV.dn.eq_10 <| And.intro @PV.dn.eq_11 <| And.intro @PV.dn.eq_12 <| And.intro @PV.dn.eq_13 <| And.intro @PV.dn.eq_14 <| And.intro @PV.dn.eq_15 <| And.intro @PV.dn.eq_16 <| And.intro @PV.dn.eq_17 <| And.intro @PV.dn.eq_18 <| And.intro @PV.dn.eq_19 <| And.intro @PV.dnL.eq_1 <| And.intro @PV.dnL.eq_2 <| And.intro @retOf.eq_1 <| And.intro @rdRes.eq_1 <| And.intro @rdRes.eq_2 <| And.intro @rdRes.eq_3 <| And.intro @retL.eq_1 <| And.intro @retL.eq_2 <| And.intro @ret1.eq_1 <| And.intro @ret1.eq_2 <| And.intro @ret1.eq_3 <| And.intro @ret1.eq_4 <| And.intro @retV.eq_1 <| And.intro @hand.eq_1 <| And.intro @hand.eq_2 <| And.intro @hand1.eq_1 <| And.intro @hand1.eq_2 <| And.intro @hand1.eq_3 <| And.intro @hand1.eq_4 <| And.intro @handL.eq_1 <| And.intro @handL.eq_2 <| And.intro @handA.eq_1 <| And.intro @handA.eq_2 <| And.intro @callP.eq_1 <| And.intro @callP.eq_2 <| And.intro @List.append_nil.{0} <| And.intro @List.nil_append.{0} <| And.intro @List.any_cons.{0} <| And.intro @List.any_nil.{0} <| @PV.hasSl.eq_1
theorem lw5 : type_of% (And.intro @PV.hasSl.eq_2 <| And.intro @PV.isSl.eq_1 <| And.intro @PV.isSl.eq_2 <| And.intro @Bool.or_false <| And.intro @Bool.false_or <| And.intro @Bool.false_eq_true <| And.intro @if_false.{1} <| And.intro @slcP.eq_1 <| And.intro @slcP.eq_2 <| And.intro @slcP.eq_3 <| And.intro @slcP.eq_4 <| And.intro @slcGo.eq_1 <| And.intro @fullOf.eq_1 <| And.intro @fullOf.eq_2 <| And.intro @idx.eq_1 <| And.intro @idx.eq_2 <| And.intro @idx.eq_3 <| And.intro @iaddrP.eq_1 <| And.intro @iaddrP.eq_2 <| And.intro @iaddrP.eq_3 <| And.intro @iaddrP.eq_4 <| And.intro @lenP.eq_1 <| And.intro @lenP.eq_2 <| And.intro @lenP.eq_3 <| And.intro @lenP.eq_4 <| And.intro @lenS.eq_1 <| And.intro @lenS.eq_2 <| And.intro @appendP.eq_1 <| And.intro @newArr.eq_1 <| And.intro @view.eq_1 <| And.intro @view.eq_2 <| And.intro @view.eq_3 <| And.intro @view.eq_4 <| And.intro @srcRows.eq_1 <| And.intro @srcRows.eq_2 <| And.intro @srcRows.eq_3 <| And.intro @bigRow.eq_1 <| And.intro @okA.eq_1 <| And.intro @okA.eq_2 <| And.intro @okA.eq_3 <| And.intro @eqCells.eq_1 <| And.intro @eqCells.eq_2 <| And.intro @eqCells.eq_3 <| And.intro @eqCells.eq_4 <| And.intro @eqCells.eq_5 <| And.intro @convP.eq_1 <| And.intro @convP.eq_2 <| And.intro @convP.eq_3 <| And.intro @convP.eq_4 <| And.intro @convP.eq_5 <| And.intro @slsP.eq_1 <| And.intro @slsP.eq_2 <| And.intro @gd_tb <| And.intro @gd_fb <| And.intro @List.cons_append.{0} <| And.intro @Option.getD_none.{0} <| And.intro @List.getElem?_nil.{0} <| And.intro @AK.slot.injEq <| And.intro @AK.cell.injEq <| @decide_true) := And.intro @PV.hasSl.eq_2 <| And.intro @PV.isSl.eq_1 <| And.intro @PV.isSl.eq_2 <| And.intro @Bool.or_false <| And.intro @Bool.false_or <| And.intro @Bool.false_eq_true <| And.intro @if_false.{1} <| And.intro @slcP.eq_1 <| And.intro @slcP.eq_2 <| And.intro @slcP.eq_3 <| And.intro @slcP.eq_4 <| And.intro @slcGo.eq_1 <| And.intro @fullOf.eq_1 <| And.intro @fullOf.eq_2 <| And.intro @idx.eq_1 <| And.intro @idx.eq_2 <| And.intro @idx.eq_3 <| And.intro @iaddrP.eq_1 <| And.intro @iaddrP.eq_2 <| And.intro @iaddrP.eq_3 <| And.intro @iaddrP.eq_4 <| And.intro @lenP.eq_1 <| And.intro @lenP.eq_2 <| And.intro @lenP.eq_3 <| And.intro @lenP.eq_4 <| And.intro @lenS.eq_1 <| And.intro @lenS.eq_2 <| And.intro @appendP.eq_1 <| And.intro @newArr.eq_1 <| And.intro @view.eq_1 <| And.intro @view.eq_2 <| And.intro @view.eq_3 <| And.intro @view.eq_4 <| And.intro @srcRows.eq_1 <| And.intro @srcRows.eq_2 <| And.intro @srcRows.eq_3 <| And.intro @bigRow.eq_1 <| And.intro @okA.eq_1 <| And.intro @okA.eq_2 <| And.intro @okA.eq_3 <| And.intro @eqCells.eq_1 <| And.intro @eqCells.eq_2 <| And.intro @eqCells.eq_3 <| And.intro @eqCells.eq_4 <| And.intro @eqCells.eq_5 <| And.intro @convP.eq_1 <| And.intro @convP.eq_2 <| And.intro @convP.eq_3 <| And.intro @convP.eq_4 <| And.intro @convP.eq_5 <| And.intro @slsP.eq_1 <| And.intro @slsP.eq_2 <| And.intro @gd_tb <| And.intro @gd_fb <| And.intro @List.cons_append.{0} <| And.intro @Option.getD_none.{0} <| And.intro @List.getElem?_nil.{0} <| And.intro @AK.slot.injEq <| And.intro @AK.cell.injEq <| @decide_true
theorem lw6 : type_of% (And.intro @decide_false <| And.intro @Bool.not_true <| And.intro @Bool.not_false <| And.intro @Option.isNone_none.{0} <| And.intro @Option.isSome_none.{0} <| And.intro @Option.isSome_some.{0} <| And.intro @Option.isNone_some.{0} <| And.intro @prep.eq_1 <| And.intro @prep.eq_2 <| And.intro @Ac.kill.eq_1 <| And.intro @PV.int.injEq <| And.intro @beq_self_eq_true.{0} <| And.intro @decide_eq_true_eq <| And.intro @Bool.not_eq_true <| And.intro @decide_eq_false_iff_not <| And.intro @true_or <| And.intro @or_true <| And.intro @false_or <| And.intro @or_false <| And.intro @false_and <| And.intro @and_false <| And.intro @Bool.not_not <| And.intro @Classical.not_not <| And.intro @Bool.false_and <| And.intro @Bool.and_false <| And.intro @Bool.and_self <| And.intro @ite_self.{1} <| And.intro @PV.pure.eq_1 <| And.intro @PV.pure.eq_2 <| And.intro @PV.pure.eq_3 <| And.intro @PV.pure.eq_4 <| And.intro @PV.pure.eq_5 <| And.intro @PV.pure.eq_6 <| And.intro @PV.pure.eq_7 <| And.intro @PV.pure.eq_8 <| And.intro @PV.pure.eq_9 <| And.intro @PV.plain.eq_1 <| And.intro @PV.plain.eq_2 <| And.intro @PV.plain.eq_3 <| And.intro @PV.plain.eq_4 <| And.intro @PV.plain.eq_5 <| And.intro @PV.plain.eq_6 <| And.intro @PV.plain.eq_7 <| And.intro @PV.plain.eq_8 <| And.intro @PV.plain.eq_9 <| And.intro @PV.plainL.eq_1 <| And.intro @PV.plainL.eq_2 <| And.intro @Ret.plain.eq_1 <| And.intro @Ret.plain.eq_2 <| And.intro @allPure.eq_1 <| And.intro @List.isEmpty_nil.{0} <| And.intro @List.isEmpty_cons.{0} <| And.intro @Bool.or_true <| And.intro @Bool.true_or <| And.intro @encL_length <| And.intro @List.length_map.{0,0} <| And.intro @encL_get <| And.intro @List.getElem?_map.{0,0} <| And.intro @encL_drop <| @encL_take) := And.intro @decide_false <| And.intro @Bool.not_true <| And.intro @Bool.not_false <| And.intro @Option.isNone_none.{0} <| And.intro @Option.isSome_none.{0} <| And.intro @Option.isSome_some.{0} <| And.intro @Option.isNone_some.{0} <| And.intro @prep.eq_1 <| And.intro @prep.eq_2 <| And.intro @Ac.kill.eq_1 <| And.intro @PV.int.injEq <| And.intro @beq_self_eq_true.{0} <| And.intro @decide_eq_true_eq <| And.intro @Bool.not_eq_true <| And.intro @decide_eq_false_iff_not <| And.intro @true_or <| And.intro @or_true <| And.intro @false_or <| And.intro @or_false <| And.intro @false_and <| And.intro @and_false <| And.intro @Bool.not_not <| And.intro @Classical.not_not <| And.intro @Bool.false_and <| And.intro @Bool.and_false <| And.intro @Bool.and_self <| And.intro @ite_self.{1} <| And.intro @PV.pure.eq_1 <| And.intro @PV.pure.eq_2 <| And.intro @PV.pure.eq_3 <| And.intro @PV.pure.eq_4 <| And.intro @PV.pure.eq_5 <| And.intro @PV.pure.eq_6 <| And.intro @PV.pure.eq_7 <| And.intro @PV.pure.eq_8 <| And.intro @PV.pure.eq_9 <| And.intro @PV.plain.eq_1 <| And.intro @PV.plain.eq_2 <| And.intro @PV.plain.eq_3 <| And.intro @PV.plain.eq_4 <| And.intro @PV.plain.eq_5 <| And.intro @PV.plain.eq_6 <| And.intro @PV.plain.eq_7 <| And.intro @PV.plain.eq_8 <| And.intro @PV.plain.eq_9 <| And.intro @PV.plainL.eq_1 <| And.intro @PV.plainL.eq_2 <| And.intro @Ret.plain.eq_1 <| And.intro @Ret.plain.eq_2 <| And.intro @allPure.eq_1 <| And.intro @List.isEmpty_nil.{0} <| And.intro @List.isEmpty_cons.{0} <| And.intro @Bool.or_true <| And.intro @Bool.true_or <| And.intro @encL_length <| And.intro @List.length_map.{0,0} <| And.intro @encL_get <| And.intro @List.getElem?_map.{0,0} <| And.intro @encL_drop <| @encL_take
theorem lw7 : type_of% (And.intro @map_drop' <| And.intro @map_take' <| And.intro @take_len <| And.intro @take_encL_app <| And.intro @take_map_app <| And.intro @nat_nonneg <| And.intro @Int.toNat_natCast <| And.intro @cnd_b <| And.intro @cnd_and <| And.intro @wrap_i64 <| And.intro @bytesOf.eq_1 <| And.intro @bytesOf.eq_2 <| And.intro @bytesOf.eq_3 <| And.intro @bytesOf_eB <| And.intro @bytes_eB <| And.intro @eI.eq_1 <| And.intro @eK.eq_1 <| And.intro @eB.eq_1 <| And.intro @eS.eq_1 <| And.intro @eO.eq_1 <| And.intro @rowsP.eq_1 <| And.intro @rowsP.eq_2 <| And.intro @List.replicate.eq_1.{0} <| And.intro @List.replicate.eq_2.{0} <| And.intro @List.length_append.{0} <| And.intro @encL_nil <| And.intro @encL_cons <| And.intro @encL_app <| @List.map_append.{0,0}) := And.intro @map_drop' <| And.intro @map_take' <| And.intro @take_len <| And.intro @take_encL_app <| And.intro @take_map_app <| And.intro @nat_nonneg <| And.intro @Int.toNat_natCast <| And.intro @cnd_b <| And.intro @cnd_and <| And.intro @wrap_i64 <| And.intro @bytesOf.eq_1 <| And.intro @bytesOf.eq_2 <| And.intro @bytesOf.eq_3 <| And.intro @bytesOf_eB <| And.intro @bytes_eB <| And.intro @eI.eq_1 <| And.intro @eK.eq_1 <| And.intro @eB.eq_1 <| And.intro @eS.eq_1 <| And.intro @eO.eq_1 <| And.intro @rowsP.eq_1 <| And.intro @rowsP.eq_2 <| And.intro @List.replicate.eq_1.{0} <| And.intro @List.replicate.eq_2.{0} <| And.intro @List.length_append.{0} <| And.intro @encL_nil <| And.intro @encL_cons <| And.intro @encL_app <| @List.map_append.{0,0}
theorem nat_le_self (n : Nat) : (n ≤ n) = True := by simp
theorem ex_w {cl : Oracle} {kd : Bool} {d : Option Nat} {o : VO} {ac : Ac} : ex cl kd d (.w o) ac = vo d ac (vop ac.ev [] o) := rfl
theorem thF_nor {SP : Prg} {ac : Ac} {ops : List SOper} {tot : List Bool} : thF SP (.nor ac) ops tot = evD (call SP) ops tot (prep ops ac) := rfl
theorem joinA_nil (a : List PV) : joinA a [] = a := by simp [joinA]
theorem joinA_meth (a vs : List PV) : joinA a [.tup vs] = vs ++ a := rfl
theorem joinA_two (a : List PV) (u v : PV) (r : List PV) : joinA a (u :: v :: r) = a ++ (u :: v :: r) := by cases u <;> rfl
theorem joinA_bool (a : List PV) (b : Bool) : joinA a [.bool b] = a ++ [.bool b] := rfl
theorem joinA_int (a : List PV) (k : IntKind) (n : Int) : joinA a [.int k n] = a ++ [.int k n] := rfl
theorem joinA_str (a : List PV) (s : List UInt8) : joinA a [.str s] = a ++ [.str s] := rfl
theorem joinA_nils (a : List PV) (z : Nat) : joinA a [.nils z] = a ++ [.nils z] := rfl
theorem joinA_list (a : List PV) (z : Nat) (r : List (List PV)) (f : Bool) : joinA a [.list z r f] = a ++ [.list z r f] := rfl
theorem joinA_agg (a : List PV) (vs : List PV) : joinA a [.agg vs] = a ++ [.agg vs] := rfl
theorem joinA_ptr (a : List PV) (n t o : Nat) : joinA a [.ptr n t o] = a ++ [.ptr n t o] := rfl
theorem joinA_rowp (a : List PV) (r : List PV) (o : Nat) : joinA a [.rowp r o] = a ++ [.rowp r o] := rfl
theorem joinA_elem (a : List PV) (n : Nat) (k : AK) (i o v g : Nat) : joinA a [.elem n k i o v g] = a ++ [.elem n k i o v g] := rfl
theorem joinA_sl (a : List PV) (n : Nat) (k : AK) (o l v g : Nat) (f : Bool) : joinA a [.sl n k o l v g f] = a ++ [.sl n k o l v g f] := rfl
theorem joinA_func (a : List PV) (f : Nat) (c : List PV) : joinA a [.func f c] = a ++ [.func f c] := rfl
theorem joinA_iface (a : List PV) (t : Nat) (v : PV) : joinA a [.iface t v] = a ++ [.iface t v] := rfl
theorem joinA_nili (a : List PV)  : joinA a [.nili] = a ++ [.nili] := rfl
theorem lw : type_of% (And.intro nat_le_self <| And.intro @ex_w <| And.intro @E_sreg <| And.intro @thF_nor <| And.intro @frzC.eq_1 <| And.intro @frzC.eq_2 <| And.intro @o_upN_func <| And.intro @app_lit <| And.intro @joinA_nil <| And.intro @joinA_meth <| And.intro @joinA_two <| And.intro @joinA_bool <| And.intro @joinA_int <| And.intro @joinA_str <| And.intro @joinA_nils <| And.intro @joinA_list <| And.intro @joinA_agg <| And.intro @joinA_ptr <| And.intro @joinA_rowp <| And.intro @joinA_elem <| And.intro @joinA_sl <| And.intro @joinA_func <| And.intro @joinA_iface <| And.intro @joinA_nili <| And.intro @vop.eq_23 <| And.intro @vop.eq_24 <| And.intro @ac0.eq_1 <| And.intro @o_length_setBox <| And.intro @o_length_setArr <| And.intro @o_getBox_setBox <| And.intro @o_getArr_setArr <| And.intro @o_getBox_setArr <| And.intro @o_getArr_setBox <| And.intro @o_setBox_setBox <| And.intro @o_setArr_setArr <| And.intro @o_setBox_setArr <| And.intro @o_setBox_same <| And.intro @o_setArr_same <| And.intro @o_upN_int <| And.intro @o_upN_bool <| And.intro @o_upN_str <| And.intro @o_upN_list <| And.intro @o_upN_sl <| And.intro @o_upN_agg <| And.intro @o_dnN_int <| And.intro @o_dnN_bool <| And.intro @o_dnN_str <| And.intro @succ_ne_zero' <| And.intro @o_killL_up <| And.intro @AK.isCell.eq_1 <| And.intro @AK.isCell.eq_2 <| And.intro lw0 <| And.intro lw1 <| And.intro lw2 <| And.intro lw3 <| And.intro lw4 <| And.intro lw5 <| And.intro lw6 <| lw7) := And.intro nat_le_self <| And.intro @ex_w <| And.intro @E_sreg <| And.intro @thF_nor <| And.intro @frzC.eq_1 <| And.intro @frzC.eq_2 <| And.intro @o_upN_func <| And.intro @app_lit <| And.intro @joinA_nil <| And.intro @joinA_meth <| And.intro @joinA_two <| And.intro @joinA_bool <| And.intro @joinA_int <| And.intro @joinA_str <| And.intro @joinA_nils <| And.intro @joinA_list <| And.intro @joinA_agg <| And.intro @joinA_ptr <| And.intro @joinA_rowp <| And.intro @joinA_elem <| And.intro @joinA_sl <| And.intro @joinA_func <| And.intro @joinA_iface <| And.intro @joinA_nili <| And.intro @vop.eq_23 <| And.intro @vop.eq_24 <| And.intro @ac0.eq_1 <| And.intro @o_length_setBox <| And.intro @o_length_setArr <| And.intro @o_getBox_setBox <| And.intro @o_getArr_setArr <| And.intro @o_getBox_setArr <| And.intro @o_getArr_setBox <| And.intro @o_setBox_setBox <| And.intro @o_setArr_setArr <| And.intro @o_setBox_setArr <| And.intro @o_setBox_same <| And.intro @o_setArr_same <| And.intro @o_upN_int <| And.intro @o_upN_bool <| And.intro @o_upN_str <| And.intro @o_upN_list <| And.intro @o_upN_sl <| And.intro @o_upN_agg <| And.intro @o_dnN_int <| And.intro @o_dnN_bool <| And.intro @o_dnN_str <| And.intro @succ_ne_zero' <| And.intro @o_killL_up <| And.intro @AK.isCell.eq_1 <| And.intro @AK.isCell.eq_2 <| And.intro lw0 <| And.intro lw1 <| And.intro lw2 <| And.intro lw3 <| And.intro lw4 <| And.intro lw5 <| And.intro lw6 <| lw7
theorem nil_all {p : Nat → Prop} : (∀ x ∈ ([] : List Nat), p x) = True := by simp
theorem pure_ptr (n t o : Nat) : (PV.ptr n t o).pure = false := rfl
theorem fin_pan {res : List RX} {v : PV} {S : Sto} : fin res (.pan v S) = match v.dn with | some v => .pan v S.tail | none => .bad := rfl
theorem nxT_ok {K : Ac → EO} {ac : Ac} : nxT K (.ok ac) = K ac := rfl
theorem nxT_pan {K : Ac → EO} {v : PV} {S : Sto} : nxT K (.pan v S) = .pan v S := rfl
theorem sameE_nor {ds : List Nat} {a b : Ac} : sameE ds (.nor a) (.nor b) = (a.S = b.S ∧ ∀ d ∈ ds, a.e d = b.e d) := rfl
theorem sameE_pan {ds : List Nat} {v v' : PV} {S S' : Sto} : sameE ds (.pan v S) (.pan v' S') = (v = v' ∧ S = S') := rfl
theorem stpI_eq {cl : Oracle} {l : List SOper} {i : Nat} {ac : Ac} : stpI cl l i ac = match l[i]? with | some o => stp cl false o ac | none => .bad := rfl
theorem lx : type_of% (And.intro @po_none <| And.intro @po_some <| And.intro @fin_pan <| And.intro @E_treg <| And.intro @evT.eq_1 <| And.intro @evT.eq_2 <| And.intro @evTs.eq_1 <| And.intro @evTs.eq_2 <| And.intro @nxT_ok <| And.intro @nxT_pan <| And.intro @sameE_nor <| And.intro @sameE_pan <| And.intro @stpI_eq <| And.intro @List.forall_mem_cons.{0} <| And.intro @nil_all <| And.intro @pure_ptr <| And.intro (show IntKind.u64.bits = 64 from rfl) <| And.intro (show min 1 64 = 1 from rfl) <| And.intro (show (2 : Int) ^ 1 = 2 from rfl) <| And.intro @decide_not <| And.intro @isnileP_eql <| And.intro @isnileP_neq <| And.intro @Option.bind_some.{0,0} <| And.intro @UInt8.toNat_zero <| And.intro @UInt8.ofNat_toNat <| And.intro @Int.natCast_zero <| And.intro @Int.ofNat_eq_natCast <| And.intro @Nat.zero_le <| And.intro @Nat.sub_zero <| And.intro @take_app3 <| And.intro @set_get <| And.intro @take_set <| And.intro @List.length_set.{0} <| And.intro @List.map_set.{0,0} <| @Int.cast_ofNat_Int) := And.intro @po_none <| And.intro @po_some <| And.intro @fin_pan <| And.intro @E_treg <| And.intro @evT.eq_1 <| And.intro @evT.eq_2 <| And.intro @evTs.eq_1 <| And.intro @evTs.eq_2 <| And.intro @nxT_ok <| And.intro @nxT_pan <| And.intro @sameE_nor <| And.intro @sameE_pan <| And.intro @stpI_eq <| And.intro @List.forall_mem_cons.{0} <| And.intro @nil_all <| And.intro @pure_ptr <| And.intro (show IntKind.u64.bits = 64 from rfl) <| And.intro (show min 1 64 = 1 from rfl) <| And.intro (show (2 : Int) ^ 1 = 2 from rfl) <| And.intro @decide_not <| And.intro @isnileP_eql <| And.intro @isnileP_neq <| And.intro @Option.bind_some.{0,0} <| And.intro @UInt8.toNat_zero <| And.intro @UInt8.ofNat_toNat <| And.intro @Int.natCast_zero <| And.intro @Int.ofNat_eq_natCast <| And.intro @Nat.zero_le <| And.intro @Nat.sub_zero <| And.intro @take_app3 <| And.intro @set_get <| And.intro @take_set <| And.intro @List.length_set.{0} <| And.intro @List.map_set.{0,0} <| @Int.cast_ofNat_Int
end Go.Proofs.YtfbcnpbhhooapaaGreatDoor.M
namespace Go.Proofs.YtfbcnpbhhooapaaGreatDoor.M
open Go
structure Part where
  Ref : Bool
  Text : List UInt8
def ePart (x : Part) : List PV := [.bool x.Ref, .str x.Text]
structure Node where
  Kind : Int
  Num : Int
  Text : List UInt8
  Parts : List Part
  Kids : List Int
def eNode (x : Node) : List PV := [.int .i64 x.Kind, .int .i64 x.Num, .str x.Text, .list 2 (x.Parts.map ePart) false, .list 1 (x.Kids.map eI) false]
structure Attr where
  Name : List UInt8
  Expr : List Node
def eAttr (x : Attr) : List PV := [.str x.Name, .list 5 (x.Expr.map eNode) false]
structure Block where
  Kind : Int
  Label : List UInt8
  Attrs : List Attr
  Blocks : List Block
mutual
def eBlock : Block → List PV
  | .mk a0 a1 a2 a3 => [.int .i64 a0, .str a1, .list 2 (a2.map eAttr) false, .list 4 (eBlocks a3) false]
def eBlocks : List Block → List (List PV)
  | [] => []
  | b :: r => eBlock b :: eBlocks r
end
theorem eBlocks_eq : ∀ l, eBlocks l = l.map eBlock
  | [] => rfl
  | b :: r => by rw [eBlocks, eBlocks_eq r]; rfl
theorem eBlock_eq (x : Block) : eBlock x = [.int .i64 x.Kind, .str x.Label, .list 2 (x.Attrs.map eAttr) false, .list 4 (x.Blocks.map eBlock) false] := by cases x; rw [eBlock, eBlocks_eq]
structure Parsed where
  L : List Block
  E : Int
def eParsed (x : Parsed) : List PV := [.list 4 (x.L.map eBlock) false, .int .i64 x.E]
structure Read where
  L : List Node
  E : Int
def eRead (x : Read) : List PV := [.list 5 (x.L.map eNode) false, .int .i64 x.E]
structure Token where
  Kind : Int
  Text : List UInt8
  Num : Int
  Parts : List Part
  At : Int
def eToken (x : Token) : List PV := [.int .i64 x.Kind, .str x.Text, .int .i64 x.Num, .list 2 (x.Parts.map ePart) false, .int .i64 x.At]
structure PTokens where
  l : List Token
  pos : Int
def ePTokens (x : PTokens) : List PV := [.list 5 (x.l.map eToken) false, .int .i64 x.pos]
structure PExprs where
  tokens : PTokens
  out : List Node
  deep : Int
def ePExprs (x : PExprs) : List PV := [.list 5 (x.tokens.l.map eToken) false, .int .i64 x.tokens.pos, .list 5 (x.out.map eNode) false, .int .i64 x.deep]
structure PBlocks where
  exprs : PExprs
def ePBlocks (x : PBlocks) : List PV := [.list 5 (x.exprs.tokens.l.map eToken) false, .int .i64 x.exprs.tokens.pos, .list 5 (x.exprs.out.map eNode) false, .int .i64 x.exprs.deep]
structure SWriter where
  out : List UInt8
def eSWriter (x : SWriter) : List PV := [.list 1 (x.out.map eB) false]
structure Tokens where
  L : List Token
  E : Int
def eTokens (x : Tokens) : List PV := [.list 5 (x.L.map eToken) false, .int .i64 x.E]
structure reader where
  l : List Token
  i : Int
  deep : Int
  e : Int
  out : List Node
def ereader (x : reader) : List PV := [.list 5 (x.l.map eToken) false, .int .i64 x.i, .int .i64 x.deep, .int .i64 x.e, .list 5 (x.out.map eNode) false]
structure SBlocks where
  writer : SWriter
def eSBlocks (x : SBlocks) : List PV := [.list 1 (x.writer.out.map eB) false]
structure LText where
  left : List UInt8
  pos : Int
def eLText (x : LText) : List PV := [.str x.left, .int .i64 x.pos]
structure LTokens where
  text : LText
  out : List Token
def eLTokens (x : LTokens) : List PV := [.str x.text.left, .int .i64 x.text.pos, .list 5 (x.out.map eToken) false]
theorem le : type_of% (And.intro @enc_eq <| And.intro @eI.eq_1 <| And.intro @eK.eq_1 <| And.intro @eB.eq_1 <| And.intro @eS.eq_1 <| And.intro @eO.eq_1 <| And.intro @eF.eq_1 <| And.intro @eLB.eq_1 <| And.intro @eLS.eq_1 <| And.intro @V_k <| And.intro @V_n <| And.intro @V_s <| And.intro @V_l <| And.intro @encL_nil <| And.intro @encL_cons <| And.intro @encL_app <| And.intro @List.map_cons.{0,0} <| And.intro @List.map_nil.{0,0} <| And.intro @List.map_append.{0,0} <| And.intro @ePart.eq_1 <| And.intro @eNode.eq_1 <| And.intro @eAttr.eq_1 <| And.intro @eParsed.eq_1 <| And.intro @eRead.eq_1 <| And.intro @eToken.eq_1 <| And.intro @ePTokens.eq_1 <| And.intro @ePExprs.eq_1 <| And.intro @ePBlocks.eq_1 <| And.intro @eSWriter.eq_1 <| And.intro @eTokens.eq_1 <| And.intro @ereader.eq_1 <| And.intro @eSBlocks.eq_1 <| And.intro @eLText.eq_1 <| And.intro @eLTokens.eq_1 <| @eBlock_eq) := And.intro @enc_eq <| And.intro @eI.eq_1 <| And.intro @eK.eq_1 <| And.intro @eB.eq_1 <| And.intro @eS.eq_1 <| And.intro @eO.eq_1 <| And.intro @eF.eq_1 <| And.intro @eLB.eq_1 <| And.intro @eLS.eq_1 <| And.intro @V_k <| And.intro @V_n <| And.intro @V_s <| And.intro @V_l <| And.intro @encL_nil <| And.intro @encL_cons <| And.intro @encL_app <| And.intro @List.map_cons.{0,0} <| And.intro @List.map_nil.{0,0} <| And.intro @List.map_append.{0,0} <| And.intro @ePart.eq_1 <| And.intro @eNode.eq_1 <| And.intro @eAttr.eq_1 <| And.intro @eParsed.eq_1 <| And.intro @eRead.eq_1 <| And.intro @eToken.eq_1 <| And.intro @ePTokens.eq_1 <| And.intro @ePExprs.eq_1 <| And.intro @ePBlocks.eq_1 <| And.intro @eSWriter.eq_1 <| And.intro @eTokens.eq_1 <| And.intro @ereader.eq_1 <| And.intro @eSBlocks.eq_1 <| And.intro @eLText.eq_1 <| And.intro @eLTokens.eq_1 <| @eBlock_eq
theorem aa {p q : Prop} (a : p) (b : q) : p ∧ q := ⟨a, b⟩
theorem fi {p F : Prop} (f : F) (h : F → p := by intro f; simp only [f, lw, lx, le, Nat.reduceMul, UInt8.reduceToNat, reduceIte, reduceCtorEq, Nat.reduceEqDiff, Nat.reduceAdd, Nat.reduceLeDiff, Nat.reduceSub, Nat.reduceLT, Int.reduceEq, Int.reduceLT, Int.reduceLE, Int.reduceToNat, Int.reduceAdd, Int.reduceSub, Int.reduceMul, Int.reduceNeg]) : p := h f
theorem lo {p F A : Prop} (f : F) (t : A) (h : F → A → p := by intro f t; (try simp only [f, lw, lx, le, Nat.reduceMul, UInt8.reduceToNat, reduceIte, reduceCtorEq, Nat.reduceEqDiff, Nat.reduceAdd, Nat.reduceLeDiff, Nat.reduceSub, Nat.reduceLT, Int.reduceEq, Int.reduceLT, Int.reduceLE, Int.reduceToNat, Int.reduceAdd, Int.reduceSub, Int.reduceMul, Int.reduceNeg]); refine t _ _ _ ?_; simp only [f, lw, lx, le, Nat.reduceMul, UInt8.reduceToNat, reduceIte, reduceCtorEq, Nat.reduceEqDiff, Nat.reduceAdd, Nat.reduceLeDiff, Nat.reduceSub, Nat.reduceLT, Int.reduceEq, Int.reduceLT, Int.reduceLE, Int.reduceToNat, Int.reduceAdd, Int.reduceSub, Int.reduceMul, Int.reduceNeg]) : p := h f t
theorem ue {c d : SC} (h : c = d) : ∀ (SP : Prg) (ac : Ac), E SP c ac = E SP d ac := fun SP ac => congrFun (congrArg (E SP) h) ac
noncomputable section
def rcv_Q36 : RecF := ⟨2, (.seq (.reg [ ⟨some 4, none, .alloc [(.int .i64 0)]⟩]) (.seq (.reg [ ⟨some 7, none, .v (.mov (.t 0))⟩, ⟨some 8, none, .call (.c (.func 60 [])) [(.t 7)]⟩, ⟨some 6, none, .v (.mov (.t 8))⟩, ⟨some 9, none, .v (.extract 0 (.t 6))⟩, ⟨some 10, none, .v (.extract 1 (.t 6))⟩, ⟨some 5, none, .v (.mov (.t 9))⟩, ⟨none, none, .store 1 (.t 4) (.t 10)⟩]) (.seq (.seq (.reg [ ⟨some 11, none, .v (.load none (.t 4))⟩, ⟨some 12, none, .v (.bin .neq (.t 11) (.c (.int .i64 0)))⟩]) (.cond (.t 12) (.seq (.reg [ ⟨some 13, none, .v (.load none (.t 4))⟩, ⟨none, none, .store 1 (.t 4) (.t 13)⟩]) .ret) .skip)) .skip))), 14, 4, [⟨some 15, none, .v (.mov (.t 1))⟩, ⟨some 16, none, .v (.mov (.t 5))⟩, ⟨some 17, none, .v (.build [(.nils 5), (.int .i64 0)] [(0, 1, (.t 16))])⟩, ⟨some 18, none, .v (.build [(.nils 5), (.int .i64 0), (.nils 5), (.int .i64 0)] [(0, 2, (.t 17))])⟩, ⟨some 19, none, .v (.build [(.nils 5), (.int .i64 0), (.nils 5), (.int .i64 0)] [(0, 4, (.t 18))])⟩, ⟨some 20, none, .box (.t 19)⟩, ⟨some 21, none, .call (.t 15) [(.t 20)]⟩], (.seq (.reg [ ⟨none, none, .store 1 (.t 4) (.c (.int .i64 0))⟩]) .ret), [(.cell 4 none)], 116⟩
def pre_parse_reading_0 : SC := (.reg [⟨some 4, none, .alloc [(.int .i64 0)]⟩])
def pre_parse_reading_1 : SC := (.reg [⟨some 7, none, .v (.mov (.t 0))⟩, ⟨some 8, none, .call (.c (.func 60 [])) [(.t 7)]⟩, ⟨some 6, none, .v (.mov (.t 8))⟩, ⟨some 9, none, .v (.extract 0 (.t 6))⟩, ⟨some 10, none, .v (.extract 1 (.t 6))⟩, ⟨some 5, none, .v (.mov (.t 9))⟩, ⟨none, none, .store 1 (.t 4) (.t 10)⟩])
def pre_parse_reading_2 : SC := (.seq (.reg [⟨some 11, none, .v (.load none (.t 4))⟩, ⟨some 12, none, .v (.bin .neq (.t 11) (.c (.int .i64 0)))⟩]) (.cond (.t 12) (.seq (.reg [⟨some 13, none, .v (.load none (.t 4))⟩, ⟨none, none, .store 1 (.t 4) (.t 13)⟩]) .ret) .skip))
def hd_Q36 : Code → Code | .seq a _ => a | c => c
def tl_parse_reading : Code → Code | .seq _ b => b | c => c
def rg_parse_reading : Code → Array Oper | .region _ o _ => o | _ => #[]
def ri_Q36 : Code → Nat | .region i _ _ => i | _ => 0
noncomputable def b_Q36 : Code := (Tryz.f36.body).getD .skip
noncomputable def o1_parse_reading : Oper := (rg_parse_reading (hd_Q36 (tl_parse_reading (tl_parse_reading (tl_parse_reading b_Q36)))))[0]!
noncomputable def o2_parse_reading : Oper := (rg_parse_reading (hd_Q36 (tl_parse_reading (tl_parse_reading (tl_parse_reading b_Q36)))))[1]!
theorem ta_parse_reading (v : Value) (w : World) : (Instr.typeAssert (.iface 116 v) 20 116 true).run Tryz.prog w = .ok (.tuple #[v, .bool true]) w := by
  have hu : Tryz.prog.underlying 116 = some (.int .i64) := by kernel_rfl
  simp [Instr.typeAssert, run_underlying hu, go_sem, Result.andThen]
theorem idle_parse_reading (v : Value) (w : World) : CallsD Tryz.prog 61 #[v] .returning w fun e u' w' => (∃ v, e = .returned v) ∧ u' = .returning ∧ w' = w := by
  refine callsD_of_wpS Tryz.func61 rfl fun c₀ cs hu => ?_
  apply wpS_seq
  apply wpS_region
  simp [wpOpsS, go_sem, recoverD, hu, Tryz.ntmps61, Exit.thenS]
  apply wpS_seq
  apply wpS_region
  simp [wpOpsS, go_sem, Exit.thenS]
  refine wpS_cond (t := false) (by simp [Act.eval, Array.replicate]) ?_
  simp only [Bool.false_eq_true, if_false]
  refine wpS_of_wp (wp_skip ?_)
  cases c₀
  simp_all [bodyPostS, results, Tryz.results61]
theorem takes_parse_reading (v : Value) (k : IntKind) (m : Int) (w w' : World) (h : (Instr.storeAt 27 v (.int k m)).run Tryz.prog w = .ok () w') :
    CallsD Tryz.prog 61 #[v] (.panicking [{ v := .iface 116 (.int k m), recovered := false }]) w fun e u' w'' => (∃ v, e = .returned v) ∧ u' = .panicking [{ v := .iface 116 (.int k m), recovered := true }] ∧ w'' = w' := by
  refine callsD_of_wpS Tryz.func61 rfl fun c₀ cs hu => ?_
  apply wpS_seq
  apply wpS_region
  simp [wpOpsS, go_sem, recoverD, hu, Tryz.ntmps61, Exit.thenS]
  apply wpS_seq
  apply wpS_region
  simp [wpOpsS, go_sem, Exit.thenS]
  refine wpS_cond (t := true) (by simp [Act.eval, Array.replicate]) ?_
  simp only [if_true]
  apply wpS_seq
  apply wpS_region
  simp [wpOpsS, go_sem, Exit.thenS, ta_parse_reading]
  apply wpS_seq
  apply wpS_seq
  apply wpS_region
  simp [wpOpsS, go_sem, Exit.thenS]
  refine wpS_cond (t := false) (by simp [Act.eval, Array.replicate]) ?_
  simp only [Bool.false_eq_true, if_false]
  refine wpS_of_wp (wp_skip ?_)
  simp only [Exit.thenS]
  apply wpS_region
  simp [wpOpsS, Region.wanted, show List.range.loop 2 [] = [0, 1] from rfl, List.range, execOp, Act.eval, Act.put, Oper.upon, h, bodyPostS, results, Tryz.results61]
noncomputable def b2_parse_reading : Code := (Tryz.f61.body).getD .skip
theorem rcvOk_Q36 [Base] : RecOk Tryz.prog 36 rcv_Q36 := rec_ok (fk := 61) (fn := Tryz.f36) (l := [(hd_Q36 b_Q36, pre_parse_reading_0), (hd_Q36 (tl_parse_reading b_Q36), pre_parse_reading_1), (hd_Q36 (tl_parse_reading (tl_parse_reading b_Q36)), pre_parse_reading_2)]) (i4 := ri_Q36 (hd_Q36 (tl_parse_reading (tl_parse_reading (tl_parse_reading b_Q36))))) (i5 := ri_Q36 (hd_Q36 (tl_parse_reading (tl_parse_reading (tl_parse_reading (tl_parse_reading b_Q36)))))) (o1 := o1_parse_reading) (o2 := o2_parse_reading) (ops := (rg_parse_reading (hd_Q36 (tl_parse_reading (tl_parse_reading (tl_parse_reading (tl_parse_reading b_Q36))))))) (cz := (tl_parse_reading (tl_parse_reading (tl_parse_reading (tl_parse_reading (tl_parse_reading b_Q36)))))) (ty := 27)
  { func := Tryz.func36
    name := by decide
    body := by rfl
    mk_ := by rfl
    mkd := by rfl
    mkg := by rfl
    df := ⟨_, by rfl⟩
    dfd := by rfl
    dfg := by rfl
    pre := by rfl
    cpre := by
      intro p hp
      simp only [List.mem_cons, List.not_mem_nil, or_false] at hp
      rcases hp with rfl | rfl | rfl
      all_goals kernel_rfl
    cops := by kernel_rfl
    cpost := by kernel_rfl
    cres := by kernel_rfl
    nargs := by decide
    dn := by decide
    tn := by decide
    dst := by decide
    kty := ⟨none, by kernel_rfl, rfl⟩
    enter := fun v w => by unfold callFunc; simp [Tryz.func61, show Tryz.f61.body = some b2_parse_reading from rfl, show ¬ Tryz.f61.name = "runtime.NumGoroutine" from by decide]
    idle := idle_parse_reading
    takes := takes_parse_reading }
end
end Go.Proofs.YtfbcnpbhhooapaaGreatDoor.M
namespace Go.Proofs.YtfbcnpbhhooapaaGreatDoor.Bk
open Go Go.RowKit Go.Shelf
attribute [local go_sem] Oper.semAt_some
def upto {α : Type} (f : Nat → α) (k : Nat) : List α := (List.range k).map f
theorem upto_succ {α : Type} (f : Nat → α) (k : Nat) : upto f (k + 1) = upto f k ++ [f k] := by simp [upto, List.range_succ]
theorem upto_length {α : Type} (f : Nat → α) (k : Nat) : (upto f k).length = k := by simp [upto]
def bk (zs : List Int) (k : Nat) : Int × Int := ((zs.length : Int) - 1 - k, zs[zs.length - 1 - k]?.getD 0)
structure Kq (n₀ Bs : Nat) (W W' : World) : Prop where
 b : Below n₀ W W'
 k : W'.heap[Bs]? = W.heap[Bs]?
theorem Kq.refl (n₀ Bs : Nat) (W : World) : Kq n₀ Bs W W := ⟨Below.refl _ _, rfl⟩
theorem Kq.trans {n₀ Bs : Nat} {A B C : World} (h : Kq n₀ Bs A B) (k : Kq n₀ Bs B C) : Kq n₀ Bs A C := ⟨h.b.trans k.b, k.k.trans h.k⟩
theorem Kq.cell {n₀ Bs : Nat} {A B : World} (h : Kq n₀ Bs A B) : B.cell? ⟨Bs, 0, none⟩ = A.cell? ⟨Bs, 0, none⟩ := by simp [World.cell?, h.k]
theorem Kq.put {n₀ Bs : Nat} {w : World} (hn : n₀ ≤ w.heap.size) (hB : Bs < w.heap.size) (W : World) (l : Nat) (o o' : Obj) (hl : w.heap.size ≤ l) (h : W.heap[l]? = some o) (h1 : o.isCells = false) (h2 : o.isWalk = false) : Kq n₀ Bs W (W.putObj l o') :=
 ⟨belowK_b hn W l o o' hl h h1 h2, (belowK_b (w := w) (Nat.le_refl _) W l o o' hl h h1 h2).block Bs hB⟩
set_option maxRecDepth 100000 in
theorem back1_in (F : Fence) (n : Nat) (h8 : F.fn 117) (hro : F.round = none) (hn : 1 ≤ n) (l Bs n₀ b off cap : Nat) (zs : List Int) (hne : 0 < zs.length) (hreach : zs.length * 8 ≤ 140737488351232) (hb : b < n₀) (J Jx : List (Int × Int) → World → Prop)
  (hY : ∀ pre x W, J pre W → pre.length < zs.length → YieldAt F (n - 1) Tryz.prog l #[.int .i64 x.1, .int .i64 x.2] W fun e W' =>
   (e = .returned (.bool true) ∧ J (pre ++ [x]) W' ∧ Kq n₀ Bs W W') ∨ (e = .returned (.bool false) ∧ Jx (pre ++ [x]) W'))
  (W : World) (hBs : W.cell? ⟨Bs, 0, none⟩ = some (.slice (some ⟨b, off, none⟩) zs.length cap)) (hc : ∀ j, j < zs.length → W.cell? ⟨b, off + j, none⟩ = some (.int .i64 (zs[j]?.getD 0))) (h0 : J [] W) :
  CallsIn F n Tryz.prog 117 #[.func (.yield l) #[] #[], .pointer (some ⟨Bs, 0, none⟩)] W fun e W' => (∃ v, e = .returned v) ∧
   ((∃ ys, ys = upto (bk zs) zs.length ∧ J ys W') ∨ (∃ pre, (∃ k, k ≤ zs.length ∧ pre = upto (bk zs) k) ∧ Jx pre W')) := by
 refine callsIn_of_wp Tryz.func117 rfl h8 ?_ hro
 simp only [Tryz.ntmps117, List.size_toArray, List.length_cons, List.length_nil, Nat.reduceAdd, Nat.reduceSub, Array.replicate_succ, Array.replicate_zero, List.push_toArray, List.append_toArray, List.nil_append, List.cons_append]
 gi_wp2
 gi_loopw [3] (fun i wr => ∃ k : Nat, k ≤ zs.length ∧ i = .int .i64 ((zs.length : Int) - 1 - k) ∧ J (upto (bk zs) k) wr ∧ Kq n₀ Bs W wr)
  (fun i _ => (intOf i + 1).toNat)
 case atStart => exact ⟨0, Nat.zero_le _, by simp, h0, Kq.refl _ _ _⟩
 case round =>
  obtain ⟨k, hk, rfl, hJs, hnx⟩ := hrel
  have hBs' := hnx.cell.trans hBs
  have hcx : k < zs.length → wr.cell? ⟨b, off + (zs.length - 1 - k), none⟩ = some (.int .i64 (zs[zs.length - 1 - k]?.getD 0)) := fun h => (hnx.b.cell (p := ⟨b, off + (zs.length - 1 - k), none⟩) hb).trans (hc _ (by omega))
  by_cases hlt : k < zs.length
  ·obtain ⟨fn, tmps, assign, body, hy, hR⟩ := hY _ (bk zs k) wr hJs (by rw [upto_length]; exact hlt)
   dsimp only [bk] at hy
   have hcx' := hcx hlt
   gi_wp2
   refine hR.mono ?_
   rintro e W3 (⟨rfl, hJ3, hk3⟩ | ⟨rfl, hJx3⟩)
   ·-- the round goes on
    gi_wp2
    go_roundw
    case rel => exact ⟨k + 1, by omega, by simp; omega, by rw [upto_succ]; exact hJ3, hnx.trans hk3⟩
    case measure => simp [intOf]; omega
   ·gi_wp2
    refine bodyPost_ret (results_none rfl _ _ _) rfl ?_
    exact ⟨⟨_, rfl⟩, .inr ⟨_, ⟨k + 1, by omega, (upto_succ _ _).symm⟩, hJx3⟩⟩
  ·obtain rfl : k = zs.length := by omega
   gi_wp2
   go_end0
   exact ⟨⟨_, rfl⟩, .inl ⟨_, rfl, hJs⟩⟩
set_option maxRecDepth 100000 in
theorem back0_in (F : Fence) (n : Nat) (h8 : F.fn 117) (hro : F.round = none) (l Bs : Nat) (A : Option Addr) (cap : Nat) (J : List (Int × Int) → World → Prop) (W : World) (hBs : W.cell? ⟨Bs, 0, none⟩ = some (.slice A 0 cap)) (h0 : J [] W) :
  CallsIn F n Tryz.prog 117 #[.func (.yield l) #[] #[], .pointer (some ⟨Bs, 0, none⟩)] W fun e W' => (∃ v, e = .returned v) ∧ J [] W' := by
 refine callsIn_of_wp Tryz.func117 rfl h8 ?_ hro
 simp only [Tryz.ntmps117, List.size_toArray, List.length_cons, List.length_nil, Nat.reduceAdd, Nat.reduceSub, Array.replicate_succ, Array.replicate_zero, List.push_toArray, List.append_toArray, List.nil_append, List.cons_append]
 gi_wp2
 gi_loopw [3] (fun i wr => i = .int .i64 (-1) ∧ J [] wr) (fun _ _ => 0)
 case atStart => exact ⟨rfl, h0⟩
 case round =>
  obtain ⟨rfl, hJs⟩ := hrel
  gi_wp2
  go_end0
  exact ⟨⟨_, rfl⟩, hJs⟩
set_option maxHeartbeats 1000000 in
theorem backward_in (F : Fence) (n : Nat) (h5 : F.fn 75) (hro : F.round = none) (a : Option Addr) (len cap : Nat) (w : World) :
  CallsIn F n Tryz.prog 75 #[.slice a len cap] w fun e w' => e = .returned (.func (.func 117) #[] #[.pointer (some ⟨w.heap.size, 0, none⟩)]) ∧ w' = w.alloc (.cells #[.slice a len cap] 39) := by
 refine callsIn_of_wp Tryz.func75 rfl h5 ?_ hro
 simp only [Tryz.ntmps75, List.size_toArray, List.length_cons, List.length_nil, Nat.reduceAdd, Nat.reduceSub, Array.replicate_succ, Array.replicate_zero, List.push_toArray, List.append_toArray, List.nil_append, List.cons_append]
 gi_wp2
 go_ret
 exact ⟨rfl, rfl⟩
def Ints (n₀ : Nat) (W : World) (sv : Value) (zs : List Int) : Prop :=
 (∃ A cap, sv = .slice A 0 cap ∧ zs = []) ∨ (0 < zs.length ∧ ∃ b off cap, sv = .slice (some ⟨b, off, none⟩) zs.length cap ∧ b < n₀ ∧ ∀ j, j < zs.length → W.cell? ⟨b, off + j, none⟩ = some (.int .i64 (zs[j]?.getD 0)))
theorem Ints.below {n₀ : Nat} {A B : World} (h : Below n₀ A B) {sv : Value} {zs : List Int} : Ints n₀ A sv zs → Ints n₀ B sv zs
 | .inl e => .inl e
 | .inr ⟨h0, b, off, cap, e, hb, hc⟩ => .inr ⟨h0, b, off, cap, e, hb, fun j hj => (h.cell (p := ⟨b, off + j, none⟩) hb).trans (hc j hj)⟩
theorem back_stops (F : Fence) (n : Nat) (h8 : F.fn 117) (hro : F.round = none) (hn : 1 ≤ n) (Bs n₀ : Nat) (sv : Value) (zs : List Int) (hreach : zs.length * 8 ≤ 140737488351232) (w : World) (hBs : Bs < w.heap.size) (hn₀ : n₀ ≤ w.heap.size)
  (hc : w.cell? ⟨Bs, 0, none⟩ = some sv) (hI : Ints n₀ w sv zs) :
  SeqStopsK F n Tryz.prog 117 #[.pointer (some ⟨Bs, 0, none⟩)] (fun x : Int × Int => #[Value.int .i64 x.1, Value.int .i64 x.2]) (Kq n₀ Bs) (fun ys => ys = upto (bk zs) zs.length)
   (fun pre => ∃ k, k ≤ zs.length ∧ pre = upto (bk zs) k) zs.length w := fun l J Jx W hW _ _ hY h0 => by
 have hc' := (hW.cell (p := ⟨Bs, 0, none⟩) hBs).trans hc
 rcases hI.below (hW.mono hn₀) with ⟨A, cap, rfl, rfl⟩ | ⟨hp, b, off, cap, rfl, hb, hcs⟩
 ·exact (back0_in F n h8 hro l Bs A cap J W hc' h0).mono fun e W' ⟨he, hj⟩ => ⟨he, .inl ⟨_, rfl, hj⟩⟩
 ·exact back1_in F n h8 hro hn l Bs n₀ b off cap zs hp hreach hb J Jx hY W hc' hcs h0
end Go.Proofs.YtfbcnpbhhooapaaGreatDoor.Bk
namespace Go.Proofs.YtfbcnpbhhooapaaGreatDoor.Bk
open Go Go.RowKit Go.Shelf
attribute [local go_sem] Oper.semAt_some
def run (o : Int → Int) : Int → List Int → Int
 | f, [] => f
 | f, k :: ks => if k < 0 ∨ k ≠ f - 1 then -1 else if o k < 0 then -1 else run o (o k) ks
theorem upto_snd (zs : List Int) : ∀ k, k ≤ zs.length → (upto (bk zs) k).map (·.2) = zs.reverse.take k
 | 0, _ => by simp [upto]
 | k + 1, h => by
  rw [upto_succ, List.map_append, upto_snd zs k (by omega), List.take_add_one, List.getElem?_reverse (by omega)]
  have : zs.length - 1 - k < zs.length := by omega
  simp [bk, this]
theorem keeps_below {W W' : World} (h : Below W.heap.size W W') : KeepsOthers W W' := ⟨h.size, fun j o hj _ => by
 rw [h.block j (Array.getElem?_eq_some_iff.1 hj).1]; exact hj⟩
structure Bx (w : World) (lv r : Value) (nd : Array Value) (W : World) : Prop where
 below : Below w.heap.size w W
 size : w.heap.size + 3 ≤ W.heap.size
 h2 : W.heap[w.heap.size]? = some (.cells #[lv] 35 (0, 0))
 h4 : W.heap[w.heap.size + 1]? = some (.cells #[r] 3 (0, 0))
 h5 : W.heap[w.heap.size + 2]? = some (.cells nd 41 (0, 0))
theorem Bx.on {w : World} {lv r : Value} {nd : Array Value} {W W' : World} (h : Bx w lv r nd W) (hb : Below (w.heap.size + 3) W W') : Bx w lv r nd W' :=
 ⟨h.below.trans (hb.mono (by omega)), Nat.le_trans h.size hb.size, (hb.block _ (by omega)).trans h.h2, (hb.block _ (by omega)).trans h.h4, (hb.block _ (by omega)).trans h.h5⟩
theorem Bx.c2 {w : World} {lv r : Value} {nd : Array Value} {W : World} (h : Bx w lv r nd W) : W.cell? ⟨w.heap.size, 0, none⟩ = some lv := by simp [World.cell?, h.h2]
theorem Bx.c4 {w : World} {lv r : Value} {nd : Array Value} {W : World} (h : Bx w lv r nd W) : W.cell? ⟨w.heap.size + 1, 0, none⟩ = some r := by simp [World.cell?, h.h4]
theorem Bx.f4 {w : World} {lv r : Value} {nd : Array Value} {W : World} (h : Bx w lv r nd W) : W.frozen? ⟨w.heap.size + 1, 0, none⟩ = false := by simp [World.frozen?, h.h4]
theorem Bx.c5 {w : World} {lv r : Value} {nd : Array Value} {W : World} (h : Bx w lv r nd W) (j : Nat) : W.cell? ⟨w.heap.size + 2, j, none⟩ = nd[j]? := by simp [World.cell?, h.h5]
theorem Bx.new (w : World) (lv r : Value) (nd : Array Value) : Bx w lv r nd (((w.alloc (.cells #[lv] 35)).alloc (.cells #[r] 3)).alloc (.cells nd 41)) := by
 refine ⟨(((Below.refl _ w).alloc (Nat.le_refl _) _).alloc (by simp) _).alloc (by simp; omega) _, by simp, ?_, ?_, ?_⟩
 ·exact (Below.heap_alloc _ _ _ (by simp; omega)).trans ((Below.heap_alloc _ _ _ (by simp)).trans (World.alloc_heap_new w _))
 ·refine (Below.heap_alloc _ _ _ (by simp)).trans ?_
  have := World.alloc_heap_new (w.alloc (.cells #[lv] 35)) (.cells #[r] 3)
  rwa [World.size_alloc] at this
 ·have := World.alloc_heap_new ((w.alloc (.cells #[lv] 35)).alloc (.cells #[r] 3)) (.cells nd 41)
  rwa [World.size_alloc, World.size_alloc] at this
structure Ls (w : World) (bf : Nat) (lv sv : Value) (r f : Int) (W : World) : Prop where
 below : Below w.heap.size w W
 lt : w.heap.size + 2 < bf
 l : Boxed W w.heap.size 35 lv
 r : Boxed W (w.heap.size + 1) 3 (.int .i64 r)
 f : Boxed W bf 3 (.int .i64 f)
 s : Boxed W (bf + 1) 39 sv
theorem Ls.own {w : World} {bf : Nat} {lv sv : Value} {r f : Int} {W W' : World} {B : Nat} {row : Option Nat} (h : Ls w bf lv sv r f W) (hB : w.heap.size ≤ B) (hg : W.grownBy W' row) (hr : ∀ r, row = some r → B ≤ r ∧ ∃ o : Obj, W.heap[r]? = some o ∧ o.isCells = false) : Ls w bf lv sv r f W' := by
 have hb : ∀ (B : Nat) (t : TypeId) (v : Value), Boxed W B t v → Boxed W' B t v := fun B t v h => h.kept hg (fun e => by
  obtain ⟨_, o, ho, hc⟩ := hr B e.symm
  rw [show W.heap[B]? = _ from h] at ho; cases ho; cases hc)
 exact ⟨h.below.grown hg h.below.size (fun k e => Nat.le_trans hB (hr k e).1), h.lt, hb _ _ _ h.l, hb _ _ _ h.r, hb _ _ _ h.f, hb _ _ _ h.s⟩
theorem Ls.setR {w : World} {bf : Nat} {lv sv : Value} {r f : Int} {W : World} (h : Ls w bf lv sv r f W) (r' : Int) : Ls w bf lv sv r' f (W.setCell ⟨w.heap.size + 1, 0, none⟩ (.int .i64 r')) :=
 have hl := h.lt
 ⟨h.below.setCell (p := ⟨w.heap.size + 1, 0, none⟩) (by simp) _, h.lt, h.l.other (by omega) _, h.r.set _, h.f.other (by omega) _, h.s.other (by omega) _⟩
theorem Ls.setF {w : World} {bf : Nat} {lv sv : Value} {r f : Int} {W : World} (h : Ls w bf lv sv r f W) (f' : Int) : Ls w bf lv sv r f' (W.setCell ⟨bf, 0, none⟩ (.int .i64 f')) :=
 have hl := h.lt
 ⟨h.below.setCell (p := ⟨bf, 0, none⟩) (by simp; omega) _, h.lt, h.l.other (by omega) _, h.r.other (by omega) _, h.f.set _, h.s.other (by omega) _⟩
theorem Ls.on {w : World} {bf : Nat} {lv sv : Value} {r f : Int} {W W' : World} (h : Ls w bf lv sv r f W) (hb : Below W.heap.size W W') : Ls w bf lv sv r f W' :=
 have k : ∀ (B : Nat) (t : TypeId) (v : Value), Boxed W B t v → Boxed W' B t v := fun B t v h => (hb.block B h.lt).trans h
 ⟨h.below.trans (hb.mono h.below.size), h.lt, k _ _ _ h.l, k _ _ _ h.r, k _ _ _ h.f, k _ _ _ h.s⟩
theorem Ls.kq {w : World} {bf : Nat} {lv sv : Value} {r f r' f' : Int} {W W' : World} (h : Ls w bf lv sv r f W) (h' : Ls w bf lv sv r' f' W') (hb : Below w.heap.size W W') : Kq w.heap.size (bf + 1) W W' := ⟨hb, (show W'.heap[bf + 1]? = _ from h'.s).trans (show W.heap[bf + 1]? = _ from h.s).symm⟩
def LI (w : World) (bf : Nat) (lv sv : Value) (o : Int → Int) (e : Nat) (pre : List (Int × Int)) (W : World) : Prop := ∃ f : Int, Ls w bf lv sv 0 f W ∧ 0 ≤ f ∧ f ≤ e ∧ ∀ rest, run o e (pre.map (·.2) ++ rest) = run o f rest
def LX (w : World) (bf : Nat) (lv sv : Value) (o : Int → Int) (e : Nat) (c : Code) (pre : List (Int × Int)) (W : World) : Prop := ∃ f : Int, Ls w bf lv sv (-1) f W ∧ c = .ret ∧ ∀ rest, run o e (pre.map (·.2) ++ rest) = -1
theorem LI.own {w : World} {bf : Nat} {lv sv : Value} {o : Int → Int} {e B : Nat} (hB : w.heap.size ≤ B) : OwnFrom B (LI w bf lv sv o e) := fun s W W' row ⟨f, h1, h2⟩ hg hr => ⟨f, h1.own hB hg hr, h2⟩
theorem LX.own {w : World} {bf : Nat} {lv sv : Value} {o : Int → Int} {e B : Nat} (hB : w.heap.size ≤ B) (c : Code) : OwnFrom B (LX w bf lv sv o e c) := fun s W W' row ⟨f, h1, h2⟩ hg hr => ⟨f, h1.own hB hg hr, h2⟩
set_option maxRecDepth 100000 in
theorem begin_in (w : World) (bl ol ln cp e : Nat) (kind num : Int) (text : ByteArray) (A3 A4 : Option Addr) (l3 c3 l4 c4 : Nat) (ks : List Int) (kk : Int) (pp : Bool) (o : Int → Int) (res : Int)
  (hbl : bl < w.heap.size) (he : e < ln) (hln : ln ≤ 1000000000) (hlc : ln ≤ cp)
  (q0 : w.cell? ⟨bl, ol + e * 5, none⟩ = some (.int .i64 kind)) (q1 : w.cell? ⟨bl, ol + e * 5 + 1, none⟩ = some (.int .i64 num)) (q2 : w.cell? ⟨bl, ol + e * 5 + 2, none⟩ = some (.string text)) (q3 : w.cell? ⟨bl, ol + e * 5 + 3, none⟩ = some (.slice A3 l3 c3)) (q4 : w.cell? ⟨bl, ol + e * 5 + 4, none⟩ = some (.slice A4 l4 c4))
  (hl4 : l4 = ks.length) (hks : Ints w.heap.size w (.slice A4 l4 c4) ks) (hreach : ks.length ≤ 1000000000)
  (hK : ∀ W, Below w.heap.size w W → Calls Tryz.prog 73 #[.int .i64 kind] W fun x W' => x = .returned (.int .i64 kk) ∧ Below W.heap.size W W')
  (hP : (kk = ks.length ∨ kk = -1) → ∀ W, Below w.heap.size w W → Calls Tryz.prog 74 #[.agg #[.int .i64 kind, .int .i64 num, .string text, .slice A3 l3 c3, .slice A4 l4 c4]] W fun x W' => x = .returned (.bool pp) ∧ Below W.heap.size W W')
  (hB : (kk = ks.length ∨ kk = -1) → pp = true → ∀ k : Int, 0 ≤ k → k < e → o k ≤ k ∧ ∀ W, Below w.heap.size w W → Calls Tryz.prog 47 #[.slice (some ⟨bl, ol, none⟩) ln cp, .int .i64 k] W fun x W' => x = .returned (.int .i64 (o k)) ∧ Below W.heap.size W W')
  (hr : res = if (kk ≠ ks.length ∧ kk ≠ -1) ∨ pp = false then -1 else run o e ks.reverse) :
  Calls Tryz.prog 47 #[.slice (some ⟨bl, ol, none⟩) ln cp, .int .i64 (e : Int)] w fun x w' =>
   x = .returned (.int .i64 res) ∧ Below w.heap.size w w' := by
 subst hl4
 refine (callsIn_wide (n := 9)).1 ?_
 refine callsIn_of_wp_marks Tryz.func47 rfl trivial ?_ rfl
 simp only [Tryz.ntmps47, List.size_toArray, List.length_cons, List.length_nil, Nat.reduceAdd, Nat.reduceSub, Array.replicate_succ, Array.replicate_zero, List.push_toArray, List.append_toArray, List.nil_append, List.cons_append]
 gi_wp2
 refine ⟨trivial, ?_⟩
 have hx0 := Bx.new w (.slice (some ⟨bl, ol, none⟩) ln cp) (.int .i64 0) #[.int .i64 kind, .int .i64 num, .string text, .slice A3 l3 c3, .slice A4 ks.length c4]
 refine (callsIn_wide.2 (hK _ hx0.below)).mono ?_
 rintro x w1 ⟨rfl, hb1⟩
 have hx1 := hx0.on (hb1.mono (by simp))
 have a2 := hx1.c2
 have a4 := hx1.c4
 have f4 := hx1.f4
 have a50 := hx1.c5 0
 have a51 := hx1.c5 1
 have a52 := hx1.c5 2
 have a53 := hx1.c5 3
 have a54 := hx1.c5 4
 simp only [List.getElem?_toArray, List.getElem?_cons_zero, List.getElem?_cons_succ] at a50 a51 a52 a53 a54
 gi_wp2
 ·refine ⟨trivial, ?_⟩
  refine ((callsIn_wide (n := 8)).2 (hP (.inl (by assumption)) w1 hx1.below)).mono ?_
  rintro x w2 ⟨rfl, hb2⟩
  have hx2 := hx1.on (hb2.mono hx1.size)
  have d2 := hx2.c2
  have d4 := hx2.c4
  have g4 := hx2.f4
  have d54 := hx2.c5 4
  simp only [List.getElem?_toArray, List.getElem?_cons_zero, List.getElem?_cons_succ] at d54
  cases pp with
  | false =>
   gi_wp2
   have hb4 : Boxed w2 (w.heap.size + 1) 3 (.int .i64 0) := hx2.h4
   have hc5 := (hb4.set (.int .i64 (-1))).cell
   refine ⟨.int .i64 (-1), ?_, by rw [hr]; simp, hx2.below.setCell (p := ⟨w.heap.size + 1, 0, none⟩) (by simp) _⟩
   simp [results, Tryz.f47, go_sem, hc5]
  | true =>
   have hx3 := hx2.on (((Below.refl _ w2).alloc hx2.size (.cells #[.int .i64 (e : Int)] 3)))
   have hz : w.heap.size + 1 + 1 < w2.heap.size := by have := hx2.size; omega
   have e54 := hx3.c5 4
   simp only [List.getElem?_toArray, List.getElem?_cons_zero, List.getElem?_cons_succ] at e54
   gi_wp2
   refine ⟨trivial, ?_⟩
   refine (backward_in Fence.wide 8 trivial rfl A4 ks.length c4 _).mono ?_
   rintro x w4 ⟨rfl, rfl⟩
   gi_wp2
   have hW2 := hx2.below.size
   have hz2 := hx2.size
   obtain ⟨W0, hW0⟩ : ∃ W0, (w2.alloc (.cells #[.int .i64 (e : Int)] 3)).alloc (.cells #[.slice A4 ks.length c4] 39) = W0 := ⟨_, rfl⟩
   have hs0 : W0.heap.size = w2.heap.size + 2 := by rw [← hW0]; simp
   have hK0 : Boxed W0 (w2.heap.size + 1) 39 (.slice A4 ks.length c4) := by
    rw [← hW0]
    have := Boxed.new (w2.alloc (.cells #[.int .i64 (e : Int)] 3)) 39 (.slice A4 ks.length c4)
    rwa [World.size_alloc] at this
   have hF0 : Boxed W0 w2.heap.size 3 (.int .i64 (e : Int)) := by
    rw [← hW0]
    exact (Boxed.new w2 3 (.int .i64 (e : Int))).alloc _
   have hb0 : Below w2.heap.size w2 W0 := by
    rw [← hW0]
    exact ((Below.refl _ w2).alloc (Nat.le_refl _) _).alloc (by simp) _
   have hx4 := hx2.on (hb0.mono hz2)
   have hL0 : Ls w w2.heap.size (.slice (some ⟨bl, ol, none⟩) ln cp) (.slice A4 ks.length c4) 0 e W0 := ⟨hx4.below, by omega, hx4.h2, hx4.h4, hF0, hK0⟩
   rw [hW0]
   refine wpIn_rangeFunc_ownG (w0 := W0) rfl (by decide) (gf := 117) (lb := #[.pointer (some ⟨w2.heap.size + 1, 0, none⟩)]) rfl trivial (enters_of Tryz.func117 (by kernel_rfl) rfl)
    (back_stops Fence.wide 8 trivial rfl (by decide) (w2.heap.size + 1) w.heap.size _ ks (by omega) W0 (by omega) (by omega) hK0.cell (hks.below hx4.below)) (fun h k => Kq.trans h k) (fun W l o o' => Kq.put (by omega) (by omega) W l o o') (Below.refl _ _) (fun _ => rfl)
    (LI w w2.heap.size (.slice (some ⟨bl, ol, none⟩) ln cp) (.slice A4 ks.length c4) o e)
    (LX w w2.heap.size (.slice (some ⟨bl, ol, none⟩) ln cp) (.slice A4 ks.length c4) o e)
    (LI.own (by omega)) (LX.own (by omega)) ⟨e, hL0, by omega, by omega, fun rest => rfl⟩ ?a1 ?assign ?body ?done ?stop
   case assign =>
    intro l x W K hK
    gi_wp2
    exact hK
   case body =>
    rintro l pre ⟨x1, x2⟩ W ⟨f, hL, hf0, hfe, hrun⟩ _
    have b2 := hL.l.cell
    have b4 := hL.r.cell
    have b4f := hL.r.frozen
    have b7 := hL.f.cell
    have b7f := hL.f.frozen
    have stop : (x2 < 0 ∨ x2 ≠ f - 1) → ∀ rest, run o e ((pre ++ [(x1, x2)]).map (·.2) ++ rest) = -1 := fun h rest => by
     rw [List.map_append, List.append_assoc, hrun]
     simp only [List.map_cons, List.map_nil, List.cons_append, List.nil_append, run]
     rw [if_pos h]
    gi_wp2
    ·have hq : x2 < 0 ∨ (x2 != f - 1) = true := by assumption
     exact ⟨(KeepsOthers.setCell _ _ _).from _, f, hL.setR _, rfl, stop (by simpa using hq)⟩
    ·have hq : 0 ≤ x2 ∧ (x2 != f - 1) = false := by assumption
     have hx : x2 = f - 1 := by simpa using hq.2
     have h0 : 0 ≤ x2 := hq.1
     clear hq
     subst hx
     obtain ⟨ho, hc⟩ := hB (.inl (by assumption)) (by trivial) (f - 1) h0 (by omega)
     refine ⟨trivial, ?_⟩
     refine (CallsIn.inRound l ((callsIn_wide (n := 6)).2 (hc W hL.below))).mono ?_
     rintro y W5 ⟨rfl, hb5⟩
     have hL5 := hL.on hb5
     have hL6 := hL5.setF (o (f - 1))
     have c7 := hL5.f.cell
     have c7f := hL5.f.frozen
     have c8 := hL6.f.cell
     have c4 := hL6.r.cell
     have c45 := hL5.r.cell
     have c4g := hL5.r.frozen
     have c4f := hL6.r.frozen
     have go : ∀ rest, run o e ((pre ++ [(x1, f - 1)]).map (·.2) ++ rest) = if o (f - 1) < 0 then -1 else run o (o (f - 1)) rest := fun rest => by
      rw [List.map_append, List.append_assoc, hrun]
      simp only [List.map_cons, List.map_nil, List.cons_append, List.nil_append, run]
      rw [if_neg (by omega)]
     have keep : KeepsOthers W (W5.setCell ⟨w2.heap.size, 0, none⟩ (.int .i64 (o (f - 1)))) := (keeps_below hb5).trans (KeepsOthers.setCell _ _ _)
     have bel : Below w.heap.size W (W5.setCell ⟨w2.heap.size, 0, none⟩ (.int .i64 (o (f - 1)))) := (hb5.mono hL.below.size).setCell (p := ⟨w2.heap.size, 0, none⟩) (by simp; omega) _
     gi_wp2
     ·have hn : o (f - 1) < 0 := by assumption
      exact ⟨(keep.trans (KeepsOthers.setCell _ _ _)).from _, _, hL6.setR _, rfl, fun rest => by rw [go, if_pos hn]⟩
     ·have hn : 0 ≤ o (f - 1) := by assumption
      exact ⟨keep.from _, hL.kq hL6 bel, _, hL6, hn, by omega, fun rest => by rw [go, if_neg (by omega)]⟩
    ·exact ⟨(KeepsOthers.setCell _ _ _).from _, f, hL.setR _, rfl, stop (.inl (by assumption))⟩
   case done =>
    rintro D ys W hD rfl ⟨f, hL, hf0, hfe, hrun⟩ hK
    have b4 := hL.r.cell
    have b4f := hL.r.frozen
    have b7 := hL.f.cell
    have hL6 := hL.setR f
    have hres : run o e ks.reverse = f := by
     have := hrun []
     rw [upto_snd ks ks.length (Nat.le_refl _), List.append_nil, List.take_of_length_le (by simp)] at this
     exact this
    gi_wp2
    have hK' := (KeepsOthers.setCell W ⟨w.heap.size + 1, 0, none⟩ (.int .i64 f)).same D _ hK rfl
    refine ⟨by simp, .inl ⟨_, _, rfl, run_takeDeferred hK', ?_⟩⟩
    have hc5 := cell_kept hL6.r.cell (grownBy_putObj' _ D (.deferred none)) (fun r e => by cases e; exact ⟨_, hK', rfl⟩)
    have e0 : res = f := by
     rw [hr, if_neg, hres]
     rintro (h | h)
     ·rcases (show kk = ks.length ∨ kk = -1 from (.inl (by assumption))) with e | e
      ·exact h.1 e
      ·exact h.2 e
     ·cases h
    refine ⟨.int .i64 f, ?_, by rw [e0], hL6.below.trans (belowK_b (w := w) (Nat.le_refl _) _ D _ _ (by omega) hK' rfl rfl)⟩
    simp [results, Tryz.f47, go_sem, hc5]
   case stop =>
    rintro D c pre W hD ⟨k, hk, rfl⟩ ⟨f, hL, rfl, hrun⟩ hK
    have hres : run o e ks.reverse = -1 := by
     have := hrun (ks.reverse.drop k)
     rw [upto_snd ks k hk, List.take_append_drop] at this
     exact this
    gi_wp2
    refine ⟨by simp, .inl ⟨_, _, rfl, run_takeDeferred hK, ?_⟩⟩
    have hc5 := cell_kept hL.r.cell (grownBy_putObj' _ D (.deferred none)) (fun r e => by cases e; exact ⟨_, hK, rfl⟩)
    have e0 : res = -1 := by
     rw [hr, hres]
     split <;> rfl
    refine ⟨.int .i64 (-1), ?_, by rw [e0], hL.below.trans (belowK_b (w := w) (Nat.le_refl _) _ D _ _ (by omega) hK rfl rfl)⟩
    simp [results, Tryz.f47, go_sem, hc5]
 ·refine ⟨trivial, ?_⟩
  refine ((callsIn_wide (n := 8)).2 (hP (.inr (by assumption)) w1 hx1.below)).mono ?_
  rintro x w2 ⟨rfl, hb2⟩
  have hx2 := hx1.on (hb2.mono hx1.size)
  have d2 := hx2.c2
  have d4 := hx2.c4
  have g4 := hx2.f4
  have d54 := hx2.c5 4
  simp only [List.getElem?_toArray, List.getElem?_cons_zero, List.getElem?_cons_succ] at d54
  cases pp with
  | false =>
   gi_wp2
   have hb4 : Boxed w2 (w.heap.size + 1) 3 (.int .i64 0) := hx2.h4
   have hc5 := (hb4.set (.int .i64 (-1))).cell
   refine ⟨.int .i64 (-1), ?_, by rw [hr]; simp, hx2.below.setCell (p := ⟨w.heap.size + 1, 0, none⟩) (by simp) _⟩
   simp [results, Tryz.f47, go_sem, hc5]
  | true =>
   have hx3 := hx2.on (((Below.refl _ w2).alloc hx2.size (.cells #[.int .i64 (e : Int)] 3)))
   have hz : w.heap.size + 1 + 1 < w2.heap.size := by have := hx2.size; omega
   have e54 := hx3.c5 4
   simp only [List.getElem?_toArray, List.getElem?_cons_zero, List.getElem?_cons_succ] at e54
   gi_wp2
   refine ⟨trivial, ?_⟩
   refine (backward_in Fence.wide 8 trivial rfl A4 ks.length c4 _).mono ?_
   rintro x w4 ⟨rfl, rfl⟩
   gi_wp2
   have hW2 := hx2.below.size
   have hz2 := hx2.size
   obtain ⟨W0, hW0⟩ : ∃ W0, (w2.alloc (.cells #[.int .i64 (e : Int)] 3)).alloc (.cells #[.slice A4 ks.length c4] 39) = W0 := ⟨_, rfl⟩
   have hs0 : W0.heap.size = w2.heap.size + 2 := by rw [← hW0]; simp
   have hK0 : Boxed W0 (w2.heap.size + 1) 39 (.slice A4 ks.length c4) := by
    rw [← hW0]
    have := Boxed.new (w2.alloc (.cells #[.int .i64 (e : Int)] 3)) 39 (.slice A4 ks.length c4)
    rwa [World.size_alloc] at this
   have hF0 : Boxed W0 w2.heap.size 3 (.int .i64 (e : Int)) := by
    rw [← hW0]
    exact (Boxed.new w2 3 (.int .i64 (e : Int))).alloc _
   have hb0 : Below w2.heap.size w2 W0 := by
    rw [← hW0]
    exact ((Below.refl _ w2).alloc (Nat.le_refl _) _).alloc (by simp) _
   have hx4 := hx2.on (hb0.mono hz2)
   have hL0 : Ls w w2.heap.size (.slice (some ⟨bl, ol, none⟩) ln cp) (.slice A4 ks.length c4) 0 e W0 := ⟨hx4.below, by omega, hx4.h2, hx4.h4, hF0, hK0⟩
   rw [hW0]
   refine wpIn_rangeFunc_ownG (w0 := W0) rfl (by decide) (gf := 117) (lb := #[.pointer (some ⟨w2.heap.size + 1, 0, none⟩)]) rfl trivial (enters_of Tryz.func117 (by kernel_rfl) rfl)
    (back_stops Fence.wide 8 trivial rfl (by decide) (w2.heap.size + 1) w.heap.size _ ks (by omega) W0 (by omega) (by omega) hK0.cell (hks.below hx4.below)) (fun h k => Kq.trans h k) (fun W l o o' => Kq.put (by omega) (by omega) W l o o') (Below.refl _ _) (fun _ => rfl)
    (LI w w2.heap.size (.slice (some ⟨bl, ol, none⟩) ln cp) (.slice A4 ks.length c4) o e)
    (LX w w2.heap.size (.slice (some ⟨bl, ol, none⟩) ln cp) (.slice A4 ks.length c4) o e)
    (LI.own (by omega)) (LX.own (by omega)) ⟨e, hL0, by omega, by omega, fun rest => rfl⟩ ?a2 ?assign ?body ?done ?stop
   case assign =>
    intro l x W K hK
    gi_wp2
    exact hK
   case body =>
    rintro l pre ⟨x1, x2⟩ W ⟨f, hL, hf0, hfe, hrun⟩ _
    have b2 := hL.l.cell
    have b4 := hL.r.cell
    have b4f := hL.r.frozen
    have b7 := hL.f.cell
    have b7f := hL.f.frozen
    have stop : (x2 < 0 ∨ x2 ≠ f - 1) → ∀ rest, run o e ((pre ++ [(x1, x2)]).map (·.2) ++ rest) = -1 := fun h rest => by
     rw [List.map_append, List.append_assoc, hrun]
     simp only [List.map_cons, List.map_nil, List.cons_append, List.nil_append, run]
     rw [if_pos h]
    gi_wp2
    ·have hq : x2 < 0 ∨ (x2 != f - 1) = true := by assumption
     exact ⟨(KeepsOthers.setCell _ _ _).from _, f, hL.setR _, rfl, stop (by simpa using hq)⟩
    ·have hq : 0 ≤ x2 ∧ (x2 != f - 1) = false := by assumption
     have hx : x2 = f - 1 := by simpa using hq.2
     have h0 : 0 ≤ x2 := hq.1
     clear hq
     subst hx
     obtain ⟨ho, hc⟩ := hB (.inr (by assumption)) (by trivial) (f - 1) h0 (by omega)
     refine ⟨trivial, ?_⟩
     refine (CallsIn.inRound l ((callsIn_wide (n := 6)).2 (hc W hL.below))).mono ?_
     rintro y W5 ⟨rfl, hb5⟩
     have hL5 := hL.on hb5
     have hL6 := hL5.setF (o (f - 1))
     have c7 := hL5.f.cell
     have c7f := hL5.f.frozen
     have c8 := hL6.f.cell
     have c4 := hL6.r.cell
     have c45 := hL5.r.cell
     have c4g := hL5.r.frozen
     have c4f := hL6.r.frozen
     have go : ∀ rest, run o e ((pre ++ [(x1, f - 1)]).map (·.2) ++ rest) = if o (f - 1) < 0 then -1 else run o (o (f - 1)) rest := fun rest => by
      rw [List.map_append, List.append_assoc, hrun]
      simp only [List.map_cons, List.map_nil, List.cons_append, List.nil_append, run]
      rw [if_neg (by omega)]
     have keep : KeepsOthers W (W5.setCell ⟨w2.heap.size, 0, none⟩ (.int .i64 (o (f - 1)))) := (keeps_below hb5).trans (KeepsOthers.setCell _ _ _)
     have bel : Below w.heap.size W (W5.setCell ⟨w2.heap.size, 0, none⟩ (.int .i64 (o (f - 1)))) := (hb5.mono hL.below.size).setCell (p := ⟨w2.heap.size, 0, none⟩) (by simp; omega) _
     gi_wp2
     ·have hn : o (f - 1) < 0 := by assumption
      exact ⟨(keep.trans (KeepsOthers.setCell _ _ _)).from _, _, hL6.setR _, rfl, fun rest => by rw [go, if_pos hn]⟩
     ·have hn : 0 ≤ o (f - 1) := by assumption
      exact ⟨keep.from _, hL.kq hL6 bel, _, hL6, hn, by omega, fun rest => by rw [go, if_neg (by omega)]⟩
    ·exact ⟨(KeepsOthers.setCell _ _ _).from _, f, hL.setR _, rfl, stop (.inl (by assumption))⟩
   case done =>
    rintro D ys W hD rfl ⟨f, hL, hf0, hfe, hrun⟩ hK
    have b4 := hL.r.cell
    have b4f := hL.r.frozen
    have b7 := hL.f.cell
    have hL6 := hL.setR f
    have hres : run o e ks.reverse = f := by
     have := hrun []
     rw [upto_snd ks ks.length (Nat.le_refl _), List.append_nil, List.take_of_length_le (by simp)] at this
     exact this
    gi_wp2
    have hK' := (KeepsOthers.setCell W ⟨w.heap.size + 1, 0, none⟩ (.int .i64 f)).same D _ hK rfl
    refine ⟨by simp, .inl ⟨_, _, rfl, run_takeDeferred hK', ?_⟩⟩
    have hc5 := cell_kept hL6.r.cell (grownBy_putObj' _ D (.deferred none)) (fun r e => by cases e; exact ⟨_, hK', rfl⟩)
    have e0 : res = f := by
     rw [hr, if_neg, hres]
     rintro (h | h)
     ·rcases (show kk = ks.length ∨ kk = -1 from (.inr (by assumption))) with e | e
      ·exact h.1 e
      ·exact h.2 e
     ·cases h
    refine ⟨.int .i64 f, ?_, by rw [e0], hL6.below.trans (belowK_b (w := w) (Nat.le_refl _) _ D _ _ (by omega) hK' rfl rfl)⟩
    simp [results, Tryz.f47, go_sem, hc5]
   case stop =>
    rintro D c pre W hD ⟨k, hk, rfl⟩ ⟨f, hL, rfl, hrun⟩ hK
    have hres : run o e ks.reverse = -1 := by
     have := hrun (ks.reverse.drop k)
     rw [upto_snd ks k hk, List.take_append_drop] at this
     exact this
    gi_wp2
    refine ⟨by simp, .inl ⟨_, _, rfl, run_takeDeferred hK, ?_⟩⟩
    have hc5 := cell_kept hL.r.cell (grownBy_putObj' _ D (.deferred none)) (fun r e => by cases e; exact ⟨_, hK, rfl⟩)
    have e0 : res = -1 := by
     rw [hr, hres]
     split <;> rfl
    refine ⟨.int .i64 (-1), ?_, by rw [e0], hL.below.trans (belowK_b (w := w) (Nat.le_refl _) _ D _ _ (by omega) hK rfl rfl)⟩
    simp [results, Tryz.f47, go_sem, hc5]
 ·refine ⟨trivial, ?_⟩
  gi_wp2
  have hb4 : Boxed w1 (w.heap.size + 1) 3 (.int .i64 0) := hx1.h4
  have hc5 := (hb4.set (.int .i64 (-1))).cell
  refine ⟨.int .i64 (-1), ?_, ?_, hx1.below.setCell (p := ⟨w.heap.size + 1, 0, none⟩) (by simp) _⟩
  ·simp [results, Tryz.f47, go_sem, hc5]
  ·rw [hr, if_pos]
   exact .inl ⟨by assumption, by assumption⟩
end Go.Proofs.YtfbcnpbhhooapaaGreatDoor.Bk
namespace Go.Proofs.YtfbcnpbhhooapaaGreatDoor.M
set_option linter.unusedSimpArgs false
set_option linter.unusedVariables false
set_option linter.unusedSectionVars false
open Go Go.RowKit Classical
section
variable [Base] {g g' : Gh} {S S' : Sto} {w w' : World} {P : Program}
def dataG (g : Gh) : Gh := ⟨fun _ _ => none, fun _ _ => none, g.fz⟩
theorem dataG_own (g : Gh) (x : Ow) : (dataG g).own x = none := by cases x <;> rfl
theorem dataG_wr {W : World} (hw : WR g S w) (hb : Below w.heap.size w W) : WR (dataG g) [] W where
 ok := ⟨Nat.le_trans hw.ok.size hb.size, fun k hk => (hb.block k (Nat.lt_of_lt_of_le hk hw.ok.size)).trans (hw.ok.keep k hk), fun x k h => by rw [dataG_own] at h; cases h⟩
 fz := fun b o v h => by
  have h1 := hw.fz b o v h
  have hlt := cell_lt h1
  unfold World.cell? at h1 ⊢
  rw [hb.block b hlt]
  exact h1
 box := fun n t b h => by cases h
 arr := fun n k ai h => by cases h
 inj := fun x y b h => by rw [dataG_own] at h; cases h
theorem ask_ok {cl : Oracle} (hcl : OracleOk P cl) {f : Nat} {args : List PV} {v : PV} (ho : pureO cl f args = some v) {W : World} (hw : WR g S w) (hb : Below w.heap.size w W) {cs : Array Value} (ha : ArgsR (dataG g) args cs) (he : (callFunc f cs).run P W = .ok (.enter f cs) W) :
  Calls P f cs W fun e W' => ∃ c g', e = .returned c ∧ VR g' v c ∧ Below W.heap.size W W' := by
 have h1 := pureO_inv ho
 have h2 := hcl f args [] (by rw [h1]; intro e; cases e) (dataG g) W cs (dataG_wr hw hb) ha
 rw [h1] at h2
 rcases h2 with ⟨_, h2⟩ | ⟨c, W', h2, _⟩
 ·refine h2.mono fun e W' h => ?_
  cases e with
  | returned c =>
   obtain ⟨g', _, _, ht, hv, _⟩ := h
   exact ⟨c, g', rfl, hv, ht.os, ht.tape, ht.output, ht.size, fun k hk => ht.keep k hk fun x => by rw [dataG_own]; exact fun e => by cases e⟩
  | panicked ch => exact h.elim
  | outgrown => exact h.elim
 ·rw [he] at h2
  cases h2
theorem vr_int {g : Gh} {k : IntKind} {n : Int} {c : Value} (h : VR g (.int k n) c) : c = .int k n := by
 cases h with
 | data _ _ h => cases h; rfl
theorem vr_bool {g : Gh} {b : Bool} {c : Value} (h : VR g (.bool b) c) : c = .bool b := by
 cases h with
 | data _ _ h => cases h; rfl
def kidsOf : List (List PV) → Option (List Int)
 | [] => some []
 | [.int .i64 k] :: l => (kidsOf l).map (k :: ·)
 | _ => none
def askAll (lv : PV) (k : List Int → Qn) : Nat → List Int → Qn
 | 0, acc => k acc
 | n + 1, acc => .ask 47 [lv, .int .i64 (acc.length : Nat)] fun r => match r with
  | .int .i64 v => if v ≤ (acc.length : Nat) then askAll lv k n (acc ++ [v]) else .no
  | _ => .no
def beginK (lv : PV) (kind num : Int) (text : List UInt8) (l3 l4 : PV) (ks : List Int) (e : Int) : Qn :=
 .ask 73 [.int .i64 kind] fun kk => match kk with
  | .int .i64 kk => if kk ≠ (ks.length : Nat) ∧ kk ≠ -1 then .ret (.int .i64 (-1)) else
   .ask 74 [.agg [.int .i64 kind, .int .i64 num, .str text, l3, l4]] fun pp => match pp with
    | .bool pp => if pp = false then .ret (.int .i64 (-1)) else askAll lv (fun rs => .ret (.int .i64 (Bk.run (fun k => (rs[k.toNat]?).getD 0) e ks.reverse))) e.toNat []
    | _ => .no
  | _ => .no
def beginQ : List PV → Qn
 | [.list 5 rows full, .int .i64 e] =>
  if 0 ≤ e ∧ e.toNat < rows.length ∧ rows.length ≤ 1000000000 then
   match rows[e.toNat]? with
   | some [.int .i64 kind, .int .i64 num, .str text, .list z3 r3 f3, .list 1 r4 f4] =>
    match kidsOf r4 with
    | some ks => if ks.length ≤ 1000000000 then beginK (.list 5 rows full) kind num text (.list z3 r3 f3) (.list 1 r4 f4) ks e else .no
    | none => .no
   | _ => .no
  else .no
 | _ => .no
theorem kidsOf_get : ∀ {r : List (List PV)} {ks : List Int}, kidsOf r = some ks → r = ks.map fun k => [PV.int .i64 k]
 | [], ks, h => by cases h; rfl
 | a :: l, ks, h => by
  unfold kidsOf at h
  split at h
  ·rename_i e
   cases e
  ·rename_i k l' e
   obtain ⟨q, hq, rfl⟩ := Option.map_eq_some_iff.1 h
   obtain ⟨rfl, rfl⟩ := List.cons.inj e
   rw [List.map_cons, ← kidsOf_get hq]
  ·cases h
theorem argsR1 {v : PV} {c : Value} (h : VR g v c) : ArgsR g [v] #[c] := ⟨rfl, fun i u hu => by
 match i, hu with
 | 0, hu => cases hu; exact h⟩
theorem argsR2 {v u : PV} {c d : Value} (h : VR g v c) (h' : VR g u d) : ArgsR g [v, u] #[c, d] := ⟨rfl, fun i x hx => by
 match i, hx with
 | 0, hx => cases hx; exact h
 | 1, hx => cases hx; exact h'⟩
theorem vr_agg5 {a0 a1 a2 a3 a4 : PV} {u0 u1 u2 u3 u4 : Value} (h0 : VR g a0 u0) (h1 : VR g a1 u1) (h2 : VR g a2 u2) (h3 : VR g a3 u3) (h4 : VR g a4 u4) : VR g (.agg [a0, a1, a2, a3, a4]) (.agg #[u0, u1, u2, u3, u4]) :=
 .agg _ _ rfl fun i v hv => by
  match i, hv with
  | 0, hv => cases hv; exact h0
  | 1, hv => cases hv; exact h1
  | 2, hv => cases hv; exact h2
  | 3, hv => cases hv; exact h3
  | 4, hv => cases hv; exact h4
theorem askAll_ev {o : Nat → List PV → Option PV} {lv : PV} {k : List Int → Qn} {v : PV} : ∀ (n : Nat) (acc : List Int), (askAll lv k n acc).ev o = some v → ∃ rs, rs.length = acc.length + n ∧ (∀ j, j < acc.length → rs[j]? = acc[j]?) ∧ (k rs).ev o = some v ∧ ∀ j, acc.length ≤ j → j < rs.length → ∃ u, rs[j]? = some u ∧ u ≤ (j : Nat) ∧ o 47 [lv, .int .i64 (j : Nat)] = some (.int .i64 u)
 | 0, acc, h => ⟨acc, rfl, fun _ _ => rfl, h, fun j h1 h2 => by omega⟩
 | n + 1, acc, h => by
  simp only [askAll, Qn.ev] at h
  cases ho : o 47 [lv, .int .i64 (acc.length : Nat)] with
  | none => rw [ho] at h; cases h
  | some r =>
   rw [ho] at h
   simp only at h
   split at h
   ·rename_i u
    split at h
    ·rename_i hu
     obtain ⟨rs, h1, h2, h3, h4⟩ := askAll_ev n (acc ++ [u]) h
     simp only [List.length_append, List.length_cons, List.length_nil] at h1 h2 h4
     refine ⟨rs, by omega, fun j hj => (h2 j (by omega)).trans (List.getElem?_append_left hj), h3, fun j hj1 hj2 => ?_⟩
     by_cases e : j = acc.length
     ·subst e
      refine ⟨u, (h2 acc.length (by omega)).trans (by simp), hu, ho⟩
     ·exact h4 j (by omega) hj2
    ·cases h
   ·cases h
end
theorem begin_orc [Base] : OrcOk Tryz.prog 47 beginQ := by
 intro cl hcl hm args v hq g S w cs hw ha
 unfold beginQ at hq
 split at hq
 ·rename_i rows full e
  split at hq
  ·rename_i hc
   obtain ⟨he0, hel, hrl⟩ := hc
   split at hq
   ·rename_i kind num text z3 r3 f3 r4 f4 hrow
    split at hq
    ·rename_i ks hks
     split at hq
     ·rename_i hkl
      obtain ⟨c, d, rfl, h1, h2⟩ := args2 ha
      obtain rfl := vr_int h2
      cases h1 with
      | data _ _ h1 =>
       have h10 := h1
       cases h1 with
       | list _ _ _ A cap cv hl hf hs hA hcell hv =>
        have hne : rows ≠ [] := fun e => by rw [e] at hel; simp at hel
        obtain ⟨ad, rfl, hspot⟩ := hA hne
        obtain ⟨bl, ol, sp⟩ := ad
        simp only at hspot
        subst hspot
        have q : ∀ (j : Nat) (u : PV), [PV.int .i64 kind, .int .i64 num, .str text, .list z3 r3 f3, .list 1 r4 f4][j]? = some u → w.cell? ⟨bl, ol + (e.toNat * 5 + j), none⟩ = some (cv e.toNat j) ∧ FR g.fz u (cv e.toNat j) := fun j u hu =>
         ⟨hw.fz _ _ _ (hcell ⟨bl, ol, none⟩ e.toNat j _ u rfl hrow hu), hv e.toNat j _ u hrow hu⟩
        obtain ⟨q0, v0⟩ := q 0 _ rfl
        obtain ⟨q1, v1⟩ := q 1 _ rfl
        obtain ⟨q2, v2⟩ := q 2 _ rfl
        obtain ⟨q3, v3⟩ := q 3 _ rfl
        obtain ⟨q4, v4⟩ := q 4 _ rfl
        have w3 := v3
        have w4 := v4
        generalize cv e.toNat 0 = u0 at *
        generalize cv e.toNat 1 = u1 at *
        generalize cv e.toNat 2 = u2 at *
        generalize cv e.toNat 3 = u3 at *
        generalize cv e.toNat 4 = u4 at *
        cases v0
        cases v1
        cases v2
        cases v3 with
        | list _ _ _ A3 c3 _ _ _ _ _ _ _ =>
         cases v4 with
         | list _ _ _ A4 c4 cv4 _ _ _ hA4 hcell4 hv4 =>
          have hbl : bl < w.heap.size := cell_lt q0
          have hr4 := kidsOf_get hks
          have hl4 : r4.length = ks.length := by rw [hr4, List.length_map]
          have hkid : ∀ j, j < ks.length → r4[j]? = some [.int .i64 ((ks[j]?).getD 0)] := fun j hj => by rw [hr4, List.getElem?_map, List.getElem?_eq_getElem hj]; rfl
          have hI : Bk.Ints w.heap.size w (.slice A4 r4.length c4) ks := by
           by_cases h0 : 0 < ks.length
           ·have hne4 : r4 ≠ [] := fun e => by rw [e] at hl4; simp at hl4; omega
            obtain ⟨⟨b4, o4, sp4⟩, rfl, hs4⟩ := hA4 hne4
            simp only at hs4
            subst hs4
            have hcell4' : ∀ j, j < ks.length → w.cell? ⟨b4, o4 + j, none⟩ = some (.int .i64 ((ks[j]?).getD 0)) := fun j hj => by
             have h5 := hcell4 ⟨b4, o4, none⟩ j 0 _ _ rfl (hkid j hj) rfl
             have h6 := hv4 j 0 _ _ (hkid j hj) rfl
             have h7 := hw.fz _ _ _ h5
             simp only [Nat.mul_one, Nat.add_zero] at h7
             rw [h7, vr_int (g := g) (.data _ _ h6)]
            exact .inr ⟨h0, b4, o4, c4, by rw [hl4], cell_lt (hcell4' 0 h0), hcell4'⟩
           ·exact .inl ⟨A4, c4, by rw [hl4, show ks.length = 0 by omega], List.length_eq_zero_iff.1 (by omega)⟩
          have ee : e = ((e.toNat : Nat) : Int) := by omega
          unfold beginK at hq
          simp only [Qn.ev] at hq
          cases hk73 : pureO cl 73 [.int .i64 kind] with
          | none => rw [hk73] at hq; cases hq
          | some k73 =>
           rw [hk73] at hq
           simp only at hq
           split at hq
           ·rename_i kk
            have hK : ∀ W, Below w.heap.size w W → Calls Tryz.prog 73 #[.int .i64 kind] W fun x W' => x = .returned (.int .i64 kk) ∧ Below W.heap.size W W' := fun W hb =>
             (ask_ok hcl hk73 hw hb (argsR1 (.data _ _ (.int _ _))) (enters_of Tryz.func73 (by kernel_rfl) rfl _ _)).mono fun x W' ⟨c, g', h1, h2, h3⟩ => ⟨by rw [h1, vr_int h2], h3⟩
            have fin : ∀ (res : Int) (pp : Bool) (o : Int → Int),
              ((kk = ks.length ∨ kk = -1) → ∀ W, Below w.heap.size w W → Calls Tryz.prog 74 #[.agg #[.int .i64 kind, .int .i64 num, .string ⟨text.toArray⟩, .slice A3 r3.length c3, .slice A4 r4.length c4]] W fun x W' => x = .returned (.bool pp) ∧ Below W.heap.size W W') →
              ((kk = ks.length ∨ kk = -1) → pp = true → ∀ k : Int, 0 ≤ k → k < e.toNat → o k ≤ k ∧ ∀ W, Below w.heap.size w W → Calls Tryz.prog 47 #[.slice (some ⟨bl, ol, none⟩) rows.length cap, .int .i64 k] W fun x W' => x = .returned (.int .i64 (o k)) ∧ Below W.heap.size W W') →
              (res = if (kk ≠ ks.length ∧ kk ≠ -1) ∨ pp = false then -1 else Bk.run o e.toNat ks.reverse) → v = .int .i64 res →
              Answers Tryz.prog 47 #[.slice (some ⟨bl, ol, none⟩) rows.length cap, .int .i64 e] w (CallPost g S w (.ok (.v v) S)) := fun res pp o hP hB hr hv => by
             have key := Bk.begin_in w bl ol rows.length cap e.toNat kind num ⟨text.toArray⟩ A3 A4 r3.length c3 r4.length c4 ks kk pp o res hbl hel hrl hl q0 q1 q2 q3 q4 hl4 hI hkl hK hP hB hr
             rw [← ee] at key
             subst hv
             left
             refine ⟨enters_of Tryz.func47 (by kernel_rfl) rfl _ _, key.mono fun x W' ⟨h1, h2⟩ => ?_⟩
             subst h1
             exact ext_post hw h2 (.data _ _ (.int _ _))
            split at hq
            ·rename_i hkk
             simp only [Qn.ev, Option.some.injEq] at hq
             exact fin (-1) false (fun _ => 0) (fun h => absurd h (by rintro (h | h); exact hkk.1 h; exact hkk.2 h)) (fun _ h => by cases h) (by rw [if_pos (.inl hkk)]) hq.symm
            ·rename_i hkk
             simp only [Qn.ev] at hq
             cases hk74 : pureO cl 74 [.agg [.int .i64 kind, .int .i64 num, .str text, .list z3 r3 f3, .list 1 r4 f4]] with
             | none => rw [hk74] at hq; cases hq
             | some k74 =>
              rw [hk74] at hq
              simp only at hq
              split at hq
              ·rename_i pp
               have hP : (kk = ks.length ∨ kk = -1) → ∀ W, Below w.heap.size w W → Calls Tryz.prog 74 #[.agg #[.int .i64 kind, .int .i64 num, .string ⟨text.toArray⟩, .slice A3 r3.length c3, .slice A4 r4.length c4]] W fun x W' => x = .returned (.bool pp) ∧ Below W.heap.size W W' := fun _ W hb =>
                (ask_ok hcl hk74 hw hb (argsR1 (vr_agg5 (.data _ _ (.int _ _)) (.data _ _ (.int _ _)) (.data _ _ (.str _)) (.data _ _ w3) (.data _ _ w4))) (enters_of Tryz.func74 (by kernel_rfl) rfl _ _)).mono fun x W' ⟨c, g', h1, h2, h3⟩ => ⟨by rw [h1, vr_bool h2], h3⟩
               split at hq
               ·rename_i hpp
                subst hpp
                simp only [Qn.ev, Option.some.injEq] at hq
                exact fin (-1) false (fun _ => 0) hP (fun _ h => by cases h) (by rw [if_pos (.inr rfl)]) hq.symm
               ·rename_i hpp
                obtain ⟨rs, r1, r2, r3', r4'⟩ := askAll_ev _ _ hq
                simp only [List.length_nil, Nat.zero_add] at r1 r4'
                simp only [Qn.ev, Option.some.injEq] at r3'
                refine fin _ pp (fun k => (rs[k.toNat]?).getD 0) hP (fun _ _ k k0 k1 => ?_) (by rw [if_neg (by rintro (h | h); exact hkk h; exact hpp h)]) (by rw [← r3', ← ee])
                obtain ⟨u, u1, u2, u3⟩ := r4' k.toNat (by omega) (by omega)
                have ek : ((k.toNat : Nat) : Int) = k := by omega
                rw [ek] at u2 u3
                have e1 : (rs[k.toNat]?).getD 0 = u := by rw [u1]; rfl
                simp only [e1]
                exact ⟨u2, fun W hb => (ask_ok hcl u3 hw hb (argsR2 (.data _ _ h10) (.data _ _ (.int _ _))) (enters_of Tryz.func47 (by kernel_rfl) rfl _ _)).mono fun x W' ⟨c, g', h1, h2, h3⟩ => ⟨by rw [h1, vr_int h2], h3⟩⟩
              ·cases hq
           ·cases hq
     ·cases hq
    ·cases hq
   ·cases hq
  ·cases hq
 ·cases hq
end Go.Proofs.YtfbcnpbhhooapaaGreatDoor.M
namespace Go.Proofs.YtfbcnpbhhooapaaGreatDoor.M
set_option linter.unusedVariables false
open Go Classical
noncomputable def exts : Nat → Option XF := fun f => if f = 106 then some (.fn (itoaX)) else if f = 108 then some (.fn (boolX)) else if f = 94 then some (.fn (repeatX)) else if f = 112 then some (.fn (cutX)) else if f = 179 then some (.fn (indexX)) else if f = 129 then some (.fn (prefixX)) else if f = 162 then some (.fn (containsX)) else if f = 120 then some (.fn (replaceX)) else if f = 163 then some (.fn (atoiX 218)) else if f = 144 then some (.fn (cloneX 1 8)) else if f = 36 then some (.rcv rcv_Q36) else if f = 47 then some (.orc beginQ) else  none
noncomputable def SP : Prg := SPof Tryz.prog exts
theorem sp_strconv_Itoa : SP 106 = some (.ext (itoaX)) := rfl
theorem sp_strings_Cut : SP 112 = some (.ext (cutX)) := rfl
theorem sp_strings_IndexByte : SP 179 = some (.ext (indexX)) := rfl
theorem sp_strings_HasPrefix : SP 129 = some (.ext (prefixX)) := rfl
theorem sp_strings_Contains : SP 162 = some (.ext (containsX)) := rfl
theorem sp_strings_ReplaceAll : SP 120 = some (.ext (replaceX)) := rfl
theorem sp_strconv_Atoi : SP 163 = some (.ext (atoiX 218)) := rfl
theorem sp_slices_Clone_int_int : SP 144 = some (.ext (cloneX 1 8)) := rfl
theorem sp_Q36 : SP 36 = some (.rcv rcv_Q36) := rfl
theorem sp_Q47 : SP 47 = some (.orc beginQ) := rfl
end Go.Proofs.YtfbcnpbhhooapaaGreatDoor.M
namespace Go.Proofs.YtfbcnpbhhooapaaGreatDoor.M
open Go Classical
def R_Q8 (x0 : List UInt8) (r0 : Bool) : Prop := ∀ (S : Sto), call SP 8 [.list 1 (x0.map eB) false] S = .ok (.v (.bool r0)) S
def R_Q15 (r0 : Bool) : Prop := ∀ (S : Sto), call SP 15 [] S = .ok (.v (.bool r0)) S
def R_Q16 (x0 : Int) (r0 : List UInt8) : Prop := ∀ (S : Sto), call SP 16 [.int .i64 x0] S = .ok (.v (.str r0)) S
def R_Q17 (x0 : List UInt8) (r0 : List Block) (r1 : Int) : Prop := ∀ (S : Sto), call SP 17 [.str x0] S = .ok (.v (.tup [.list 4 (r0.map eBlock) false, .int .i64 r1])) S
def R_Q18 (x0 : Int) (r0 : Int) : Prop := ∀ (S : Sto), call SP 18 [.int .i64 x0] S = .ok (.v (.int .i64 r0)) S
def R_Q20 (x0 : List UInt8) (r0 : List Node) (r1 : Int) : Prop := ∀ (S : Sto), call SP 20 [.str x0] S = .ok (.v (.tup [.list 5 (r0.map eNode) false, .int .i64 r1])) S
def R_Q26 (x0 : List Node) (r0 : Bool) : Prop := ∀ (S : Sto), call SP 26 [.list 5 (x0.map eNode) false] S = .ok (.v (.bool r0)) S
def R_Q37 (x0 : PBlocks) (x0_g2 : Nat) (x0_z2 : Bool) (x1 : List Block) (x1_g0 : Nat) (x1_z0 : Bool) (o : Option Int) (x0' : PBlocks) (x0'_g2 : Nat) (x0'_z2 : Bool) (x1' : List Block) (x1'_g0 : Nat) (x1'_z0 : Bool) : Prop := ∀ (S : Sto) (n0 : Nat) (t0 : Nat) (n1 : Nat) (t1 : Nat), (getBox S n0 t0).map (List.take 4) = some [.list 5 (x0.exprs.tokens.l.map eToken) false, .int .i64 x0.exprs.tokens.pos, .sl 0 (.cell t0 2) 0 x0.exprs.out.length x0.exprs.out.length x0_g2 false, .int .i64 x0.exprs.deep] ∧ getArr S n0 (.cell t0 2) = some ⟨5, x0.exprs.out.map eNode, x0_z2, x0_g2⟩ → (getBox S n1 t1).map (List.take 1) = some [.sl 0 (.cell t1 0) 0 x1.length x1.length x1_g0 false] ∧ getArr S n1 (.cell t1 0) = some ⟨4, x1.map eBlock, x1_z0, x1_g0⟩ → n0 ≠ n1 → call SP 37 [.ptr n0 t0 0, .ptr n1 t1 0] S = po 116 o (.v (.tup [])) (setArr (setBox (setArr (setBox S n0 t0 ([.list 5 (x0'.exprs.tokens.l.map eToken) false, .int .i64 x0'.exprs.tokens.pos, .sl 0 (.cell t0 2) 0 x0'.exprs.out.length x0'.exprs.out.length x0'_g2 false, .int .i64 x0'.exprs.deep] ++ ((getBox S n0 t0).getD []).drop 4)) n0 (.cell t0 2) ⟨5, x0'.exprs.out.map eNode, x0'_z2, x0'_g2⟩) n1 t1 ([.sl 0 (.cell t1 0) 0 x1'.length x1'.length x1'_g0 false] ++ ((getBox (setArr (setBox S n0 t0 ([.list 5 (x0'.exprs.tokens.l.map eToken) false, .int .i64 x0'.exprs.tokens.pos, .sl 0 (.cell t0 2) 0 x0'.exprs.out.length x0'.exprs.out.length x0'_g2 false, .int .i64 x0'.exprs.deep] ++ ((getBox S n0 t0).getD []).drop 4)) n0 (.cell t0 2) ⟨5, x0'.exprs.out.map eNode, x0'_z2, x0'_g2⟩) n1 t1).getD []).drop 1)) n1 (.cell t1 0) ⟨4, x1'.map eBlock, x1'_z0, x1'_g0⟩)
def R_Q40 (x0 : PBlocks) (x0_g2 : Nat) (x0_z2 : Bool) (x1 : PV) (o : Option Int) (x0' : PBlocks) (x0'_g2 : Nat) (x0'_z2 : Bool) (x1' : PV) : Prop := ∀ (S : Sto) (n0 : Nat) (t0 : Nat) (n1 : Nat) (t1 : Nat), (getBox S n0 t0).map (List.take 4) = some [.list 5 (x0.exprs.tokens.l.map eToken) false, .int .i64 x0.exprs.tokens.pos, .sl 0 (.cell t0 2) 0 x0.exprs.out.length x0.exprs.out.length x0_g2 false, .int .i64 x0.exprs.deep] ∧ getArr S n0 (.cell t0 2) = some ⟨5, x0.exprs.out.map eNode, x0_z2, x0_g2⟩ → (getBox S n1 t1).map (List.take 1) = some [x1] → n0 ≠ n1 → call SP 40 [.ptr n0 t0 0, .ptr n1 t1 0] S = po 116 o (.v (.tup [])) (setBox (setArr (setBox S n0 t0 ([.list 5 (x0'.exprs.tokens.l.map eToken) false, .int .i64 x0'.exprs.tokens.pos, .sl 0 (.cell t0 2) 0 x0'.exprs.out.length x0'.exprs.out.length x0'_g2 false, .int .i64 x0'.exprs.deep] ++ ((getBox S n0 t0).getD []).drop 4)) n0 (.cell t0 2) ⟨5, x0'.exprs.out.map eNode, x0'_z2, x0'_g2⟩) n1 t1 ([x1'] ++ ((getBox (setArr (setBox S n0 t0 ([.list 5 (x0'.exprs.tokens.l.map eToken) false, .int .i64 x0'.exprs.tokens.pos, .sl 0 (.cell t0 2) 0 x0'.exprs.out.length x0'.exprs.out.length x0'_g2 false, .int .i64 x0'.exprs.deep] ++ ((getBox S n0 t0).getD []).drop 4)) n0 (.cell t0 2) ⟨5, x0'.exprs.out.map eNode, x0'_z2, x0'_g2⟩) n1 t1).getD []).drop 1))
def R_Q47 (x0 : List Node) (x1 : Int) (r0 : Int) : Prop := ∀ (S : Sto), call SP 47 [.list 5 (x0.map eNode) false, .int .i64 x1] S = .ok (.v (.int .i64 r0)) S
def R_Q60 (x0 : List UInt8) (r0 : List Token) (r1 : Int) : Prop := ∀ (S : Sto), call SP 60 [.str x0] S = .ok (.v (.tup [.list 5 (r0.map eToken) false, .int .i64 r1])) S
def R_slices_Index_string_string (x0 : List (List UInt8)) (x1 : List UInt8) (r0 : Int) : Prop := ∀ (S : Sto), call SP 62 [.list 1 (x0.map eS) false, .str x1] S = .ok (.v (.int .i64 r0)) S
def R_Q63 (r0 : List (List UInt8)) : Prop := ∀ (S : Sto), call SP 63 [] S = .ok (.v (.list 1 (r0.map eS) false)) S
def R_Q73 (x0 : Int) (r0 : Int) : Prop := ∀ (S : Sto), call SP 73 [.int .i64 x0] S = .ok (.v (.int .i64 r0)) S
def R_Q74 (x0 : Node) (r0 : Bool) : Prop := ∀ (S : Sto), call SP 74 [.agg (eNode x0)] S = .ok (.v (.bool r0)) S
def R_Q81 (x0 : List UInt8) (r0 : Bool) : Prop := ∀ (S : Sto), call SP 81 [.str x0] S = .ok (.v (.bool r0)) S
def R_strconv_Itoa (x0 : Int) (r0 : List UInt8) : Prop := ∀ (S : Sto), call SP 106 [.int .i64 x0] S = .ok (.v (.str r0)) S
def R_strings_Cut (x0 : List UInt8) (x1 : List UInt8) (r0 : List UInt8) (r1 : List UInt8) (r2 : Bool) : Prop := ∀ (S : Sto), call SP 112 [.str x0, .str x1] S = .ok (.v (.tup [.str r0, .str r1, .bool r2])) S
def R_Q113 (x0 : List UInt8) (r0 : Bool) : Prop := ∀ (S : Sto), call SP 113 [.str x0] S = .ok (.v (.bool r0)) S
def R_Q114 (x0 : List UInt8) (r0 : Bool) : Prop := ∀ (S : Sto), call SP 114 [.str x0] S = .ok (.v (.bool r0)) S
def R_Q115 (x0 : List UInt8) (r0 : Bool) : Prop := ∀ (S : Sto), call SP 115 [.str x0] S = .ok (.v (.bool r0)) S
def R_Q116 (x0 : List Part) (r0 : Bool) : Prop := ∀ (S : Sto), call SP 116 [.list 2 (x0.map ePart) false] S = .ok (.v (.bool r0)) S
def R_strings_ReplaceAll (x0 : List UInt8) (x1 : List UInt8) (x2 : List UInt8) (r0 : List UInt8) : Prop := ∀ (S : Sto), call SP 120 [.str x0, .str x1, .str x2] S = .ok (.v (.str r0)) S
def R_strings_HasPrefix (x0 : List UInt8) (x1 : List UInt8) (r0 : Bool) : Prop := ∀ (S : Sto), call SP 129 [.str x0, .str x1] S = .ok (.v (.bool r0)) S
def R_Q137 (x0 : UInt8) (r0 : Int) : Prop := ∀ (S : Sto), call SP 137 [.int .u8 ((x0.toNat : Nat) : Int)] S = .ok (.v (.int .i64 r0)) S
def R_Q143 (x0 : Int) (x1 : List UInt8) (r0 : Int) (r1 : Bool) : Prop := ∀ (S : Sto), call SP 143 [.int .i64 x0, .str x1] S = .ok (.v (.tup [.int .i64 r0, .bool r1])) S
def R_slices_Clone_int_int (x0 : List Int) (r0 : List Int) : Prop := ∀ (S : Sto), call SP 144 [.list 1 (x0.map eI) false] S = .ok (.v (.list 1 (r0.map eI) false)) S
def R_Q151 (x0 : List UInt8) (x1 : List Int) (r0 : Int) : Prop := ∀ (S : Sto), call SP 151 [.str x0, .list 1 (x1.map eI) false] S = .ok (.v (.int .i64 r0)) S
def R_Q152 (x0 : List UInt8) (r0 : Bool) : Prop := ∀ (S : Sto), call SP 152 [.str x0] S = .ok (.v (.bool r0)) S
def R_slices_Contains_string_string (x0 : List (List UInt8)) (x1 : List UInt8) (r0 : Bool) : Prop := ∀ (S : Sto), call SP 161 [.list 1 (x0.map eS) false, .str x1] S = .ok (.v (.bool r0)) S
def R_strings_Contains (x0 : List UInt8) (x1 : List UInt8) (r0 : Bool) : Prop := ∀ (S : Sto), call SP 162 [.str x0, .str x1] S = .ok (.v (.bool r0)) S
def R_strconv_Atoi (x0 : List UInt8) (r0 : Int) (r1 : Bool) : Prop := ∀ (S : Sto), call SP 163 [.str x0] S = .ok (.v (.tup [.int .i64 r0, eE 218 r1])) S
def R_Q164 (x0 : List UInt8) (r0 : UInt8) (r1 : Bool) : Prop := ∀ (S : Sto), call SP 164 [.str x0] S = .ok (.v (.tup [.int .u8 ((r0.toNat : Nat) : Int), .bool r1])) S
def R_Q166 (x0 : List UInt8) (r0 : List UInt8) (r1 : Bool) : Prop := ∀ (S : Sto), call SP 166 [.str x0] S = .ok (.v (.tup [.str r0, .bool r1])) S
def R_slices_Contains_int_int (x0 : List Int) (x1 : Int) (r0 : Bool) : Prop := ∀ (S : Sto), call SP 170 [.list 1 (x0.map eI) false, .int .i64 x1] S = .ok (.v (.bool r0)) S
def R_strings_IndexByte (x0 : List UInt8) (x1 : UInt8) (r0 : Int) : Prop := ∀ (S : Sto), call SP 179 [.str x0, .int .u8 ((x1.toNat : Nat) : Int)] S = .ok (.v (.int .i64 r0)) S
def R_slices_Index_int_int (x0 : List Int) (x1 : Int) (r0 : Int) : Prop := ∀ (S : Sto), call SP 190 [.list 1 (x0.map eI) false, .int .i64 x1] S = .ok (.v (.int .i64 r0)) S
def R_Q38 (x0 : PTokens) (r0 : Token) (x0' : PTokens) : Prop := ∀ (S : Sto) (n0 : Nat) (t0 : Nat), (getBox S n0 t0).map (List.take 2) = some [.list 5 (x0.l.map eToken) false, .int .i64 x0.pos] → call SP 38 [.ptr n0 t0 0] S = .ok (.v (.agg [.int .i64 r0.Kind, .str r0.Text, .int .i64 r0.Num, .list 2 (r0.Parts.map ePart) false, .int .i64 r0.At])) (setBox S n0 t0 ([.list 5 (x0'.l.map eToken) false, .int .i64 x0'.pos] ++ ((getBox S n0 t0).getD []).drop 2))
def R_Q39 (x0 : PBlocks) (x0_g2 : Nat) (x0_z2 : Bool) (x1 : Bool) (o : Option Int) (r0 : Block) (x0' : PBlocks) (x0'_g2 : Nat) (x0'_z2 : Bool) : Prop := ∀ (S : Sto) (n0 : Nat) (t0 : Nat), (getBox S n0 t0).map (List.take 4) = some [.list 5 (x0.exprs.tokens.l.map eToken) false, .int .i64 x0.exprs.tokens.pos, .sl 0 (.cell t0 2) 0 x0.exprs.out.length x0.exprs.out.length x0_g2 false, .int .i64 x0.exprs.deep] ∧ getArr S n0 (.cell t0 2) = some ⟨5, x0.exprs.out.map eNode, x0_z2, x0_g2⟩ → call SP 39 [.ptr n0 t0 0, .bool x1] S = po 116 o (.v (.agg [.int .i64 r0.Kind, .str r0.Label, .list 2 (r0.Attrs.map eAttr) false, .list 4 (r0.Blocks.map eBlock) false])) (setArr (setBox S n0 t0 ([.list 5 (x0'.exprs.tokens.l.map eToken) false, .int .i64 x0'.exprs.tokens.pos, .sl 0 (.cell t0 2) 0 x0'.exprs.out.length x0'.exprs.out.length x0'_g2 false, .int .i64 x0'.exprs.deep] ++ ((getBox S n0 t0).getD []).drop 4)) n0 (.cell t0 2) ⟨5, x0'.exprs.out.map eNode, x0'_z2, x0'_g2⟩)
def R_Q41 (x0 : PExprs) (x0_g2 : Nat) (x0_z2 : Bool) (o : Option Int) (r0 : List Node) (x0' : PExprs) (x0'_g2 : Nat) (x0'_z2 : Bool) : Prop := ∀ (S : Sto) (n0 : Nat) (t0 : Nat), (getBox S n0 t0).map (List.take 4) = some [.list 5 (x0.tokens.l.map eToken) false, .int .i64 x0.tokens.pos, .sl 0 (.cell t0 2) 0 x0.out.length x0.out.length x0_g2 false, .int .i64 x0.deep] ∧ getArr S n0 (.cell t0 2) = some ⟨5, x0.out.map eNode, x0_z2, x0_g2⟩ → call SP 41 [.ptr n0 t0 0] S = po 116 o (.v (.list 5 (r0.map eNode) false)) (setArr (setBox S n0 t0 ([.list 5 (x0'.tokens.l.map eToken) false, .int .i64 x0'.tokens.pos, .sl 0 (.cell t0 2) 0 x0'.out.length x0'.out.length x0'_g2 false, .int .i64 x0'.deep] ++ ((getBox S n0 t0).getD []).drop 4)) n0 (.cell t0 2) ⟨5, x0'.out.map eNode, x0'_z2, x0'_g2⟩)
def R_Q42 (x0 : PTokens) (x1 : Int) (o : Option Int) (x0' : PTokens) : Prop := ∀ (S : Sto) (n0 : Nat) (t0 : Nat), (getBox S n0 t0).map (List.take 2) = some [.list 5 (x0.l.map eToken) false, .int .i64 x0.pos] → call SP 42 [.ptr n0 t0 0, .int .i64 x1] S = po 116 o (.v (.tup [])) (setBox S n0 t0 ([.list 5 (x0'.l.map eToken) false, .int .i64 x0'.pos] ++ ((getBox S n0 t0).getD []).drop 2))
def R_Q64 (x0 : PBlocks) (x0_g2 : Nat) (x0_z2 : Bool) (o : Option Int) (r0 : List UInt8) (x0' : PBlocks) (x0'_g2 : Nat) (x0'_z2 : Bool) : Prop := ∀ (S : Sto) (n0 : Nat) (t0 : Nat), (getBox S n0 t0).map (List.take 4) = some [.list 5 (x0.exprs.tokens.l.map eToken) false, .int .i64 x0.exprs.tokens.pos, .sl 0 (.cell t0 2) 0 x0.exprs.out.length x0.exprs.out.length x0_g2 false, .int .i64 x0.exprs.deep] ∧ getArr S n0 (.cell t0 2) = some ⟨5, x0.exprs.out.map eNode, x0_z2, x0_g2⟩ → call SP 64 [.ptr n0 t0 0] S = po 116 o (.v (.str r0)) (setArr (setBox S n0 t0 ([.list 5 (x0'.exprs.tokens.l.map eToken) false, .int .i64 x0'.exprs.tokens.pos, .sl 0 (.cell t0 2) 0 x0'.exprs.out.length x0'.exprs.out.length x0'_g2 false, .int .i64 x0'.exprs.deep] ++ ((getBox S n0 t0).getD []).drop 4)) n0 (.cell t0 2) ⟨5, x0'.exprs.out.map eNode, x0'_z2, x0'_g2⟩)
def R_Q65 (x0 : PBlocks) (x0_g2 : Nat) (x0_z2 : Bool) (o : Option Int) (r0 : List Attr) (x0' : PBlocks) (x0'_g2 : Nat) (x0'_z2 : Bool) : Prop := (∀ (S : Sto) (n0 : Nat) (t0 : Nat), (getBox S n0 t0).map (List.take 4) = some [.list 5 (x0.exprs.tokens.l.map eToken) false, .int .i64 x0.exprs.tokens.pos, .sl 0 (.cell t0 2) 0 x0.exprs.out.length x0.exprs.out.length x0_g2 false, .int .i64 x0.exprs.deep] ∧ getArr S n0 (.cell t0 2) = some ⟨5, x0.exprs.out.map eNode, x0_z2, x0_g2⟩ → call SP 65 [.ptr n0 t0 0] S = po 116 o (.v (.list 2 (r0.map eAttr) false)) (setArr (setBox S n0 t0 ([.list 5 (x0'.exprs.tokens.l.map eToken) false, .int .i64 x0'.exprs.tokens.pos, .sl 0 (.cell t0 2) 0 x0'.exprs.out.length x0'.exprs.out.length x0'_g2 false, .int .i64 x0'.exprs.deep] ++ ((getBox S n0 t0).getD []).drop 4)) n0 (.cell t0 2) ⟨5, x0'.exprs.out.map eNode, x0'_z2, x0'_g2⟩)) ∨ (∀ (S : Sto) (n0 : Nat) (t0 : Nat), (getBox S n0 t0).map (List.take 4) = some [.list 5 (x0.exprs.tokens.l.map eToken) false, .int .i64 x0.exprs.tokens.pos, .sl 0 (.cell t0 2) 0 x0.exprs.out.length x0.exprs.out.length x0_g2 false, .int .i64 x0.exprs.deep] ∧ getArr S n0 (.cell t0 2) = some ⟨5, x0.exprs.out.map eNode, x0_z2, x0_g2⟩ → call SP 65 [.ptr n0 t0 0] S = po 116 o (.arr 2 (r0.map eAttr) false) (setArr (setBox S n0 t0 ([.list 5 (x0'.exprs.tokens.l.map eToken) false, .int .i64 x0'.exprs.tokens.pos, .sl 0 (.cell t0 2) 0 x0'.exprs.out.length x0'.exprs.out.length x0'_g2 false, .int .i64 x0'.exprs.deep] ++ ((getBox S n0 t0).getD []).drop 4)) n0 (.cell t0 2) ⟨5, x0'.exprs.out.map eNode, x0'_z2, x0'_g2⟩))
def R_Q66 (x0 : PTokens) (x1 : List UInt8) (o : Option Int) (x0' : PTokens) : Prop := ∀ (S : Sto) (n0 : Nat) (t0 : Nat), (getBox S n0 t0).map (List.take 2) = some [.list 5 (x0.l.map eToken) false, .int .i64 x0.pos] → call SP 66 [.ptr n0 t0 0, .str x1] S = po 116 o (.v (.tup [])) (setBox S n0 t0 ([.list 5 (x0'.l.map eToken) false, .int .i64 x0'.pos] ++ ((getBox S n0 t0).getD []).drop 2))
def R_Q67 (x0 : PTokens) (x1 : List UInt8) (r0 : Bool) (x0' : PTokens) : Prop := ∀ (S : Sto) (n0 : Nat) (t0 : Nat), (getBox S n0 t0).map (List.take 2) = some [.list 5 (x0.l.map eToken) false, .int .i64 x0.pos] → call SP 67 [.ptr n0 t0 0, .str x1] S = .ok (.v (.bool r0)) (setBox S n0 t0 ([.list 5 (x0'.l.map eToken) false, .int .i64 x0'.pos] ++ ((getBox S n0 t0).getD []).drop 2))
def R_Q68 (x0 : PExprs) (x0_g2 : Nat) (x0_z2 : Bool) (o : Option Int) (r0 : Int) (x0' : PExprs) (x0'_g2 : Nat) (x0'_z2 : Bool) : Prop := ∀ (S : Sto) (n0 : Nat) (t0 : Nat), (getBox S n0 t0).map (List.take 4) = some [.list 5 (x0.tokens.l.map eToken) false, .int .i64 x0.tokens.pos, .sl 0 (.cell t0 2) 0 x0.out.length x0.out.length x0_g2 false, .int .i64 x0.deep] ∧ getArr S n0 (.cell t0 2) = some ⟨5, x0.out.map eNode, x0_z2, x0_g2⟩ → call SP 68 [.ptr n0 t0 0] S = po 116 o (.v (.int .i64 r0)) (setArr (setBox S n0 t0 ([.list 5 (x0'.tokens.l.map eToken) false, .int .i64 x0'.tokens.pos, .sl 0 (.cell t0 2) 0 x0'.out.length x0'.out.length x0'_g2 false, .int .i64 x0'.deep] ++ ((getBox S n0 t0).getD []).drop 4)) n0 (.cell t0 2) ⟨5, x0'.out.map eNode, x0'_z2, x0'_g2⟩)
def R_Q97 (x0 : LTokens) (x0_g2 : Nat) (x0_z2 : Bool) (x0' : LTokens) (x0'_g2 : Nat) (x0'_z2 : Bool) : Prop := ∀ (S : Sto) (n0 : Nat) (t0 : Nat), (getBox S n0 t0).map (List.take 3) = some [.str x0.text.left, .int .i64 x0.text.pos, .sl 0 (.cell t0 2) 0 x0.out.length x0.out.length x0_g2 false] ∧ getArr S n0 (.cell t0 2) = some ⟨5, x0.out.map eToken, x0_z2, x0_g2⟩ → call SP 97 [.ptr n0 t0 0] S = .ok (.v (.tup [])) (setArr (setBox S n0 t0 ([.str x0'.text.left, .int .i64 x0'.text.pos, .sl 0 (.cell t0 2) 0 x0'.out.length x0'.out.length x0'_g2 false] ++ ((getBox S n0 t0).getD []).drop 3)) n0 (.cell t0 2) ⟨5, x0'.out.map eToken, x0'_z2, x0'_g2⟩)
def R_Q98 (x0 : LTokens) (x0_g2 : Nat) (x0_z2 : Bool) (r0 : Bool) (x0' : LTokens) (x0'_g2 : Nat) (x0'_z2 : Bool) : Prop := ∀ (S : Sto) (n0 : Nat) (t0 : Nat), (getBox S n0 t0).map (List.take 3) = some [.str x0.text.left, .int .i64 x0.text.pos, .sl 0 (.cell t0 2) 0 x0.out.length x0.out.length x0_g2 false] ∧ getArr S n0 (.cell t0 2) = some ⟨5, x0.out.map eToken, x0_z2, x0_g2⟩ → call SP 98 [.ptr n0 t0 0] S = .ok (.v (.bool r0)) (setArr (setBox S n0 t0 ([.str x0'.text.left, .int .i64 x0'.text.pos, .sl 0 (.cell t0 2) 0 x0'.out.length x0'.out.length x0'_g2 false] ++ ((getBox S n0 t0).getD []).drop 3)) n0 (.cell t0 2) ⟨5, x0'.out.map eToken, x0'_z2, x0'_g2⟩)
def R_Q100 (x0 : Attr) (x1 : List UInt8) (r0 : Bool) : Prop := ∀ (S : Sto) (n1 : Nat) (t1 : Nat), (getBox S n1 t1).map (List.take 1) = some [.str x1] → call SP 100 [.agg (eAttr x0), .ptr n1 t1 0] S = .ok (.v (.bool r0)) S
def R_Q101 (x0 : PTokens) (o : Option Int) (r0 : List UInt8) (x0' : PTokens) : Prop := ∀ (S : Sto) (n0 : Nat) (t0 : Nat), (getBox S n0 t0).map (List.take 2) = some [.list 5 (x0.l.map eToken) false, .int .i64 x0.pos] → call SP 101 [.ptr n0 t0 0] S = po 116 o (.v (.str r0)) (setBox S n0 t0 ([.list 5 (x0'.l.map eToken) false, .int .i64 x0'.pos] ++ ((getBox S n0 t0).getD []).drop 2))
def R_Q102 (x0 : PTokens) (x1 : List UInt8) (r0 : Bool) (x0' : PTokens) : Prop := ∀ (S : Sto) (n0 : Nat) (t0 : Nat), (getBox S n0 t0).map (List.take 2) = some [.list 5 (x0.l.map eToken) false, .int .i64 x0.pos] → call SP 102 [.ptr n0 t0 0, .str x1] S = .ok (.v (.bool r0)) (setBox S n0 t0 ([.list 5 (x0'.l.map eToken) false, .int .i64 x0'.pos] ++ ((getBox S n0 t0).getD []).drop 2))
def R_Q103 (x0 : PExprs) (x0_g2 : Nat) (x0_z2 : Bool) (x1 : Int) (o : Option Int) (r0 : Int) (x0' : PExprs) (x0'_g2 : Nat) (x0'_z2 : Bool) : Prop := ∀ (S : Sto) (n0 : Nat) (t0 : Nat), (getBox S n0 t0).map (List.take 4) = some [.list 5 (x0.tokens.l.map eToken) false, .int .i64 x0.tokens.pos, .sl 0 (.cell t0 2) 0 x0.out.length x0.out.length x0_g2 false, .int .i64 x0.deep] ∧ getArr S n0 (.cell t0 2) = some ⟨5, x0.out.map eNode, x0_z2, x0_g2⟩ → call SP 103 [.ptr n0 t0 0, .int .i64 x1] S = po 116 o (.v (.int .i64 r0)) (setArr (setBox S n0 t0 ([.list 5 (x0'.tokens.l.map eToken) false, .int .i64 x0'.tokens.pos, .sl 0 (.cell t0 2) 0 x0'.out.length x0'.out.length x0'_g2 false, .int .i64 x0'.deep] ++ ((getBox S n0 t0).getD []).drop 4)) n0 (.cell t0 2) ⟨5, x0'.out.map eNode, x0'_z2, x0'_g2⟩)
def R_Q104 (x0 : PExprs) (x0_g2 : Nat) (x0_z2 : Bool) (x1 : List UInt8) (o : Option Int) (x0' : PExprs) (x0'_g2 : Nat) (x0'_z2 : Bool) : Prop := ∀ (S : Sto) (n0 : Nat) (t0 : Nat), (getBox S n0 t0).map (List.take 4) = some [.list 5 (x0.tokens.l.map eToken) false, .int .i64 x0.tokens.pos, .sl 0 (.cell t0 2) 0 x0.out.length x0.out.length x0_g2 false, .int .i64 x0.deep] ∧ getArr S n0 (.cell t0 2) = some ⟨5, x0.out.map eNode, x0_z2, x0_g2⟩ → call SP 104 [.ptr n0 t0 0, .str x1] S = po 116 o (.v (.tup [])) (setArr (setBox S n0 t0 ([.list 5 (x0'.tokens.l.map eToken) false, .int .i64 x0'.tokens.pos, .sl 0 (.cell t0 2) 0 x0'.out.length x0'.out.length x0'_g2 false, .int .i64 x0'.deep] ++ ((getBox S n0 t0).getD []).drop 4)) n0 (.cell t0 2) ⟨5, x0'.out.map eNode, x0'_z2, x0'_g2⟩)
def R_Q105 (x0 : PExprs) (x0_g2 : Nat) (x0_z2 : Bool) (x1 : Int) (x2 : List UInt8) (x3 : List Int) (r0 : Int) (x0' : PExprs) (x0'_g2 : Nat) (x0'_z2 : Bool) : Prop := ∀ (S : Sto) (n0 : Nat) (t0 : Nat), (getBox S n0 t0).map (List.take 4) = some [.list 5 (x0.tokens.l.map eToken) false, .int .i64 x0.tokens.pos, .sl 0 (.cell t0 2) 0 x0.out.length x0.out.length x0_g2 false, .int .i64 x0.deep] ∧ getArr S n0 (.cell t0 2) = some ⟨5, x0.out.map eNode, x0_z2, x0_g2⟩ → call SP 105 [.ptr n0 t0 0, .int .i64 x1, .str x2, .list 1 (x3.map eI) false] S = .ok (.v (.int .i64 r0)) (setArr (setBox S n0 t0 ([.list 5 (x0'.tokens.l.map eToken) false, .int .i64 x0'.tokens.pos, .sl 0 (.cell t0 2) 0 x0'.out.length x0'.out.length x0'_g2 false, .int .i64 x0'.deep] ++ ((getBox S n0 t0).getD []).drop 4)) n0 (.cell t0 2) ⟨5, x0'.out.map eNode, x0'_z2, x0'_g2⟩)
def R_Q134 (x0 : LText) (x1 : List Int) (r0 : List UInt8) (x0' : LText) : Prop := ∀ (S : Sto) (n0 : Nat) (t0 : Nat), (getBox S n0 t0).map (List.take 2) = some [.str x0.left, .int .i64 x0.pos] → call SP 134 [.ptr n0 t0 0, .list 1 (x1.map eI) false] S = .ok (.v (.str r0)) (setBox S n0 t0 ([.str x0'.left, .int .i64 x0'.pos] ++ ((getBox S n0 t0).getD []).drop 2))
def R_Q135 (x0 : LText) (x1 : Int) (r0 : List UInt8) (x0' : LText) : Prop := ∀ (S : Sto) (n0 : Nat) (t0 : Nat), (getBox S n0 t0).map (List.take 2) = some [.str x0.left, .int .i64 x0.pos] → call SP 135 [.ptr n0 t0 0, .int .i64 x1] S = .ok (.v (.str r0)) (setBox S n0 t0 ([.str x0'.left, .int .i64 x0'.pos] ++ ((getBox S n0 t0).getD []).drop 2))
def R_Q136 (x0 : LTokens) (x0_g2 : Nat) (x0_z2 : Bool) (r0 : Token) (r1 : Bool) (x0' : LTokens) (x0'_g2 : Nat) (x0'_z2 : Bool) : Prop := ∀ (S : Sto) (n0 : Nat) (t0 : Nat), (getBox S n0 t0).map (List.take 3) = some [.str x0.text.left, .int .i64 x0.text.pos, .sl 0 (.cell t0 2) 0 x0.out.length x0.out.length x0_g2 false] ∧ getArr S n0 (.cell t0 2) = some ⟨5, x0.out.map eToken, x0_z2, x0_g2⟩ → call SP 136 [.ptr n0 t0 0] S = .ok (.v (.tup [.agg [.int .i64 r0.Kind, .str r0.Text, .int .i64 r0.Num, .list 2 (r0.Parts.map ePart) false, .int .i64 r0.At], .bool r1])) (setArr (setBox S n0 t0 ([.str x0'.text.left, .int .i64 x0'.text.pos, .sl 0 (.cell t0 2) 0 x0'.out.length x0'.out.length x0'_g2 false] ++ ((getBox S n0 t0).getD []).drop 3)) n0 (.cell t0 2) ⟨5, x0'.out.map eToken, x0'_z2, x0'_g2⟩)
def R_Q138 (x0 : LTokens) (x0_g2 : Nat) (x0_z2 : Bool) (r0 : Token) (r1 : Bool) (x0' : LTokens) (x0'_g2 : Nat) (x0'_z2 : Bool) : Prop := ∀ (S : Sto) (n0 : Nat) (t0 : Nat), (getBox S n0 t0).map (List.take 3) = some [.str x0.text.left, .int .i64 x0.text.pos, .sl 0 (.cell t0 2) 0 x0.out.length x0.out.length x0_g2 false] ∧ getArr S n0 (.cell t0 2) = some ⟨5, x0.out.map eToken, x0_z2, x0_g2⟩ → call SP 138 [.ptr n0 t0 0] S = .ok (.v (.tup [.agg [.int .i64 r0.Kind, .str r0.Text, .int .i64 r0.Num, .list 2 (r0.Parts.map ePart) false, .int .i64 r0.At], .bool r1])) (setArr (setBox S n0 t0 ([.str x0'.text.left, .int .i64 x0'.text.pos, .sl 0 (.cell t0 2) 0 x0'.out.length x0'.out.length x0'_g2 false] ++ ((getBox S n0 t0).getD []).drop 3)) n0 (.cell t0 2) ⟨5, x0'.out.map eToken, x0'_z2, x0'_g2⟩)
def R_Q139 (x0 : LTokens) (x0_g2 : Nat) (x0_z2 : Bool) (r0 : Token) (r1 : Bool) (x0' : LTokens) (x0'_g2 : Nat) (x0'_z2 : Bool) : Prop := ∀ (S : Sto) (n0 : Nat) (t0 : Nat), (getBox S n0 t0).map (List.take 3) = some [.str x0.text.left, .int .i64 x0.text.pos, .sl 0 (.cell t0 2) 0 x0.out.length x0.out.length x0_g2 false] ∧ getArr S n0 (.cell t0 2) = some ⟨5, x0.out.map eToken, x0_z2, x0_g2⟩ → call SP 139 [.ptr n0 t0 0] S = .ok (.v (.tup [.agg [.int .i64 r0.Kind, .str r0.Text, .int .i64 r0.Num, .list 2 (r0.Parts.map ePart) false, .int .i64 r0.At], .bool r1])) (setArr (setBox S n0 t0 ([.str x0'.text.left, .int .i64 x0'.text.pos, .sl 0 (.cell t0 2) 0 x0'.out.length x0'.out.length x0'_g2 false] ++ ((getBox S n0 t0).getD []).drop 3)) n0 (.cell t0 2) ⟨5, x0'.out.map eToken, x0'_z2, x0'_g2⟩)
def R_Q140 (x0 : LTokens) (x0_g2 : Nat) (x0_z2 : Bool) (r0 : Token) (r1 : Bool) (x0' : LTokens) (x0'_g2 : Nat) (x0'_z2 : Bool) : Prop := ∀ (S : Sto) (n0 : Nat) (t0 : Nat), (getBox S n0 t0).map (List.take 3) = some [.str x0.text.left, .int .i64 x0.text.pos, .sl 0 (.cell t0 2) 0 x0.out.length x0.out.length x0_g2 false] ∧ getArr S n0 (.cell t0 2) = some ⟨5, x0.out.map eToken, x0_z2, x0_g2⟩ → call SP 140 [.ptr n0 t0 0] S = .ok (.v (.tup [.agg [.int .i64 r0.Kind, .str r0.Text, .int .i64 r0.Num, .list 2 (r0.Parts.map ePart) false, .int .i64 r0.At], .bool r1])) (setArr (setBox S n0 t0 ([.str x0'.text.left, .int .i64 x0'.text.pos, .sl 0 (.cell t0 2) 0 x0'.out.length x0'.out.length x0'_g2 false] ++ ((getBox S n0 t0).getD []).drop 3)) n0 (.cell t0 2) ⟨5, x0'.out.map eToken, x0'_z2, x0'_g2⟩)
def R_Q142 (x0 : PExprs) (x0_g2 : Nat) (x0_z2 : Bool) (o : Option Int) (r0 : Int) (x0' : PExprs) (x0'_g2 : Nat) (x0'_z2 : Bool) : Prop := ∀ (S : Sto) (n0 : Nat) (t0 : Nat), (getBox S n0 t0).map (List.take 4) = some [.list 5 (x0.tokens.l.map eToken) false, .int .i64 x0.tokens.pos, .sl 0 (.cell t0 2) 0 x0.out.length x0.out.length x0_g2 false, .int .i64 x0.deep] ∧ getArr S n0 (.cell t0 2) = some ⟨5, x0.out.map eNode, x0_z2, x0_g2⟩ → call SP 142 [.ptr n0 t0 0] S = po 116 o (.v (.int .i64 r0)) (setArr (setBox S n0 t0 ([.list 5 (x0'.tokens.l.map eToken) false, .int .i64 x0'.tokens.pos, .sl 0 (.cell t0 2) 0 x0'.out.length x0'.out.length x0'_g2 false, .int .i64 x0'.deep] ++ ((getBox S n0 t0).getD []).drop 4)) n0 (.cell t0 2) ⟨5, x0'.out.map eNode, x0'_z2, x0'_g2⟩)
def R_Q165 (x0 : List Part) (x0_g0 : Nat) (x0_z0 : Bool) (x1 : UInt8) (x0' : List Part) (x0'_g0 : Nat) (x0'_z0 : Bool) : Prop := ∀ (S : Sto) (n0 : Nat) (t0 : Nat), (getBox S n0 t0).map (List.take 1) = some [.sl 0 (.cell t0 0) 0 x0.length x0.length x0_g0 false] ∧ getArr S n0 (.cell t0 0) = some ⟨2, x0.map ePart, x0_z0, x0_g0⟩ → call SP 165 [.ptr n0 t0 0, .int .u8 ((x1.toNat : Nat) : Int)] S = .ok (.v (.tup [])) (setArr (setBox S n0 t0 ([.sl 0 (.cell t0 0) 0 x0'.length x0'.length x0'_g0 false] ++ ((getBox S n0 t0).getD []).drop 1)) n0 (.cell t0 0) ⟨2, x0'.map ePart, x0'_z0, x0'_g0⟩)
def R_Q167 (x0 : PExprs) (x0_g2 : Nat) (x0_z2 : Bool) (o : Option Int) (r0 : Int) (x0' : PExprs) (x0'_g2 : Nat) (x0'_z2 : Bool) : Prop := ∀ (S : Sto) (n0 : Nat) (t0 : Nat), (getBox S n0 t0).map (List.take 4) = some [.list 5 (x0.tokens.l.map eToken) false, .int .i64 x0.tokens.pos, .sl 0 (.cell t0 2) 0 x0.out.length x0.out.length x0_g2 false, .int .i64 x0.deep] ∧ getArr S n0 (.cell t0 2) = some ⟨5, x0.out.map eNode, x0_z2, x0_g2⟩ → call SP 167 [.ptr n0 t0 0] S = po 116 o (.v (.int .i64 r0)) (setArr (setBox S n0 t0 ([.list 5 (x0'.tokens.l.map eToken) false, .int .i64 x0'.tokens.pos, .sl 0 (.cell t0 2) 0 x0'.out.length x0'.out.length x0'_g2 false, .int .i64 x0'.deep] ++ ((getBox S n0 t0).getD []).drop 4)) n0 (.cell t0 2) ⟨5, x0'.out.map eNode, x0'_z2, x0'_g2⟩)
def R_Q180 (x0 : PExprs) (x0_g2 : Nat) (x0_z2 : Bool) (o : Option Int) (r0 : Int) (x0' : PExprs) (x0'_g2 : Nat) (x0'_z2 : Bool) : Prop := ∀ (S : Sto) (n0 : Nat) (t0 : Nat), (getBox S n0 t0).map (List.take 4) = some [.list 5 (x0.tokens.l.map eToken) false, .int .i64 x0.tokens.pos, .sl 0 (.cell t0 2) 0 x0.out.length x0.out.length x0_g2 false, .int .i64 x0.deep] ∧ getArr S n0 (.cell t0 2) = some ⟨5, x0.out.map eNode, x0_z2, x0_g2⟩ → call SP 180 [.ptr n0 t0 0] S = po 116 o (.v (.int .i64 r0)) (setArr (setBox S n0 t0 ([.list 5 (x0'.tokens.l.map eToken) false, .int .i64 x0'.tokens.pos, .sl 0 (.cell t0 2) 0 x0'.out.length x0'.out.length x0'_g2 false, .int .i64 x0'.deep] ++ ((getBox S n0 t0).getD []).drop 4)) n0 (.cell t0 2) ⟨5, x0'.out.map eNode, x0'_z2, x0'_g2⟩)
def R_Q181 (x0 : PExprs) (x0_g2 : Nat) (x0_z2 : Bool) (x1 : List UInt8) (o : Option Int) (x0' : PExprs) (x0'_g2 : Nat) (x0'_z2 : Bool) : Prop := ∀ (S : Sto) (n0 : Nat) (t0 : Nat), (getBox S n0 t0).map (List.take 4) = some [.list 5 (x0.tokens.l.map eToken) false, .int .i64 x0.tokens.pos, .sl 0 (.cell t0 2) 0 x0.out.length x0.out.length x0_g2 false, .int .i64 x0.deep] ∧ getArr S n0 (.cell t0 2) = some ⟨5, x0.out.map eNode, x0_z2, x0_g2⟩ → call SP 181 [.ptr n0 t0 0, .str x1] S = po 116 o (.v (.tup [])) (setArr (setBox S n0 t0 ([.list 5 (x0'.tokens.l.map eToken) false, .int .i64 x0'.tokens.pos, .sl 0 (.cell t0 2) 0 x0'.out.length x0'.out.length x0'_g2 false, .int .i64 x0'.deep] ++ ((getBox S n0 t0).getD []).drop 4)) n0 (.cell t0 2) ⟨5, x0'.out.map eNode, x0'_z2, x0'_g2⟩)
def R_Q201 (x0 : PExprs) (x0_g2 : Nat) (x0_z2 : Bool) (o : Option Int) (r0 : Int) (x0' : PExprs) (x0'_g2 : Nat) (x0'_z2 : Bool) : Prop := ∀ (S : Sto) (n0 : Nat) (t0 : Nat), (getBox S n0 t0).map (List.take 4) = some [.list 5 (x0.tokens.l.map eToken) false, .int .i64 x0.tokens.pos, .sl 0 (.cell t0 2) 0 x0.out.length x0.out.length x0_g2 false, .int .i64 x0.deep] ∧ getArr S n0 (.cell t0 2) = some ⟨5, x0.out.map eNode, x0_z2, x0_g2⟩ → call SP 201 [.ptr n0 t0 0] S = po 116 o (.v (.int .i64 r0)) (setArr (setBox S n0 t0 ([.list 5 (x0'.tokens.l.map eToken) false, .int .i64 x0'.tokens.pos, .sl 0 (.cell t0 2) 0 x0'.out.length x0'.out.length x0'_g2 false, .int .i64 x0'.deep] ++ ((getBox S n0 t0).getD []).drop 4)) n0 (.cell t0 2) ⟨5, x0'.out.map eNode, x0'_z2, x0'_g2⟩)
def R_Q202 (x0 : PExprs) (x0_g2 : Nat) (x0_z2 : Bool) (x1 : Int) (x2 : Int) (r0 : Int) (x0' : PExprs) (x0'_g2 : Nat) (x0'_z2 : Bool) : Prop := ∀ (S : Sto) (n0 : Nat) (t0 : Nat), (getBox S n0 t0).map (List.take 4) = some [.list 5 (x0.tokens.l.map eToken) false, .int .i64 x0.tokens.pos, .sl 0 (.cell t0 2) 0 x0.out.length x0.out.length x0_g2 false, .int .i64 x0.deep] ∧ getArr S n0 (.cell t0 2) = some ⟨5, x0.out.map eNode, x0_z2, x0_g2⟩ → call SP 202 [.ptr n0 t0 0, .int .i64 x1, .int .i64 x2] S = .ok (.v (.int .i64 r0)) (setArr (setBox S n0 t0 ([.list 5 (x0'.tokens.l.map eToken) false, .int .i64 x0'.tokens.pos, .sl 0 (.cell t0 2) 0 x0'.out.length x0'.out.length x0'_g2 false, .int .i64 x0'.deep] ++ ((getBox S n0 t0).getD []).drop 4)) n0 (.cell t0 2) ⟨5, x0'.out.map eNode, x0'_z2, x0'_g2⟩)
def R_Q203 (x0 : PExprs) (x0_g2 : Nat) (x0_z2 : Bool) (x1 : List UInt8) (o : Option Int) (r0 : List Int) (x0' : PExprs) (x0'_g2 : Nat) (x0'_z2 : Bool) : Prop := ∀ (S : Sto) (n0 : Nat) (t0 : Nat), (getBox S n0 t0).map (List.take 4) = some [.list 5 (x0.tokens.l.map eToken) false, .int .i64 x0.tokens.pos, .sl 0 (.cell t0 2) 0 x0.out.length x0.out.length x0_g2 false, .int .i64 x0.deep] ∧ getArr S n0 (.cell t0 2) = some ⟨5, x0.out.map eNode, x0_z2, x0_g2⟩ → call SP 203 [.ptr n0 t0 0, .str x1] S = po 116 o (.arr 1 (r0.map eI) false) (setArr (setBox S n0 t0 ([.list 5 (x0'.tokens.l.map eToken) false, .int .i64 x0'.tokens.pos, .sl 0 (.cell t0 2) 0 x0'.out.length x0'.out.length x0'_g2 false, .int .i64 x0'.deep] ++ ((getBox S n0 t0).getD []).drop 4)) n0 (.cell t0 2) ⟨5, x0'.out.map eNode, x0'_z2, x0'_g2⟩)
end Go.Proofs.YtfbcnpbhhooapaaGreatDoor.M
namespace Go.Proofs.YtfbcnpbhhooapaaGreatDoor.M
open Go
set_option linter.unusedVariables false
def c_Q73_1 : SC := .seq (.reg [⟨some 2, none, .v (.mov (.c (.int .i64 2)))⟩]) .ret
def c_Q73_2 : SC := .cond (.t 3) (.seq (.reg [⟨some 2, none, .v (.mov (.c (.int .i64 (-2))))⟩]) .ret) (.seq (.reg [⟨some 11, none, .v (.mov (.t 0))⟩, ⟨some 12, none, .v (.bin .leq (.t 11) (.c (.int .i64 4)))⟩, ⟨some 10, none, .v (.mov (.t 12))⟩]) (.cond (.t 10) (.seq (.reg [⟨some 2, none, .v (.mov (.c (.int .i64 0)))⟩]) .ret) (.seq (.reg [⟨some 14, none, .v (.mov (.t 0))⟩, ⟨some 15, none, .v (.bin .eql (.t 14) (.c (.int .i64 5)))⟩, ⟨some 16, none, .v (.mov (.t 15))⟩, ⟨some 17, some (16, false), .v (.mov (.t 0))⟩, ⟨some 18, some (16, false), .v (.bin .eql (.t 17) (.c (.int .i64 6)))⟩, ⟨some 19, none, .v (.pick (.t 16) (.c (.bool true)) (.t 18))⟩, ⟨some 13, none, .v (.mov (.t 19))⟩]) (.cond (.t 13) (.seq (.reg [⟨some 2, none, .v (.mov (.c (.int .i64 (-1))))⟩]) .ret) (.seq (.reg [⟨some 21, none, .v (.mov (.t 0))⟩, ⟨some 22, none, .v (.bin .eql (.t 21) (.c (.int .i64 8)))⟩, ⟨some 23, none, .v (.mov (.t 22))⟩, ⟨some 24, some (23, false), .v (.mov (.t 0))⟩, ⟨some 25, some (23, false), .v (.bin .eql (.t 24) (.c (.int .i64 9)))⟩, ⟨some 26, none, .v (.pick (.t 23) (.c (.bool true)) (.t 25))⟩, ⟨some 20, none, .v (.mov (.t 26))⟩]) (.cond (.t 20) (.seq (.reg [⟨some 2, none, .v (.mov (.c (.int .i64 1)))⟩]) .ret) (.seq (.reg [⟨some 28, none, .v (.mov (.t 0))⟩, ⟨some 29, none, .v (.bin .eql (.t 28) (.c (.int .i64 10)))⟩, ⟨some 27, none, .v (.mov (.t 29))⟩]) (.cond (.t 27) (.seq (.reg [⟨some 2, none, .v (.mov (.c (.int .i64 3)))⟩]) .ret) .skip))))))))
def c_Q73_3 : SC := .seq (.block 0 (.seq (.reg [⟨some 4, none, .v (.mov (.t 0))⟩, ⟨some 5, none, .v (.bin .lss (.t 4) (.c (.int .i64 1)))⟩, ⟨some 6, none, .v (.mov (.t 5))⟩, ⟨some 7, some (6, false), .v (.mov (.t 0))⟩, ⟨some 8, some (6, false), .v (.bin .gtr (.t 7) (.c (.int .i64 23)))⟩, ⟨some 9, none, .v (.pick (.t 6) (.c (.bool true)) (.t 8))⟩, ⟨some 3, none, .v (.mov (.t 9))⟩]) c_Q73_2)) c_Q73_1
def sc_Q73 : SFunc := ⟨1, 30, .seq (.reg [⟨some 2, none, .v (.mov (.c (.int .i64 0)))⟩]) c_Q73_3, [(.t 2)]⟩
theorem U_Q73 : type_of% (And.intro (ue c_Q73_1.eq_1) <| And.intro (ue c_Q73_2.eq_1) <| And.intro (ue c_Q73_3.eq_1) <| sc_Q73.eq_1) := And.intro (ue c_Q73_1.eq_1) <| And.intro (ue c_Q73_2.eq_1) <| And.intro (ue c_Q73_3.eq_1) <| sc_Q73.eq_1
theorem comp_Q73 : comp Tryz.prog Tryz.f73 = some sc_Q73 := by kernel_rfl
def sc_Q114 : SFunc := ⟨1, 9, .seq (.reg [⟨some 2, none, .v (.mov (.c (.bool false)))⟩]) (.seq (.reg [⟨some 3, none, .v (.mov (.t 0))⟩, ⟨some 4, none, .v (.bin .eql (.t 3) (.c (.str [116, 114, 117, 101])))⟩, ⟨some 5, none, .v (.mov (.t 4))⟩, ⟨some 6, some (5, false), .v (.mov (.t 0))⟩, ⟨some 7, some (5, false), .v (.bin .eql (.t 6) (.c (.str [102, 97, 108, 115, 101])))⟩, ⟨some 8, none, .v (.pick (.t 5) (.c (.bool true)) (.t 7))⟩, ⟨some 2, none, .v (.mov (.t 8))⟩]) .ret), [(.t 2)]⟩
theorem U_Q114 : type_of% (sc_Q114.eq_1) := sc_Q114.eq_1
theorem comp_Q114 : comp Tryz.prog Tryz.f114 = some sc_Q114 := by kernel_rfl
def sc_Q113 : SFunc := ⟨1, 21, .seq (.reg [⟨some 2, none, .v (.mov (.c (.bool false)))⟩]) (.seq (.reg [⟨some 7, none, .v (.mov (.t 0))⟩, ⟨some 8, none, .call (.c (.func 112 [])) [(.t 7), (.c (.str [46]))]⟩, ⟨some 6, none, .v (.mov (.t 8))⟩, ⟨some 9, none, .v (.extract 0 (.t 6))⟩, ⟨some 10, none, .v (.extract 1 (.t 6))⟩, ⟨some 11, none, .v (.extract 2 (.t 6))⟩, ⟨some 3, none, .v (.mov (.t 9))⟩, ⟨some 4, none, .v (.mov (.t 10))⟩, ⟨some 5, none, .v (.mov (.t 11))⟩]) (.seq (.reg [⟨some 12, none, .v (.mov (.t 5))⟩, ⟨some 13, none, .v (.mov (.t 12))⟩, ⟨some 14, some (13, true), .v (.mov (.t 3))⟩, ⟨some 15, some (13, true), .call (.c (.func 115 [])) [(.t 14)]⟩, ⟨some 16, none, .v (.pick (.t 13) (.t 15) (.c (.bool false)))⟩, ⟨some 17, none, .v (.mov (.t 16))⟩, ⟨some 18, some (17, true), .v (.mov (.t 4))⟩, ⟨some 19, some (17, true), .call (.c (.func 115 [])) [(.t 18)]⟩, ⟨some 20, none, .v (.pick (.t 17) (.t 19) (.c (.bool false)))⟩, ⟨some 2, none, .v (.mov (.t 20))⟩]) .ret)), [(.t 2)]⟩
theorem U_Q113 : type_of% (sc_Q113.eq_1) := sc_Q113.eq_1
theorem comp_Q113 : comp Tryz.prog Tryz.f113 = some sc_Q113 := by kernel_rfl
def c_Q152_1 : SC := .seq (.reg [⟨some 2, none, .v (.mov (.c (.bool true)))⟩]) .ret
def b_Q152_1 : SC := .seq (.reg [⟨some 7, none, .v (.bin .lss (.t 6) (.t 5))⟩]) (.seq (.cond (.t 7) .skip (.exit 0)) (.seq (.block 1 (.seq (.reg [⟨some 8, none, .v (.mov (.t 6))⟩, ⟨some 3, none, .v (.mov (.t 8))⟩]) (.seq (.reg [⟨some 9, none, .v (.mov (.t 0))⟩, ⟨some 10, none, .v (.mov (.t 3))⟩, ⟨some 11, none, .v (.istr (.t 9) (.t 10))⟩, ⟨some 12, none, .v (.bin .lss (.t 11) (.c (.int .u8 32)))⟩, ⟨some 13, none, .v (.mov (.t 12))⟩, ⟨some 14, some (13, true), .v (.mov (.t 0))⟩, ⟨some 15, some (13, true), .v (.mov (.t 3))⟩, ⟨some 16, some (13, true), .v (.istr (.t 14) (.t 15))⟩, ⟨some 17, some (13, true), .v (.bin .neq (.t 16) (.c (.int .u8 10)))⟩, ⟨some 18, none, .v (.pick (.t 13) (.t 17) (.c (.bool false)))⟩]) (.cond (.t 18) (.seq (.reg [⟨some 2, none, .v (.mov (.c (.bool false)))⟩]) .ret) .skip)))) (.reg [⟨some 19, none, .v (.bin .add (.t 6) (.c (.int .i64 1)))⟩, ⟨some 6, none, .v (.mov (.t 19))⟩])))
def sc_Q152 : SFunc := ⟨1, 20, .seq (.reg [⟨some 2, none, .v (.mov (.c (.bool false)))⟩]) (.seq (.seq (.reg [⟨some 4, none, .v (.mov (.t 0))⟩, ⟨some 5, none, .v (.len true (.t 4))⟩, ⟨some 6, none, .v (.mov (.c (.int .i64 0)))⟩]) (.block 0 (.loop b_Q152_1))) c_Q152_1), [(.t 2)]⟩
noncomputable def k_Q152_1 (SP : Prg) (x : EO) : CO := fin [(.t 2)] (thC SP (inBlk 0 (x)) c_Q152_1)
theorem U_Q152 : type_of% (And.intro (ue c_Q152_1.eq_1) <| And.intro (ue b_Q152_1.eq_1) <| sc_Q152.eq_1) := And.intro (ue c_Q152_1.eq_1) <| And.intro (ue b_Q152_1.eq_1) <| sc_Q152.eq_1
theorem comp_Q152 : comp Tryz.prog Tryz.f152 = some sc_Q152 := by kernel_rfl
def c_Q116_1 : SC := .seq (.reg [⟨some 2, none, .v (.mov (.c (.bool true)))⟩]) .ret
def c_Q116_2 : SC := .reg [⟨some 40, none, .v (.bin .add (.t 7) (.c (.int .i64 1)))⟩, ⟨some 7, none, .v (.mov (.t 40))⟩]
def c_Q116_3 : SC := .seq (.reg [⟨some 18, none, .v (.faddr 1 (.t 4))⟩, ⟨some 19, none, .v (.load none (.t 18))⟩, ⟨some 20, none, .v (.bin .eql (.t 19) (.c (.str [])))⟩, ⟨some 21, none, .v (.mov (.t 20))⟩, ⟨some 22, some (21, false), .v (.mov (.t 3))⟩, ⟨some 23, some (21, false), .v (.bin .gtr (.t 22) (.c (.int .i64 0)))⟩, ⟨some 24, some (21, false), .v (.mov (.t 23))⟩, ⟨some 25, some (24, true), .v (.mov (.t 0))⟩, ⟨some 26, some (24, true), .v (.mov (.t 3))⟩, ⟨some 27, some (24, true), .v (.bin .sub (.t 26) (.c (.int .i64 1)))⟩, ⟨some 28, some (24, true), .v (.iaddr 2 (.t 25) (.t 27))⟩, ⟨some 29, some (24, true), .v (.faddr 0 (.t 28))⟩, ⟨some 30, some (24, true), .v (.load none (.t 29))⟩, ⟨some 31, some (24, true), .v (.un .not (.t 30))⟩, ⟨some 32, some (21, false), .v (.pick (.t 24) (.t 31) (.c (.bool false)))⟩, ⟨some 33, none, .v (.pick (.t 21) (.c (.bool true)) (.t 32))⟩, ⟨some 34, none, .v (.mov (.t 33))⟩, ⟨some 35, some (34, false), .v (.faddr 1 (.t 4))⟩, ⟨some 36, some (34, false), .v (.load none (.t 35))⟩, ⟨some 37, some (34, false), .call (.c (.func 152 [])) [(.t 36)]⟩, ⟨some 38, some (34, false), .v (.un .not (.t 37))⟩, ⟨some 39, none, .v (.pick (.t 34) (.c (.bool true)) (.t 38))⟩]) (.cond (.t 39) (.seq (.reg [⟨some 2, none, .v (.mov (.c (.bool false)))⟩]) .ret) .skip)
def c_Q116_4 : SC := .seq (.seq (.reg [⟨some 12, none, .v (.faddr 0 (.t 4))⟩, ⟨some 13, none, .v (.load none (.t 12))⟩]) (.cond (.t 13) (.seq (.seq (.reg [⟨some 14, none, .v (.faddr 1 (.t 4))⟩, ⟨some 15, none, .v (.load none (.t 14))⟩, ⟨some 16, none, .call (.c (.func 113 [])) [(.t 15)]⟩, ⟨some 17, none, .v (.un .not (.t 16))⟩]) (.cond (.t 17) (.seq (.reg [⟨some 2, none, .v (.mov (.c (.bool false)))⟩]) .ret) .skip)) (.exit 1)) .skip)) c_Q116_3
def c_Q116_5 : SC := .seq (.block 1 (.seq (.reg [⟨some 9, none, .v (.mov (.t 7))⟩, ⟨some 10, none, .v (.iaddr 2 (.t 5) (.t 7))⟩, ⟨some 11, none, .v (.load (some 2) (.t 10))⟩, ⟨some 4, none, .alloc [(.bool false), (.str [])]⟩, ⟨some 3, none, .v (.mov (.t 9))⟩, ⟨none, none, .store 2 (.t 4) (.t 11)⟩]) c_Q116_4)) c_Q116_2
def c_Q116_6 : SC := .seq (.cond (.t 8) .skip (.exit 0)) c_Q116_5
def b_Q116_1 : SC := .seq (.reg [⟨some 8, none, .v (.bin .lss (.t 7) (.t 6))⟩]) c_Q116_6
def c_Q116_7 : SC := .block 0 (.loop b_Q116_1)
def c_Q116_8 : SC := .seq (.seq (.reg [⟨some 5, none, .v (.mov (.t 0))⟩, ⟨some 6, none, .v (.len false (.t 5))⟩, ⟨some 7, none, .v (.mov (.c (.int .i64 0)))⟩]) c_Q116_7) c_Q116_1
def sc_Q116 : SFunc := ⟨1, 41, .seq (.reg [⟨some 2, none, .v (.mov (.c (.bool false)))⟩]) c_Q116_8, [(.t 2)]⟩
noncomputable def k_Q116_1 (SP : Prg) (x : EO) : CO := fin [(.t 2)] (thC SP (inBlk 0 (x)) c_Q116_1)
theorem U_Q116 : type_of% (And.intro (ue c_Q116_1.eq_1) <| And.intro (ue c_Q116_2.eq_1) <| And.intro (ue c_Q116_3.eq_1) <| And.intro (ue c_Q116_4.eq_1) <| And.intro (ue c_Q116_5.eq_1) <| And.intro (ue c_Q116_6.eq_1) <| And.intro (ue b_Q116_1.eq_1) <| And.intro (ue c_Q116_7.eq_1) <| And.intro (ue c_Q116_8.eq_1) <| sc_Q116.eq_1) := And.intro (ue c_Q116_1.eq_1) <| And.intro (ue c_Q116_2.eq_1) <| And.intro (ue c_Q116_3.eq_1) <| And.intro (ue c_Q116_4.eq_1) <| And.intro (ue c_Q116_5.eq_1) <| And.intro (ue c_Q116_6.eq_1) <| And.intro (ue b_Q116_1.eq_1) <| And.intro (ue c_Q116_7.eq_1) <| And.intro (ue c_Q116_8.eq_1) <| sc_Q116.eq_1
theorem comp_Q116 : comp Tryz.prog Tryz.f116 = some sc_Q116 := by kernel_rfl
def c_Q74_1 : SC := .seq (.reg [⟨some 69, none, .v (.mov (.t 3))⟩, ⟨some 70, none, .v (.mov (.t 69))⟩, ⟨some 71, some (70, true), .v (.mov (.t 4))⟩, ⟨some 72, none, .v (.pick (.t 70) (.t 71) (.c (.bool false)))⟩, ⟨some 73, none, .v (.mov (.t 72))⟩, ⟨some 74, some (73, true), .v (.mov (.t 5))⟩, ⟨some 75, none, .v (.pick (.t 73) (.t 74) (.c (.bool false)))⟩, ⟨some 2, none, .v (.mov (.t 75))⟩]) .ret
def c_Q74_2 : SC := .cond (.t 36) (.seq (.reg [⟨some 39, none, .v (.faddr 2 (.t 1))⟩, ⟨some 40, none, .v (.load none (.t 39))⟩, ⟨some 41, none, .call (.c (.func 112 [])) [(.t 40), (.c (.str [46]))]⟩, ⟨some 38, none, .v (.mov (.t 41))⟩, ⟨some 42, none, .v (.extract 0 (.t 38))⟩, ⟨some 43, none, .v (.extract 1 (.t 38))⟩, ⟨some 44, none, .v (.extract 2 (.t 38))⟩, ⟨some 6, none, .v (.mov (.t 42))⟩, ⟨some 7, none, .v (.mov (.t 43))⟩, ⟨some 8, none, .v (.mov (.t 44))⟩]) (.reg [⟨some 45, none, .v (.faddr 2 (.t 1))⟩, ⟨some 46, none, .v (.load none (.t 45))⟩, ⟨some 47, none, .call (.c (.func 113 [])) [(.t 46)]⟩, ⟨some 48, none, .v (.mov (.t 47))⟩, ⟨some 49, some (48, true), .v (.mov (.t 6))⟩, ⟨some 50, some (48, true), .call (.c (.func 114 [])) [(.t 49)]⟩, ⟨some 51, some (48, true), .v (.un .not (.t 50))⟩, ⟨some 52, none, .v (.pick (.t 48) (.t 51) (.c (.bool false)))⟩, ⟨some 4, none, .v (.mov (.t 52))⟩])) (.seq (.reg [⟨some 54, none, .v (.bin .eql (.t 20) (.c (.int .i64 5)))⟩, ⟨some 53, none, .v (.mov (.t 54))⟩]) (.cond (.t 53) (.reg [⟨some 55, none, .v (.faddr 2 (.t 1))⟩, ⟨some 56, none, .v (.load none (.t 55))⟩, ⟨some 57, none, .call (.c (.func 115 [])) [(.t 56)]⟩, ⟨some 58, none, .v (.mov (.t 57))⟩, ⟨some 59, some (58, true), .v (.faddr 2 (.t 1))⟩, ⟨some 60, some (58, true), .v (.load none (.t 59))⟩, ⟨some 61, some (58, true), .call (.c (.func 114 [])) [(.t 60)]⟩, ⟨some 62, some (58, true), .v (.un .not (.t 61))⟩, ⟨some 63, none, .v (.pick (.t 58) (.t 62) (.c (.bool false)))⟩, ⟨some 4, none, .v (.mov (.t 63))⟩]) (.seq (.reg [⟨some 65, none, .v (.bin .eql (.t 20) (.c (.int .i64 2)))⟩, ⟨some 64, none, .v (.mov (.t 65))⟩]) (.cond (.t 64) (.reg [⟨some 66, none, .v (.faddr 3 (.t 1))⟩, ⟨some 67, none, .v (.load none (.t 66))⟩, ⟨some 68, none, .call (.c (.func 116 [])) [(.t 67)]⟩, ⟨some 5, none, .v (.mov (.t 68))⟩]) .skip))))
def c_Q74_3 : SC := .cond (.t 26) (.reg [⟨some 28, none, .v (.faddr 1 (.t 1))⟩, ⟨some 29, none, .v (.load none (.t 28))⟩, ⟨some 30, none, .v (.bin .eql (.t 29) (.c (.int .i64 0)))⟩, ⟨some 31, none, .v (.mov (.t 30))⟩, ⟨some 32, some (31, false), .v (.faddr 1 (.t 1))⟩, ⟨some 33, some (31, false), .v (.load none (.t 32))⟩, ⟨some 34, some (31, false), .v (.bin .eql (.t 33) (.c (.int .i64 1)))⟩, ⟨some 35, none, .v (.pick (.t 31) (.c (.bool true)) (.t 34))⟩, ⟨some 3, none, .v (.mov (.t 35))⟩]) (.seq (.reg [⟨some 37, none, .v (.bin .eql (.t 20) (.c (.int .i64 4)))⟩, ⟨some 36, none, .v (.mov (.t 37))⟩]) c_Q74_2)
def c_Q74_4 : SC := .cond (.t 21) (.reg [⟨some 23, none, .v (.faddr 1 (.t 1))⟩, ⟨some 24, none, .v (.load none (.t 23))⟩, ⟨some 25, none, .v (.bin .geq (.t 24) (.c (.int .i64 0)))⟩, ⟨some 3, none, .v (.mov (.t 25))⟩]) (.seq (.reg [⟨some 27, none, .v (.bin .eql (.t 20) (.c (.int .i64 3)))⟩, ⟨some 26, none, .v (.mov (.t 27))⟩]) c_Q74_3)
def c_Q74_5 : SC := .block 0 (.seq (.reg [⟨some 22, none, .v (.bin .eql (.t 20) (.c (.int .i64 1)))⟩, ⟨some 21, none, .v (.mov (.t 22))⟩]) c_Q74_4)
def c_Q74_6 : SC := .seq (.seq (.reg [⟨some 19, none, .v (.faddr 0 (.t 1))⟩, ⟨some 20, none, .v (.load none (.t 19))⟩]) c_Q74_5) c_Q74_1
def c_Q74_7 : SC := .seq (.dreg [⟨some 9, none, .v (.faddr 1 (.t 1))⟩, ⟨some 10, none, .v (.load none (.t 9))⟩, ⟨some 11, none, .v (.bin .eql (.t 10) (.c (.int .i64 0)))⟩, ⟨some 12, none, .v (.faddr 2 (.t 1))⟩, ⟨some 13, none, .v (.load none (.t 12))⟩, ⟨some 14, none, .v (.bin .eql (.t 13) (.c (.str [])))⟩, ⟨some 15, none, .v (.faddr 3 (.t 1))⟩, ⟨some 16, none, .v (.load none (.t 15))⟩, ⟨some 17, none, .v (.len false (.t 16))⟩, ⟨some 18, none, .v (.bin .eql (.t 17) (.c (.int .i64 0)))⟩, ⟨some 3, none, .v (.mov (.t 11))⟩, ⟨some 4, none, .v (.mov (.t 14))⟩, ⟨some 5, none, .v (.mov (.t 18))⟩] [false, false, false, false, false, false, false, false, false, false, false, false, true]) c_Q74_6
def sc_Q74 : SFunc := ⟨1, 76, .seq (.reg [⟨some 1, none, .box (.t 0)⟩, ⟨some 2, none, .v (.mov (.c (.bool false)))⟩]) c_Q74_7, [(.t 2)]⟩
theorem U_Q74 : type_of% (And.intro (ue c_Q74_1.eq_1) <| And.intro (ue c_Q74_2.eq_1) <| And.intro (ue c_Q74_3.eq_1) <| And.intro (ue c_Q74_4.eq_1) <| And.intro (ue c_Q74_5.eq_1) <| And.intro (ue c_Q74_6.eq_1) <| And.intro (ue c_Q74_7.eq_1) <| sc_Q74.eq_1) := And.intro (ue c_Q74_1.eq_1) <| And.intro (ue c_Q74_2.eq_1) <| And.intro (ue c_Q74_3.eq_1) <| And.intro (ue c_Q74_4.eq_1) <| And.intro (ue c_Q74_5.eq_1) <| And.intro (ue c_Q74_6.eq_1) <| And.intro (ue c_Q74_7.eq_1) <| sc_Q74.eq_1
theorem comp_Q74 : comp Tryz.prog Tryz.f74 = some sc_Q74 := by kernel_rfl
def sc_Q26 : SFunc := ⟨1, 14, .seq (.reg [⟨some 2, none, .v (.mov (.c (.bool false)))⟩]) (.seq (.reg [⟨some 3, none, .v (.mov (.t 0))⟩, ⟨some 4, none, .v (.len false (.t 3))⟩, ⟨some 5, none, .v (.bin .gtr (.t 4) (.c (.int .i64 0)))⟩, ⟨some 6, none, .v (.mov (.t 5))⟩, ⟨some 7, some (6, true), .v (.mov (.t 0))⟩, ⟨some 8, some (6, true), .v (.mov (.t 0))⟩, ⟨some 9, some (6, true), .v (.len false (.t 8))⟩, ⟨some 10, some (6, true), .v (.bin .sub (.t 9) (.c (.int .i64 1)))⟩, ⟨some 11, some (6, true), .call (.c (.func 47 [])) [(.t 7), (.t 10)]⟩, ⟨some 12, some (6, true), .v (.bin .eql (.t 11) (.c (.int .i64 0)))⟩, ⟨some 13, none, .v (.pick (.t 6) (.t 12) (.c (.bool false)))⟩, ⟨some 2, none, .v (.mov (.t 13))⟩]) .ret), [(.t 2)]⟩
theorem U_Q26 : type_of% (sc_Q26.eq_1) := sc_Q26.eq_1
theorem comp_Q26 : comp Tryz.prog Tryz.f26 = some sc_Q26 := by kernel_rfl
end Go.Proofs.YtfbcnpbhhooapaaGreatDoor.M
namespace Go.Proofs.YtfbcnpbhhooapaaGreatDoor.M
set_option linter.unusedSimpArgs false
set_option linter.unusedVariables false
open Go Classical
theorem sp_Q73 : SP 73 = some (.code sc_Q73) := SPof_code rfl Tryz.func73 comp_Q73
theorem Q73_tree (kind : Int) (r : Int) (T :
  ((kind < 1) →
  (-2) = r) ∧
 (¬ (kind < 1) →
  ((23 < kind) →
   (-2) = r) ∧
  (¬ (23 < kind) →
   ((kind ≤ 4) →
    0 = r) ∧
   (¬ (kind ≤ 4) →
    ((kind = 5) →
     (-1) = r) ∧
    (¬ (kind = 5) →
     ((kind = 6) →
      (-1) = r) ∧
     (¬ (kind = 6) →
      ((kind = 8) →
       1 = r) ∧
      (¬ (kind = 8) →
       ((kind = 9) →
        1 = r) ∧
       (¬ (kind = 9) →
        ((kind = 10) →
         3 = r) ∧
        (¬ (kind = 10) →
         2 = r))))))))) : R_Q73 kind r := by
 intro S
 rw [call_code sp_Q73 _ _ rfl]
 have F := U_Q73
 by_cases c1 : kind < 1
 · replace T := T.1 c1
   obtain rfl := T
   exact fi (aa (eq_true c1) <| F)
 · replace T := T.2 c1
   replace F := aa (eq_false c1) <| F
   by_cases c2 : 23 < kind
   · replace T := T.1 c2
     obtain rfl := T
     exact fi (aa (eq_true c2) <| F)
   · replace T := T.2 c2
     replace F := aa (eq_false c2) <| F
     by_cases c3 : kind ≤ 4
     · replace T := T.1 c3
       obtain rfl := T
       exact fi (aa (eq_true c3) <| F)
     · replace T := T.2 c3
       replace F := aa (eq_false c3) <| F
       by_cases c4 : kind = 5
       · replace T := T.1 c4
         obtain rfl := T
         exact fi (aa (eq_true c4) <| F)
       · replace T := T.2 c4
         replace F := aa (eq_false c4) <| F
         by_cases c5 : kind = 6
         · replace T := T.1 c5
           obtain rfl := T
           exact fi (aa (eq_true c5) <| F)
         · replace T := T.2 c5
           replace F := aa (eq_false c5) <| F
           by_cases c6 : kind = 8
           · replace T := T.1 c6
             obtain rfl := T
             exact fi (aa (eq_true c6) <| F)
           · replace T := T.2 c6
             replace F := aa (eq_false c6) <| F
             by_cases c7 : kind = 9
             · replace T := T.1 c7
               obtain rfl := T
               exact fi (aa (eq_true c7) <| F)
             · replace T := T.2 c7
               replace F := aa (eq_false c7) <| F
               by_cases c8 : kind = 10
               · replace T := T.1 c8
                 obtain rfl := T
                 exact fi (aa (eq_true c8) <| F)
               · replace T := T.2 c8
                 obtain rfl := T
                 exact fi (aa (eq_false c8) <| F)
theorem sp_Q114 : SP 114 = some (.code sc_Q114) := SPof_code rfl Tryz.func114 comp_Q114
theorem Q114_tree (s : List UInt8) (r : Bool) (T :
  ((s = [116, 114, 117, 101]) →
  true = r) ∧
 (¬ (s = [116, 114, 117, 101]) →
  (decide (s = [102, 97, 108, 115, 101])) = r)) : R_Q114 s r := by
 intro S
 rw [call_code sp_Q114 _ _ rfl]
 have F := U_Q114
 by_cases c1 : s = [116, 114, 117, 101]
 · replace T := T.1 c1
   obtain rfl := T
   exact fi (aa (eq_true c1) <| F)
 · replace T := T.2 c1
   obtain rfl := T
   exact fi (aa (eq_false c1) <| F)
theorem sp_Q113 : SP 113 = some (.code sc_Q113) := SPof_code rfl Tryz.func113 comp_Q113
theorem Q113_tree (s : List UInt8) (r : Bool) (T :
  ∃ (r1 : List UInt8) (r2 : List UInt8) (r3 : Bool), (R_strings_Cut s [46] r1 r2 r3) ∧
 ((r3 = true) →
  ∃ (r4 : Bool), (R_Q115 r1 r4) ∧
  ((r4 = true) →
   ∃ (r5 : Bool), (R_Q115 r2 r5) ∧
   r5 = r) ∧
  (¬ (r4 = true) →
   false = r)) ∧
 (¬ (r3 = true) →
  false = r)) : R_Q113 s r := by
 intro S
 rw [call_code sp_Q113 _ _ rfl]
 have F := U_Q113
 obtain ⟨r1, r2, r3, q1, T⟩ := T
 simp only [R_strings_Cut, le, List.cons_append, List.nil_append] at q1
 replace F := aa q1 <| F
 by_cases c2 : r3 = true
 · replace T := T.1 c2
   obtain ⟨r4, q3, T⟩ := T
   simp only [R_Q115, le, List.cons_append, List.nil_append] at q3
   replace F := aa c2 <| aa q3 <| F
   by_cases c4 : r4 = true
   · replace T := T.1 c4
     obtain ⟨r5, q5, rfl⟩ := T
     simp only [R_Q115, le, List.cons_append, List.nil_append] at q5
     exact fi (aa c4 <| aa q5 <| F)
   · replace T := T.2 c4
     replace c4 := Bool.eq_false_iff.2 c4
     obtain rfl := T
     exact fi (aa c4 <| F)
 · replace T := T.2 c2
   replace c2 := Bool.eq_false_iff.2 c2
   obtain rfl := T
   exact fi (aa c2 <| F)
theorem sp_Q152 : SP 152 = some (.code sc_Q152) := SPof_code rfl Tryz.func152 comp_Q152
def At_Q152_1 (s : List UInt8) (i1 : Int) (r : Bool) : Prop := ∀ (S : Sto) (e : Nat → PV) (f : Fr), e 0 = .str s ∧ e 5 = .int .i64 (s.length : Int) ∧ e 6 = .int .i64 i1 → k_Q152_1 SP (E SP (.loop b_Q152_1) ⟨e, f :: S⟩) = .ok (.v (.bool r)) S
theorem At_Q152_1_step (s : List UInt8) (i1 : Int) (r : Bool) (T :
  ((i1 < (s.length : Int)) →
  (0 ≤ i1) ∧
  ∃ (b2 : UInt8), (s[i1.toNat]? = some b2) ∧
  (((b2.toNat : Int) < 32) →
   (((b2.toNat : Int) = 10) →
    (I64 (i1 + 1)) ∧
    At_Q152_1 s (i1 + 1) r) ∧
   (¬ ((b2.toNat : Int) = 10) →
    false = r)) ∧
  (¬ ((b2.toNat : Int) < 32) →
   (I64 (i1 + 1)) ∧
   At_Q152_1 s (i1 + 1) r)) ∧
 (¬ (i1 < (s.length : Int)) →
  true = r)) : At_Q152_1 s i1 r := by
 intro S e f h
 unfold k_Q152_1
 rw [E_loop]
 have F := U_Q152
 replace F := aa h <| F
 by_cases c1 : i1 < (s.length : Int)
 · replace T := T.1 c1
   obtain ⟨p2, b2, q3, T⟩ := T
   replace F := aa (eq_true c1) <| aa p2 <| aa q3 <| F
   by_cases c4 : (b2.toNat : Int) < 32
   · replace T := T.1 c4
     replace F := aa (eq_true c4) <| F
     by_cases c5 : (b2.toNat : Int) = 10
     · replace T := T.1 c5
       obtain ⟨p6, T⟩ := T
       replace F := aa (eq_true c5) <| aa p6.wrap <| F
       exact lo F T
     · replace T := T.2 c5
       obtain rfl := T
       exact fi (aa (eq_false c5) <| F)
   · replace T := T.2 c4
     obtain ⟨p7, T⟩ := T
     replace F := aa (eq_false c4) <| aa p7.wrap <| F
     exact lo F T
 · replace T := T.2 c1
   obtain rfl := T
   exact fi (aa (eq_false c1) <| F)
theorem Q152_tree (s : List UInt8) (r : Bool) (T :
  At_Q152_1 s 0 r) : R_Q152 s r := by
 intro S
 rw [call_code sp_Q152 _ _ rfl]
 have F := U_Q152
 exact lo F T
theorem sp_Q116 : SP 116 = some (.code sc_Q116) := SPof_code rfl Tryz.func116 comp_Q116
def At_Q116_1 (l_ : List Part) (i1 : Int) (r : Bool) : Prop := ∀ (S : Sto) (e : Nat → PV) (f : Fr), e 0 = .list 2 (l_.map ePart) false ∧ e 5 = .list 2 (l_.map ePart) false ∧ e 6 = .int .i64 (l_.length : Int) ∧ e 7 = .int .i64 i1 → k_Q116_1 SP (E SP (.loop b_Q116_1) ⟨e, f :: S⟩) = .ok (.v (.bool r)) S
theorem At_Q116_1_step (l_ : List Part) (i1 : Int) (r : Bool) (T :
  ((i1 < (l_.length : Int)) →
  (0 ≤ i1) ∧
  ∃ (v2 : Part), (l_[i1.toNat]? = some v2) ∧
  ((v2.Ref = true) →
   ∃ (r3 : Bool), (R_Q113 v2.Text r3) ∧
   ((r3 = true) →
    (I64 (i1 + 1)) ∧
    At_Q116_1 l_ (i1 + 1) r) ∧
   (¬ (r3 = true) →
    false = r)) ∧
  (¬ (v2.Ref = true) →
   ((v2.Text = []) →
    false = r) ∧
   (¬ (v2.Text = []) →
    ((0 < i1) →
     (I64 (i1 - 1)) ∧
     (0 ≤ (i1 - 1)) ∧
     ∃ (v4 : Part), (l_[(i1 - 1).toNat]? = some v4) ∧
     ((v4.Ref = true) →
      ∃ (r5 : Bool), (R_Q152 v2.Text r5) ∧
      ((r5 = true) →
       (I64 (i1 + 1)) ∧
       At_Q116_1 l_ (i1 + 1) r) ∧
      (¬ (r5 = true) →
       false = r)) ∧
     (¬ (v4.Ref = true) →
      false = r)) ∧
    (¬ (0 < i1) →
     ∃ (r6 : Bool), (R_Q152 v2.Text r6) ∧
     ((r6 = true) →
      (I64 (i1 + 1)) ∧
      At_Q116_1 l_ (i1 + 1) r) ∧
     (¬ (r6 = true) →
      false = r))))) ∧
 (¬ (i1 < (l_.length : Int)) →
  true = r)) : At_Q116_1 l_ i1 r := by
 intro S e f h
 unfold k_Q116_1
 rw [E_loop]
 have F := U_Q116
 replace F := aa h <| F
 by_cases c1 : i1 < (l_.length : Int)
 · replace T := T.1 c1
   obtain ⟨p2, v2, q3, T⟩ := T
   replace F := aa (eq_true c1) <| aa p2 <| aa q3 <| F
   by_cases c4 : v2.Ref = true
   · replace T := T.1 c4
     obtain ⟨r3, q5, T⟩ := T
     simp only [R_Q113, le, List.cons_append, List.nil_append] at q5
     replace F := aa c4 <| aa q5 <| F
     by_cases c6 : r3 = true
     · replace T := T.1 c6
       obtain ⟨p7, T⟩ := T
       replace F := aa c6 <| aa p7.wrap <| F
       exact lo F T
     · replace T := T.2 c6
       replace c6 := Bool.eq_false_iff.2 c6
       obtain rfl := T
       exact fi (aa c6 <| F)
   · replace T := T.2 c4
     replace c4 := Bool.eq_false_iff.2 c4
     replace F := aa c4 <| F
     by_cases c8 : v2.Text = []
     · replace T := T.1 c8
       obtain rfl := T
       exact fi (aa (eq_true c8) <| F)
     · replace T := T.2 c8
       replace F := aa (eq_false c8) <| F
       by_cases c9 : 0 < i1
       · replace T := T.1 c9
         obtain ⟨p10, p11, v4, q12, T⟩ := T
         replace F := aa (eq_true c9) <| aa p10.wrap <| aa p11 <| aa q12 <| F
         by_cases c13 : v4.Ref = true
         · replace T := T.1 c13
           obtain ⟨r5, q14, T⟩ := T
           simp only [R_Q152, le, List.cons_append, List.nil_append] at q14
           replace F := aa c13 <| aa q14 <| F
           by_cases c15 : r5 = true
           · replace T := T.1 c15
             obtain ⟨p16, T⟩ := T
             replace F := aa c15 <| aa p16.wrap <| F
             exact lo F T
           · replace T := T.2 c15
             replace c15 := Bool.eq_false_iff.2 c15
             obtain rfl := T
             exact fi (aa c15 <| F)
         · replace T := T.2 c13
           replace c13 := Bool.eq_false_iff.2 c13
           obtain rfl := T
           exact fi (aa c13 <| F)
       · replace T := T.2 c9
         obtain ⟨r6, q17, T⟩ := T
         simp only [R_Q152, le, List.cons_append, List.nil_append] at q17
         replace F := aa (eq_false c9) <| aa q17 <| F
         by_cases c18 : r6 = true
         · replace T := T.1 c18
           obtain ⟨p19, T⟩ := T
           replace F := aa c18 <| aa p19.wrap <| F
           exact lo F T
         · replace T := T.2 c18
           replace c18 := Bool.eq_false_iff.2 c18
           obtain rfl := T
           exact fi (aa c18 <| F)
 · replace T := T.2 c1
   obtain rfl := T
   exact fi (aa (eq_false c1) <| F)
theorem Q116_tree (l_ : List Part) (r : Bool) (T :
  At_Q116_1 l_ 0 r) : R_Q116 l_ r := by
 intro S
 rw [call_code sp_Q116 _ _ rfl]
 have F := U_Q116
 exact lo F T
theorem sp_Q74 : SP 74 = some (.code sc_Q74) := SPof_code rfl Tryz.func74 comp_Q74
theorem Q74_tree (n : Node) (r : Bool) (T :
  ((n.Kind = 1) →
  ((0 ≤ n.Num) →
   ((n.Text = []) →
    (decide ((n.Parts.length : Int) = 0)) = r) ∧
   (¬ (n.Text = []) →
    false = r)) ∧
  (¬ (0 ≤ n.Num) →
   false = r)) ∧
 (¬ (n.Kind = 1) →
  ((n.Kind = 3) →
   ((n.Num = 0) →
    ((n.Text = []) →
     (decide ((n.Parts.length : Int) = 0)) = r) ∧
    (¬ (n.Text = []) →
     false = r)) ∧
   (¬ (n.Num = 0) →
    ((n.Num = 1) →
     ((n.Text = []) →
      (decide ((n.Parts.length : Int) = 0)) = r) ∧
     (¬ (n.Text = []) →
      false = r)) ∧
    (¬ (n.Num = 1) →
     false = r))) ∧
  (¬ (n.Kind = 3) →
   ((n.Kind = 4) →
    ∃ (r1 : List UInt8) (r2 : List UInt8) (r3 : Bool), (R_strings_Cut n.Text [46] r1 r2 r3) ∧
    ∃ (r4 : Bool), (R_Q113 n.Text r4) ∧
    ((r4 = true) →
     ∃ (r5 : Bool), (R_Q114 r1 r5) ∧
     ((n.Num = 0) →
      ((r5 = true) →
       false = r) ∧
      (¬ (r5 = true) →
       (decide ((n.Parts.length : Int) = 0)) = r)) ∧
     (¬ (n.Num = 0) →
      false = r)) ∧
    (¬ (r4 = true) →
     ((n.Num = 0) →
      false = r) ∧
     (¬ (n.Num = 0) →
      false = r))) ∧
   (¬ (n.Kind = 4) →
    ((n.Kind = 5) →
     ∃ (r6 : Bool), (R_Q115 n.Text r6) ∧
     ((r6 = true) →
      ∃ (r7 : Bool), (R_Q114 n.Text r7) ∧
      ((n.Num = 0) →
       ((r7 = true) →
        false = r) ∧
       (¬ (r7 = true) →
        (decide ((n.Parts.length : Int) = 0)) = r)) ∧
      (¬ (n.Num = 0) →
       false = r)) ∧
     (¬ (r6 = true) →
      ((n.Num = 0) →
       false = r) ∧
      (¬ (n.Num = 0) →
       false = r))) ∧
    (¬ (n.Kind = 5) →
     ((n.Kind = 2) →
      ∃ (r8 : Bool), (R_Q116 n.Parts r8) ∧
      ((n.Num = 0) →
       ((n.Text = []) →
        r8 = r) ∧
       (¬ (n.Text = []) →
        false = r)) ∧
      (¬ (n.Num = 0) →
       false = r)) ∧
     (¬ (n.Kind = 2) →
      ((n.Num = 0) →
       ((n.Text = []) →
        (decide ((n.Parts.length : Int) = 0)) = r) ∧
       (¬ (n.Text = []) →
        false = r)) ∧
      (¬ (n.Num = 0) →
       false = r))))))) : R_Q74 n r := by
 intro S
 rw [call_code sp_Q74 _ _ rfl]
 have F := U_Q74
 by_cases c1 : n.Kind = 1
 · replace T := T.1 c1
   replace F := aa (eq_true c1) <| F
   by_cases c2 : 0 ≤ n.Num
   · replace T := T.1 c2
     replace F := aa (eq_true c2) <| F
     by_cases c3 : n.Text = []
     · replace T := T.1 c3
       obtain rfl := T
       exact fi (aa (eq_true c3) <| F)
     · replace T := T.2 c3
       obtain rfl := T
       exact fi (aa (eq_false c3) <| F)
   · replace T := T.2 c2
     obtain rfl := T
     exact fi (aa (eq_false c2) <| F)
 · replace T := T.2 c1
   replace F := aa (eq_false c1) <| F
   by_cases c4 : n.Kind = 3
   · replace T := T.1 c4
     replace F := aa (eq_true c4) <| F
     by_cases c5 : n.Num = 0
     · replace T := T.1 c5
       replace F := aa (eq_true c5) <| F
       by_cases c6 : n.Text = []
       · replace T := T.1 c6
         obtain rfl := T
         exact fi (aa (eq_true c6) <| F)
       · replace T := T.2 c6
         obtain rfl := T
         exact fi (aa (eq_false c6) <| F)
     · replace T := T.2 c5
       replace F := aa (eq_false c5) <| F
       by_cases c7 : n.Num = 1
       · replace T := T.1 c7
         replace F := aa (eq_true c7) <| F
         by_cases c8 : n.Text = []
         · replace T := T.1 c8
           obtain rfl := T
           exact fi (aa (eq_true c8) <| F)
         · replace T := T.2 c8
           obtain rfl := T
           exact fi (aa (eq_false c8) <| F)
       · replace T := T.2 c7
         obtain rfl := T
         exact fi (aa (eq_false c7) <| F)
   · replace T := T.2 c4
     replace F := aa (eq_false c4) <| F
     by_cases c9 : n.Kind = 4
     · replace T := T.1 c9
       obtain ⟨r1, r2, r3, q10, r4, q11, T⟩ := T
       simp only [R_strings_Cut, le, List.cons_append, List.nil_append] at q10
       simp only [R_Q113, le, List.cons_append, List.nil_append] at q11
       replace F := aa (eq_true c9) <| aa q10 <| aa q11 <| F
       by_cases c12 : r4 = true
       · replace T := T.1 c12
         obtain ⟨r5, q13, T⟩ := T
         simp only [R_Q114, le, List.cons_append, List.nil_append] at q13
         replace F := aa c12 <| aa q13 <| F
         by_cases c14 : n.Num = 0
         · replace T := T.1 c14
           replace F := aa (eq_true c14) <| F
           by_cases c15 : r5 = true
           · replace T := T.1 c15
             obtain rfl := T
             exact fi (aa c15 <| F)
           · replace T := T.2 c15
             replace c15 := Bool.eq_false_iff.2 c15
             obtain rfl := T
             exact fi (aa c15 <| F)
         · replace T := T.2 c14
           obtain rfl := T
           exact fi (aa (eq_false c14) <| F)
       · replace T := T.2 c12
         replace c12 := Bool.eq_false_iff.2 c12
         replace F := aa c12 <| F
         by_cases c16 : n.Num = 0
         · replace T := T.1 c16
           obtain rfl := T
           exact fi (aa (eq_true c16) <| F)
         · replace T := T.2 c16
           obtain rfl := T
           exact fi (aa (eq_false c16) <| F)
     · replace T := T.2 c9
       replace F := aa (eq_false c9) <| F
       by_cases c17 : n.Kind = 5
       · replace T := T.1 c17
         obtain ⟨r6, q18, T⟩ := T
         simp only [R_Q115, le, List.cons_append, List.nil_append] at q18
         replace F := aa (eq_true c17) <| aa q18 <| F
         by_cases c19 : r6 = true
         · replace T := T.1 c19
           obtain ⟨r7, q20, T⟩ := T
           simp only [R_Q114, le, List.cons_append, List.nil_append] at q20
           replace F := aa c19 <| aa q20 <| F
           by_cases c21 : n.Num = 0
           · replace T := T.1 c21
             replace F := aa (eq_true c21) <| F
             by_cases c22 : r7 = true
             · replace T := T.1 c22
               obtain rfl := T
               exact fi (aa c22 <| F)
             · replace T := T.2 c22
               replace c22 := Bool.eq_false_iff.2 c22
               obtain rfl := T
               exact fi (aa c22 <| F)
           · replace T := T.2 c21
             obtain rfl := T
             exact fi (aa (eq_false c21) <| F)
         · replace T := T.2 c19
           replace c19 := Bool.eq_false_iff.2 c19
           replace F := aa c19 <| F
           by_cases c23 : n.Num = 0
           · replace T := T.1 c23
             obtain rfl := T
             exact fi (aa (eq_true c23) <| F)
           · replace T := T.2 c23
             obtain rfl := T
             exact fi (aa (eq_false c23) <| F)
       · replace T := T.2 c17
         replace F := aa (eq_false c17) <| F
         by_cases c24 : n.Kind = 2
         · replace T := T.1 c24
           obtain ⟨r8, q25, T⟩ := T
           simp only [R_Q116, le, List.cons_append, List.nil_append] at q25
           replace F := aa (eq_true c24) <| aa q25 <| F
           by_cases c26 : n.Num = 0
           · replace T := T.1 c26
             replace F := aa (eq_true c26) <| F
             by_cases c27 : n.Text = []
             · replace T := T.1 c27
               obtain rfl := T
               exact fi (aa (eq_true c27) <| F)
             · replace T := T.2 c27
               obtain rfl := T
               exact fi (aa (eq_false c27) <| F)
           · replace T := T.2 c26
             obtain rfl := T
             exact fi (aa (eq_false c26) <| F)
         · replace T := T.2 c24
           replace F := aa (eq_false c24) <| F
           by_cases c28 : n.Num = 0
           · replace T := T.1 c28
             replace F := aa (eq_true c28) <| F
             by_cases c29 : n.Text = []
             · replace T := T.1 c29
               obtain rfl := T
               exact fi (aa (eq_true c29) <| F)
             · replace T := T.2 c29
               obtain rfl := T
               exact fi (aa (eq_false c29) <| F)
           · replace T := T.2 c28
             obtain rfl := T
             exact fi (aa (eq_false c28) <| F)
theorem sp_Q26 : SP 26 = some (.code sc_Q26) := SPof_code rfl Tryz.func26 comp_Q26
theorem Q26_tree (l_ : List Node) (r : Bool) (T :
  ((0 < (l_.length : Int)) →
  (I64 ((l_.length : Int) - 1)) ∧
  ∃ (r1 : Int), (R_Q47 l_ ((l_.length : Int) - 1) r1) ∧
  (decide (r1 = 0)) = r) ∧
 (¬ (0 < (l_.length : Int)) →
  false = r)) : R_Q26 l_ r := by
 intro S
 rw [call_code sp_Q26 _ _ rfl]
 have F := U_Q26
 by_cases c1 : 0 < (l_.length : Int)
 · replace T := T.1 c1
   obtain ⟨p2, r1, q3, rfl⟩ := T
   simp only [R_Q47, le, List.cons_append, List.nil_append] at q3
   exact fi (aa (eq_true c1) <| aa p2.wrap <| aa q3 <| F)
 · replace T := T.2 c1
   obtain rfl := T
   exact fi (aa (eq_false c1) <| F)
end Go.Proofs.YtfbcnpbhhooapaaGreatDoor.M
namespace Go.Proofs.YtfbcnpbhhooapaaGreatDoor.M
open Go
set_option linter.unusedVariables false
def c_Q137_1 : SC := .seq (.reg [⟨some 2, none, .v (.mov (.c (.int .i64 0)))⟩]) .ret
def c_Q137_2 : SC := .cond (.t 10) (.seq (.reg [⟨some 2, none, .v (.mov (.c (.int .i64 2)))⟩]) .ret) (.seq (.reg [⟨some 22, none, .v (.mov (.t 0))⟩, ⟨some 23, none, .v (.bin .leq (.c (.int .u8 48)) (.t 22))⟩, ⟨some 24, none, .v (.mov (.t 23))⟩, ⟨some 25, some (24, true), .v (.mov (.t 0))⟩, ⟨some 26, some (24, true), .v (.bin .leq (.t 25) (.c (.int .u8 57)))⟩, ⟨some 27, none, .v (.pick (.t 24) (.t 26) (.c (.bool false)))⟩, ⟨some 21, none, .v (.mov (.t 27))⟩]) (.cond (.t 21) (.seq (.reg [⟨some 2, none, .v (.mov (.c (.int .i64 3)))⟩]) .ret) (.seq (.reg [⟨some 29, none, .v (.mov (.t 0))⟩, ⟨some 30, none, .v (.bin .eql (.t 29) (.c (.int .u8 34)))⟩, ⟨some 28, none, .v (.mov (.t 30))⟩]) (.cond (.t 28) (.seq (.reg [⟨some 2, none, .v (.mov (.c (.int .i64 4)))⟩]) .ret) (.seq (.reg [⟨some 32, none, .v (.mov (.t 0))⟩, ⟨some 33, none, .v (.bin .eql (.t 32) (.c (.int .u8 35)))⟩, ⟨some 31, none, .v (.mov (.t 33))⟩]) (.cond (.t 31) (.seq (.reg [⟨some 2, none, .v (.mov (.c (.int .i64 5)))⟩]) .ret) .skip))))))
def c_Q137_3 : SC := .cond (.t 3) (.seq (.reg [⟨some 2, none, .v (.mov (.c (.int .i64 1)))⟩]) .ret) (.seq (.reg [⟨some 11, none, .v (.mov (.t 0))⟩, ⟨some 12, none, .v (.bin .eql (.t 11) (.c (.int .u8 95)))⟩, ⟨some 13, none, .v (.mov (.t 12))⟩, ⟨some 14, some (13, false), .v (.mov (.t 0))⟩, ⟨some 15, some (13, false), .v (.bin .leq (.c (.int .u8 97)) (.t 14))⟩, ⟨some 16, some (13, false), .v (.mov (.t 15))⟩, ⟨some 17, some (16, true), .v (.mov (.t 0))⟩, ⟨some 18, some (16, true), .v (.bin .leq (.t 17) (.c (.int .u8 122)))⟩, ⟨some 19, some (13, false), .v (.pick (.t 16) (.t 18) (.c (.bool false)))⟩, ⟨some 20, none, .v (.pick (.t 13) (.c (.bool true)) (.t 19))⟩, ⟨some 10, none, .v (.mov (.t 20))⟩]) c_Q137_2)
def c_Q137_4 : SC := .seq (.block 0 (.seq (.reg [⟨some 4, none, .v (.mov (.t 0))⟩, ⟨some 5, none, .v (.bin .eql (.t 4) (.c (.int .u8 32)))⟩, ⟨some 6, none, .v (.mov (.t 5))⟩, ⟨some 7, some (6, false), .v (.mov (.t 0))⟩, ⟨some 8, some (6, false), .v (.bin .eql (.t 7) (.c (.int .u8 10)))⟩, ⟨some 9, none, .v (.pick (.t 6) (.c (.bool true)) (.t 8))⟩, ⟨some 3, none, .v (.mov (.t 9))⟩]) c_Q137_3)) c_Q137_1
def sc_Q137 : SFunc := ⟨1, 34, .seq (.reg [⟨some 2, none, .v (.mov (.c (.int .i64 0)))⟩]) c_Q137_4, [(.t 2)]⟩
theorem U_Q137 : type_of% (And.intro (ue c_Q137_1.eq_1) <| And.intro (ue c_Q137_2.eq_1) <| And.intro (ue c_Q137_3.eq_1) <| And.intro (ue c_Q137_4.eq_1) <| sc_Q137.eq_1) := And.intro (ue c_Q137_1.eq_1) <| And.intro (ue c_Q137_2.eq_1) <| And.intro (ue c_Q137_3.eq_1) <| And.intro (ue c_Q137_4.eq_1) <| sc_Q137.eq_1
theorem comp_Q137 : comp Tryz.prog Tryz.f137 = some sc_Q137 := by kernel_rfl
def c_Q151_1 : SC := .seq (.reg [⟨some 20, none, .v (.mov (.t 0))⟩, ⟨some 21, none, .v (.len true (.t 20))⟩, ⟨some 4, none, .v (.mov (.t 21))⟩]) .ret
def b_Q151_1 : SC := .seq (.reg [⟨some 9, none, .v (.bin .lss (.t 8) (.t 7))⟩]) (.seq (.cond (.t 9) .skip (.exit 0)) (.seq (.block 1 (.seq (.reg [⟨some 10, none, .v (.mov (.t 8))⟩, ⟨some 5, none, .v (.mov (.t 10))⟩]) (.seq (.reg [⟨some 11, none, .v (.mov (.t 1))⟩, ⟨some 12, none, .v (.mov (.t 0))⟩, ⟨some 13, none, .v (.mov (.t 5))⟩, ⟨some 14, none, .v (.istr (.t 12) (.t 13))⟩, ⟨some 15, none, .call (.c (.func 137 [])) [(.t 14)]⟩, ⟨some 16, none, .call (.c (.func 170 [])) [(.t 11), (.t 15)]⟩, ⟨some 17, none, .v (.un .not (.t 16))⟩]) (.cond (.t 17) (.seq (.reg [⟨some 18, none, .v (.mov (.t 5))⟩, ⟨some 4, none, .v (.mov (.t 18))⟩]) .ret) .skip)))) (.reg [⟨some 19, none, .v (.bin .add (.t 8) (.c (.int .i64 1)))⟩, ⟨some 8, none, .v (.mov (.t 19))⟩])))
def sc_Q151 : SFunc := ⟨2, 22, .seq (.reg [⟨some 4, none, .v (.mov (.c (.int .i64 0)))⟩]) (.seq (.seq (.reg [⟨some 6, none, .v (.mov (.t 0))⟩, ⟨some 7, none, .v (.len true (.t 6))⟩, ⟨some 8, none, .v (.mov (.c (.int .i64 0)))⟩]) (.block 0 (.loop b_Q151_1))) c_Q151_1), [(.t 4)]⟩
noncomputable def k_Q151_1 (SP : Prg) (x : EO) : CO := fin [(.t 4)] (thC SP (inBlk 0 (x)) c_Q151_1)
theorem U_Q151 : type_of% (And.intro (ue c_Q151_1.eq_1) <| And.intro (ue b_Q151_1.eq_1) <| sc_Q151.eq_1) := And.intro (ue c_Q151_1.eq_1) <| And.intro (ue b_Q151_1.eq_1) <| sc_Q151.eq_1
theorem comp_Q151 : comp Tryz.prog Tryz.f151 = some sc_Q151 := by kernel_rfl
def sc_Q135 : SFunc := ⟨2, 31, .seq (.reg [⟨some 4, none, .v (.mov (.c (.str [])))⟩]) (.seq (.reg [⟨some 6, none, .v (.mov (.t 0))⟩, ⟨some 7, none, .v (.nchk (.t 6))⟩, ⟨some 8, none, .v (.faddr 0 (.t 7))⟩, ⟨some 9, none, .v (.load none (.t 8))⟩, ⟨some 10, none, .v (.mov (.t 1))⟩, ⟨some 11, none, .v (.sls (.t 9) none (some (.t 10)))⟩, ⟨some 5, none, .v (.mov (.t 11))⟩]) (.seq (.dreg [⟨some 12, none, .v (.mov (.t 0))⟩, ⟨some 13, none, .v (.mov (.t 0))⟩, ⟨some 14, none, .v (.mov (.t 0))⟩, ⟨some 15, none, .v (.nchk (.t 14))⟩, ⟨some 16, none, .v (.faddr 0 (.t 15))⟩, ⟨some 17, none, .v (.load none (.t 16))⟩, ⟨some 18, none, .v (.mov (.t 1))⟩, ⟨some 19, none, .v (.sls (.t 17) (some (.t 18)) none)⟩, ⟨some 20, none, .v (.mov (.t 0))⟩, ⟨some 21, none, .v (.nchk (.t 20))⟩, ⟨some 22, none, .v (.faddr 1 (.t 21))⟩, ⟨some 23, none, .v (.load none (.t 22))⟩, ⟨some 24, none, .v (.mov (.t 1))⟩, ⟨some 25, none, .v (.bin .add (.t 23) (.t 24))⟩, ⟨some 26, none, .v (.nchk (.t 12))⟩, ⟨some 27, none, .v (.faddr 0 (.t 26))⟩, ⟨none, none, .store 1 (.t 27) (.t 19)⟩, ⟨some 28, none, .v (.nchk (.t 13))⟩, ⟨some 29, none, .v (.faddr 1 (.t 28))⟩, ⟨none, none, .store 1 (.t 29) (.t 25)⟩] [false, false, false, false, false, false, false, false, false, false, false, false, false, false, true, true, true, true, true, true]) (.seq (.reg [⟨some 30, none, .v (.mov (.t 5))⟩, ⟨some 4, none, .v (.mov (.t 30))⟩]) .ret))), [(.t 4)]⟩
theorem U_Q135 : type_of% (sc_Q135.eq_1) := sc_Q135.eq_1
theorem comp_Q135 : comp Tryz.prog Tryz.f135 = some sc_Q135 := by kernel_rfl
def sc_Q134 : SFunc := ⟨2, 13, .seq (.reg [⟨some 4, none, .v (.mov (.c (.str [])))⟩]) (.seq (.reg [⟨some 5, none, .v (.mov (.t 0))⟩, ⟨some 6, none, .v (.mov (.t 0))⟩, ⟨some 7, none, .v (.nchk (.t 6))⟩, ⟨some 8, none, .v (.faddr 0 (.t 7))⟩, ⟨some 9, none, .v (.load none (.t 8))⟩, ⟨some 10, none, .v (.mov (.t 1))⟩, ⟨some 11, none, .call (.c (.func 151 [])) [(.t 9), (.t 10)]⟩, ⟨some 12, none, .call (.c (.func 135 [])) [(.t 5), (.t 11)]⟩, ⟨some 4, none, .v (.mov (.t 12))⟩]) .ret), [(.t 4)]⟩
theorem U_Q134 : type_of% (sc_Q134.eq_1) := sc_Q134.eq_1
theorem comp_Q134 : comp Tryz.prog Tryz.f134 = some sc_Q134 := by kernel_rfl
def c_Q165_1 : SC := .dreg [⟨some 31, none, .v (.mov (.t 0))⟩, ⟨some 32, none, .v (.nchk (.t 31))⟩, ⟨some 33, none, .v (.load none (.t 32))⟩, ⟨some 34, none, .v (.mov (.t 4))⟩, ⟨some 35, none, .v (.bin .sub (.t 34) (.c (.int .i64 1)))⟩, ⟨some 36, none, .v (.iaddr 2 (.t 33) (.t 35))⟩, ⟨some 37, none, .v (.faddr 1 (.t 36))⟩, ⟨some 38, none, .v (.load none (.t 37))⟩, ⟨some 39, none, .v (.mov (.t 1))⟩, ⟨some 40, none, .bslice 1 1 [(.int .u8 0)] [(0, (.t 39))]⟩, ⟨some 41, none, .v (.conv .bytes (.t 40))⟩, ⟨some 42, none, .v (.bin .add (.t 38) (.t 41))⟩, ⟨some 43, none, .v (.iaddr 2 (.t 33) (.t 35))⟩, ⟨some 44, none, .v (.faddr 1 (.t 43))⟩, ⟨none, none, .store 1 (.t 44) (.t 42)⟩] [false, false, false, false, false, false, false, false, false, false, false, true, true, true, true]
def c_Q165_2 : SC := .seq (.seq (.reg [⟨some 9, none, .v (.mov (.t 4))⟩, ⟨some 10, none, .v (.bin .eql (.t 9) (.c (.int .i64 0)))⟩, ⟨some 11, none, .v (.mov (.t 10))⟩, ⟨some 12, some (11, false), .v (.mov (.t 0))⟩, ⟨some 13, some (11, false), .v (.nchk (.t 12))⟩, ⟨some 14, some (11, false), .v (.load none (.t 13))⟩, ⟨some 15, some (11, false), .v (.mov (.t 4))⟩, ⟨some 16, some (11, false), .v (.bin .sub (.t 15) (.c (.int .i64 1)))⟩, ⟨some 17, some (11, false), .v (.iaddr 2 (.t 14) (.t 16))⟩, ⟨some 18, some (11, false), .v (.faddr 0 (.t 17))⟩, ⟨some 19, some (11, false), .v (.load none (.t 18))⟩, ⟨some 20, none, .v (.pick (.t 11) (.c (.bool true)) (.t 19))⟩]) (.cond (.t 20) (.seq (.reg [⟨some 21, none, .v (.mov (.t 0))⟩, ⟨some 22, none, .v (.mov (.t 0))⟩, ⟨some 23, none, .v (.nchk (.t 22))⟩, ⟨some 24, none, .v (.load none (.t 23))⟩, ⟨some 25, none, .v (.build [(.bool false), (.str [])] [])⟩, ⟨some 26, none, .bslice 2 1 [(.bool false), (.str [])] [(0, (.t 25))]⟩, ⟨some 27, none, .append 2 24 (.t 24) (.t 26)⟩, ⟨some 28, none, .v (.nchk (.t 21))⟩, ⟨none, none, .store 1 (.t 28) (.t 27)⟩]) (.reg [⟨some 29, none, .v (.mov (.t 4))⟩, ⟨some 30, none, .v (.bin .add (.t 29) (.c (.int .i64 1)))⟩, ⟨some 4, none, .v (.mov (.t 30))⟩])) .skip)) c_Q165_1
def sc_Q165 : SFunc := ⟨2, 45, .seq (.reg [⟨some 5, none, .v (.mov (.t 0))⟩, ⟨some 6, none, .v (.nchk (.t 5))⟩, ⟨some 7, none, .v (.load none (.t 6))⟩, ⟨some 8, none, .v (.len false (.t 7))⟩, ⟨some 4, none, .v (.mov (.t 8))⟩]) c_Q165_2, []⟩
theorem U_Q165 : type_of% (And.intro (ue c_Q165_1.eq_1) <| And.intro (ue c_Q165_2.eq_1) <| sc_Q165.eq_1) := And.intro (ue c_Q165_1.eq_1) <| And.intro (ue c_Q165_2.eq_1) <| sc_Q165.eq_1
theorem comp_Q165 : comp Tryz.prog Tryz.f165 = some sc_Q165 := by kernel_rfl
def sc_Q164 : SFunc := ⟨1, 15, .seq (.reg [⟨some 2, none, .v (.mov (.c (.int .u8 0)))⟩, ⟨some 3, none, .v (.mov (.c (.bool false)))⟩]) (.seq (.seq (.reg [⟨some 5, none, .v (.mov (.t 0))⟩, ⟨some 6, none, .v (.len true (.t 5))⟩, ⟨some 7, none, .v (.bin .lss (.t 6) (.c (.int .i64 2)))⟩]) (.cond (.t 7) (.seq (.reg [⟨some 2, none, .v (.mov (.c (.int .u8 0)))⟩, ⟨some 3, none, .v (.mov (.c (.bool false)))⟩]) .ret) .skip)) (.seq (.reg [⟨some 8, none, .v (.mov (.t 0))⟩, ⟨some 9, none, .v (.istr (.t 8) (.c (.int .i64 1)))⟩, ⟨some 10, none, .call (.c (.func 179 [])) [(.c (.str [34, 92, 36, 110])), (.t 9)]⟩, ⟨some 4, none, .v (.mov (.t 10))⟩]) (.seq (.seq (.reg [⟨some 11, none, .v (.mov (.t 4))⟩, ⟨some 12, none, .v (.bin .lss (.t 11) (.c (.int .i64 0)))⟩]) (.cond (.t 12) (.seq (.reg [⟨some 2, none, .v (.mov (.c (.int .u8 0)))⟩, ⟨some 3, none, .v (.mov (.c (.bool false)))⟩]) .ret) .skip)) (.seq (.reg [⟨some 13, none, .v (.mov (.t 4))⟩, ⟨some 14, none, .v (.istr (.c (.str [34, 92, 36, 10])) (.t 13))⟩, ⟨some 2, none, .v (.mov (.t 14))⟩, ⟨some 3, none, .v (.mov (.c (.bool true)))⟩]) .ret)))), [(.t 2), (.t 3)]⟩
theorem U_Q164 : type_of% (sc_Q164.eq_1) := sc_Q164.eq_1
theorem comp_Q164 : comp Tryz.prog Tryz.f164 = some sc_Q164 := by kernel_rfl
def c_Q166_1 : SC := .seq (.reg [⟨some 18, none, .v (.mov (.t 4))⟩, ⟨some 19, none, .call (.c (.func 112 [])) [(.t 18), (.c (.str [46]))]⟩, ⟨some 17, none, .v (.mov (.t 19))⟩, ⟨some 20, none, .v (.extract 0 (.t 17))⟩, ⟨some 21, none, .v (.extract 1 (.t 17))⟩, ⟨some 22, none, .v (.extract 2 (.t 17))⟩, ⟨some 7, none, .v (.mov (.t 20))⟩, ⟨some 8, none, .v (.mov (.t 21))⟩, ⟨some 9, none, .v (.mov (.t 22))⟩]) (.seq (.reg [⟨some 23, none, .v (.mov (.t 4))⟩, ⟨some 24, none, .v (.mov (.t 6))⟩, ⟨some 25, none, .v (.mov (.t 24))⟩, ⟨some 26, some (25, true), .v (.mov (.t 9))⟩, ⟨some 27, none, .v (.pick (.t 25) (.t 26) (.c (.bool false)))⟩, ⟨some 28, none, .v (.mov (.t 27))⟩, ⟨some 29, some (28, true), .v (.mov (.t 7))⟩, ⟨some 30, some (28, true), .call (.c (.func 115 [])) [(.t 29)]⟩, ⟨some 31, none, .v (.pick (.t 28) (.t 30) (.c (.bool false)))⟩, ⟨some 32, none, .v (.mov (.t 31))⟩, ⟨some 33, some (32, true), .v (.mov (.t 8))⟩, ⟨some 34, some (32, true), .call (.c (.func 115 [])) [(.t 33)]⟩, ⟨some 35, none, .v (.pick (.t 32) (.t 34) (.c (.bool false)))⟩, ⟨some 2, none, .v (.mov (.t 23))⟩, ⟨some 3, none, .v (.mov (.t 35))⟩]) .ret)
def c_Q166_2 : SC := .seq (.reg [⟨some 11, none, .v (.mov (.t 0))⟩, ⟨some 12, none, .v (.sls (.t 11) (some (.c (.int .i64 2))) none)⟩, ⟨some 13, none, .call (.c (.func 112 [])) [(.t 12), (.c (.str [125]))]⟩, ⟨some 10, none, .v (.mov (.t 13))⟩, ⟨some 14, none, .v (.extract 0 (.t 10))⟩, ⟨some 15, none, .v (.extract 1 (.t 10))⟩, ⟨some 16, none, .v (.extract 2 (.t 10))⟩, ⟨some 4, none, .v (.mov (.t 14))⟩, ⟨some 5, none, .v (.mov (.t 15))⟩, ⟨some 6, none, .v (.mov (.t 16))⟩]) c_Q166_1
def sc_Q166 : SFunc := ⟨1, 36, .seq (.reg [⟨some 2, none, .v (.mov (.c (.str [])))⟩, ⟨some 3, none, .v (.mov (.c (.bool false)))⟩]) c_Q166_2, [(.t 2), (.t 3)]⟩
theorem U_Q166 : type_of% (And.intro (ue c_Q166_1.eq_1) <| And.intro (ue c_Q166_2.eq_1) <| sc_Q166.eq_1) := And.intro (ue c_Q166_1.eq_1) <| And.intro (ue c_Q166_2.eq_1) <| sc_Q166.eq_1
theorem comp_Q166 : comp Tryz.prog Tryz.f166 = some sc_Q166 := by kernel_rfl
def sc_Q115 : SFunc := ⟨1, 24, .seq (.reg [⟨some 2, none, .v (.mov (.c (.bool false)))⟩]) (.seq (.reg [⟨some 3, none, .v (.mov (.t 0))⟩, ⟨some 4, none, .v (.bin .neq (.t 3) (.c (.str [])))⟩, ⟨some 5, none, .v (.mov (.t 4))⟩, ⟨some 6, some (5, true), .v (.mov (.t 0))⟩, ⟨some 7, some (5, true), .v (.len true (.t 6))⟩, ⟨some 8, some (5, true), .v (.bin .leq (.t 7) (.c (.int .i64 24)))⟩, ⟨some 9, none, .v (.pick (.t 5) (.t 8) (.c (.bool false)))⟩, ⟨some 10, none, .v (.mov (.t 9))⟩, ⟨some 11, some (10, true), .v (.mov (.t 0))⟩, ⟨some 12, some (10, true), .v (.istr (.t 11) (.c (.int .i64 0)))⟩, ⟨some 13, some (10, true), .call (.c (.func 137 [])) [(.t 12)]⟩, ⟨some 14, some (10, true), .v (.bin .eql (.t 13) (.c (.int .i64 2)))⟩, ⟨some 15, none, .v (.pick (.t 10) (.t 14) (.c (.bool false)))⟩, ⟨some 16, none, .v (.mov (.t 15))⟩, ⟨some 17, some (16, true), .v (.mov (.t 0))⟩, ⟨some 18, some (16, true), .bslice 1 2 [(.int .i64 0)] [(0, (.c (.int .i64 2))), (1, (.c (.int .i64 3)))]⟩, ⟨some 19, some (16, true), .call (.c (.func 151 [])) [(.t 17), (.t 18)]⟩, ⟨some 20, some (16, true), .v (.mov (.t 0))⟩, ⟨some 21, some (16, true), .v (.len true (.t 20))⟩, ⟨some 22, some (16, true), .v (.bin .eql (.t 19) (.t 21))⟩, ⟨some 23, none, .v (.pick (.t 16) (.t 22) (.c (.bool false)))⟩, ⟨some 2, none, .v (.mov (.t 23))⟩]) .ret), [(.t 2)]⟩
theorem U_Q115 : type_of% (sc_Q115.eq_1) := sc_Q115.eq_1
theorem comp_Q115 : comp Tryz.prog Tryz.f115 = some sc_Q115 := by kernel_rfl
def c_ref1_text_1 : SC := .seq (.reg [⟨some 126, none, .v (.build [(.int .i64 0), (.str []), (.int .i64 0), (.nils 2), (.int .i64 0)] [])⟩, ⟨none, none, .store 5 (.t 4) (.t 126)⟩, ⟨some 5, none, .v (.mov (.c (.int .i64 0)))⟩]) .ret
def c_ref1_text_2 : SC := .reg [⟨some 17, none, .v (.mov (.t 8))⟩, ⟨some 18, none, .v (.bin .add (.t 17) (.c (.int .i64 1)))⟩, ⟨some 8, none, .v (.mov (.t 18))⟩]
def c_ref1_text_3 : SC := .seq (.reg [⟨some 59, none, .v (.mov (.t 0))⟩, ⟨some 60, none, .v (.mov (.t 8))⟩, ⟨some 61, none, .v (.istr (.t 59) (.t 60))⟩]) (.block 3 (.seq (.seq (.reg [⟨some 64, none, .v (.bin .eql (.t 61) (.c (.int .u8 34)))⟩, ⟨some 63, none, .v (.mov (.t 64))⟩]) (.cond (.t 63) .skip (.seq (.reg [⟨some 65, none, .v (.bin .eql (.t 61) (.c (.int .u8 92)))⟩, ⟨some 63, none, .v (.mov (.t 65))⟩]) (.cond (.t 63) .skip (.reg [⟨some 66, none, .v (.bin .eql (.t 61) (.c (.int .u8 36)))⟩, ⟨some 63, none, .v (.mov (.t 66))⟩]))))) (.cond (.t 63) (.reg [⟨some 67, none, .v (.mov (.t 7))⟩, ⟨some 68, none, .v (.mov (.t 0))⟩, ⟨some 69, none, .v (.mov (.t 8))⟩, ⟨some 70, none, .v (.istr (.t 68) (.t 69))⟩, ⟨some 71, none, .bslice 1 1 [(.int .u8 0)] [(0, (.t 70))]⟩, ⟨some 72, none, .append 1 1 (.t 67) (.t 71)⟩, ⟨some 7, none, .v (.mov (.t 72))⟩]) (.seq (.reg [⟨some 74, none, .v (.bin .eql (.t 61) (.c (.int .u8 110)))⟩, ⟨some 73, none, .v (.mov (.t 74))⟩]) (.cond (.t 73) (.reg [⟨some 75, none, .v (.mov (.t 7))⟩, ⟨some 76, none, .bslice 1 1 [(.int .u8 0)] [(0, (.c (.int .u8 10)))]⟩, ⟨some 77, none, .append 1 1 (.t 75) (.t 76)⟩, ⟨some 7, none, .v (.mov (.t 77))⟩]) (.seq (.reg [⟨some 62, none, .v (.build [(.int .i64 0), (.str []), (.int .i64 0), (.nils 2), (.int .i64 0)] [])⟩, ⟨none, none, .store 5 (.t 4) (.t 62)⟩, ⟨some 5, none, .v (.mov (.c (.int .i64 0)))⟩]) .ret))))))
def c_ref1_text_4 : SC := .seq (.seq (.reg [⟨some 54, none, .v (.mov (.t 8))⟩, ⟨some 55, none, .v (.mov (.t 0))⟩, ⟨some 56, none, .v (.len true (.t 55))⟩, ⟨some 57, none, .v (.bin .geq (.t 54) (.t 56))⟩]) (.cond (.t 57) (.seq (.reg [⟨some 58, none, .v (.build [(.int .i64 0), (.str []), (.int .i64 0), (.nils 2), (.int .i64 0)] [])⟩, ⟨none, none, .store 5 (.t 4) (.t 58)⟩, ⟨some 5, none, .v (.mov (.c (.int .i64 0)))⟩]) .ret) .skip)) c_ref1_text_3
def c_ref1_text_5 : SC := .seq (.reg [⟨some 110, none, .v (.mov (.t 6))⟩, ⟨some 111, none, .v (.mov (.t 0))⟩, ⟨some 112, none, .v (.mov (.t 8))⟩, ⟨some 113, none, .v (.bin .add (.t 112) (.c (.int .i64 2)))⟩, ⟨some 114, none, .v (.mov (.t 8))⟩, ⟨some 115, none, .v (.mov (.t 10))⟩, ⟨some 116, none, .v (.bin .add (.t 114) (.t 115))⟩, ⟨some 117, none, .v (.bin .sub (.t 116) (.c (.int .i64 1)))⟩, ⟨some 118, none, .v (.sls (.t 111) (some (.t 113)) (some (.t 117)))⟩, ⟨some 119, none, .v (.build [(.bool false), (.str [])] [(0, 1, (.c (.bool true))), (1, 1, (.t 118))])⟩, ⟨some 120, none, .bslice 2 1 [(.bool false), (.str [])] [(0, (.t 119))]⟩, ⟨some 121, none, .append 2 24 (.t 110) (.t 120)⟩, ⟨some 6, none, .v (.mov (.t 121))⟩]) (.reg [⟨some 122, none, .v (.mov (.t 8))⟩, ⟨some 123, none, .v (.mov (.t 10))⟩, ⟨some 124, none, .v (.bin .add (.t 122) (.t 123))⟩, ⟨some 125, none, .v (.bin .sub (.t 124) (.c (.int .i64 1)))⟩, ⟨some 8, none, .v (.mov (.t 125))⟩])
def c_ref1_text_6 : SC := .seq (.seq (.reg [⟨some 101, none, .v (.mov (.t 7))⟩, ⟨some 102, none, .v (.len false (.t 101))⟩, ⟨some 103, none, .v (.bin .gtr (.t 102) (.c (.int .i64 0)))⟩]) (.cond (.t 103) (.seq (.reg [⟨some 104, none, .v (.mov (.t 6))⟩, ⟨some 105, none, .v (.mov (.t 7))⟩, ⟨some 106, none, .v (.conv .bytes (.t 105))⟩, ⟨some 107, none, .v (.build [(.bool false), (.str [])] [(1, 1, (.t 106))])⟩, ⟨some 108, none, .bslice 2 1 [(.bool false), (.str [])] [(0, (.t 107))]⟩, ⟨some 109, none, .append 2 24 (.t 104) (.t 108)⟩, ⟨some 6, none, .v (.mov (.t 109))⟩]) (.reg [⟨some 7, none, .nilv 1⟩])) .skip)) c_ref1_text_5
def c_ref1_text_7 : SC := .seq (.seq (.reg [⟨some 98, none, .v (.mov (.t 10))⟩, ⟨some 99, none, .v (.bin .eql (.t 98) (.c (.int .i64 0)))⟩]) (.cond (.t 99) (.seq (.reg [⟨some 100, none, .v (.build [(.int .i64 0), (.str []), (.int .i64 0), (.nils 2), (.int .i64 0)] [])⟩, ⟨none, none, .store 5 (.t 4) (.t 100)⟩, ⟨some 5, none, .v (.mov (.c (.int .i64 0)))⟩]) .ret) .skip)) c_ref1_text_6
def c_ref1_text_8 : SC := .cond (.t 78) (.seq (.reg [⟨some 95, none, .v (.mov (.t 0))⟩, ⟨some 96, none, .v (.mov (.t 8))⟩, ⟨some 97, none, .call (.c (.func 154 [])) [(.t 95), (.t 96)]⟩, ⟨some 10, none, .v (.mov (.t 97))⟩]) c_ref1_text_7) (.reg [⟨some 22, none, .v (.mov (.t 7))⟩, ⟨some 23, none, .v (.mov (.t 9))⟩, ⟨some 24, none, .bslice 1 1 [(.int .u8 0)] [(0, (.t 23))]⟩, ⟨some 25, none, .append 1 1 (.t 22) (.t 24)⟩, ⟨some 7, none, .v (.mov (.t 25))⟩])
def c_ref1_text_9 : SC := .cond (.t 49) (.seq (.reg [⟨some 52, none, .v (.mov (.t 8))⟩, ⟨some 53, none, .v (.bin .add (.t 52) (.c (.int .i64 1)))⟩, ⟨some 8, none, .v (.mov (.t 53))⟩]) c_ref1_text_4) (.seq (.reg [⟨some 79, none, .v (.mov (.t 9))⟩, ⟨some 80, none, .v (.bin .eql (.t 79) (.c (.int .u8 36)))⟩, ⟨some 81, none, .v (.mov (.t 80))⟩, ⟨some 82, some (81, true), .v (.mov (.t 8))⟩, ⟨some 83, some (81, true), .v (.bin .add (.t 82) (.c (.int .i64 1)))⟩, ⟨some 84, some (81, true), .v (.mov (.t 0))⟩, ⟨some 85, some (81, true), .v (.len true (.t 84))⟩, ⟨some 86, some (81, true), .v (.bin .lss (.t 83) (.t 85))⟩, ⟨some 87, none, .v (.pick (.t 81) (.t 86) (.c (.bool false)))⟩, ⟨some 88, none, .v (.mov (.t 87))⟩, ⟨some 89, some (88, true), .v (.mov (.t 0))⟩, ⟨some 90, some (88, true), .v (.mov (.t 8))⟩, ⟨some 91, some (88, true), .v (.bin .add (.t 90) (.c (.int .i64 1)))⟩, ⟨some 92, some (88, true), .v (.istr (.t 89) (.t 91))⟩, ⟨some 93, some (88, true), .v (.bin .eql (.t 92) (.c (.int .u8 123)))⟩, ⟨some 94, none, .v (.pick (.t 88) (.t 93) (.c (.bool false)))⟩, ⟨some 78, none, .v (.mov (.t 94))⟩]) c_ref1_text_8)
def c_ref1_text_10 : SC := .cond (.t 45) (.seq (.reg [⟨some 48, none, .v (.build [(.int .i64 0), (.str []), (.int .i64 0), (.nils 2), (.int .i64 0)] [])⟩, ⟨none, none, .store 5 (.t 4) (.t 48)⟩, ⟨some 5, none, .v (.mov (.c (.int .i64 0)))⟩]) .ret) (.seq (.reg [⟨some 50, none, .v (.mov (.t 9))⟩, ⟨some 51, none, .v (.bin .eql (.t 50) (.c (.int .u8 92)))⟩, ⟨some 49, none, .v (.mov (.t 51))⟩]) c_ref1_text_9)
def c_ref1_text_11 : SC := .cond (.t 26) (.seq (.seq (.reg [⟨some 29, none, .v (.mov (.t 7))⟩, ⟨some 30, none, .v (.len false (.t 29))⟩, ⟨some 31, none, .v (.bin .gtr (.t 30) (.c (.int .i64 0)))⟩]) (.cond (.t 31) (.reg [⟨some 32, none, .v (.mov (.t 6))⟩, ⟨some 33, none, .v (.mov (.t 7))⟩, ⟨some 34, none, .v (.conv .bytes (.t 33))⟩, ⟨some 35, none, .v (.build [(.bool false), (.str [])] [(1, 1, (.t 34))])⟩, ⟨some 36, none, .bslice 2 1 [(.bool false), (.str [])] [(0, (.t 35))]⟩, ⟨some 37, none, .append 2 24 (.t 32) (.t 36)⟩, ⟨some 6, none, .v (.mov (.t 37))⟩]) .skip)) (.seq (.reg [⟨some 38, none, .v (.mov (.t 6))⟩, ⟨some 39, none, .v (.mov (.t 1))⟩, ⟨some 40, none, .v (.build [(.int .i64 0), (.str []), (.int .i64 0), (.nils 2), (.int .i64 0)] [(0, 1, (.c (.int .i64 2))), (3, 1, (.t 38)), (4, 1, (.t 39))])⟩, ⟨some 41, none, .v (.mov (.t 8))⟩, ⟨some 42, none, .v (.bin .add (.t 41) (.c (.int .i64 1)))⟩, ⟨some 43, none, .v (.mov (.t 1))⟩, ⟨some 44, none, .v (.bin .sub (.t 42) (.t 43))⟩, ⟨none, none, .store 5 (.t 4) (.t 40)⟩, ⟨some 5, none, .v (.mov (.t 44))⟩]) .ret)) (.seq (.reg [⟨some 46, none, .v (.mov (.t 9))⟩, ⟨some 47, none, .v (.bin .lss (.t 46) (.c (.int .u8 32)))⟩, ⟨some 45, none, .v (.mov (.t 47))⟩]) c_ref1_text_10)
def c_ref1_text_12 : SC := .block 2 (.seq (.reg [⟨some 27, none, .v (.mov (.t 9))⟩, ⟨some 28, none, .v (.bin .eql (.t 27) (.c (.int .u8 34)))⟩, ⟨some 26, none, .v (.mov (.t 28))⟩]) c_ref1_text_11)
def c_ref1_text_13 : SC := .seq (.block 1 (.seq (.reg [⟨some 19, none, .v (.mov (.t 0))⟩, ⟨some 20, none, .v (.mov (.t 8))⟩, ⟨some 21, none, .v (.istr (.t 19) (.t 20))⟩, ⟨some 9, none, .v (.mov (.t 21))⟩]) c_ref1_text_12)) c_ref1_text_2
def b_ref1_text_1 : SC := .seq (.seq (.reg [⟨some 13, none, .v (.mov (.t 8))⟩, ⟨some 14, none, .v (.mov (.t 0))⟩, ⟨some 15, none, .v (.len true (.t 14))⟩, ⟨some 16, none, .v (.bin .lss (.t 13) (.t 15))⟩]) (.cond (.t 16) .skip (.exit 0))) c_ref1_text_13
noncomputable def k_ref1_text_1 (SP : Prg) (x : EO) : CO := fin [(.cell 4 (some 5)), (.t 5)] (thC SP (inBlk 0 (x)) c_ref1_text_1)
def c_Q16_1 : SC := .seq (.reg [⟨some 23, none, .v (.mov (.t 3))⟩, ⟨some 24, none, .v (.bin .add (.c (.int .u64 48)) (.t 23))⟩, ⟨some 25, none, .v (.conv (.int .u8) (.t 24))⟩, ⟨some 26, none, .bslice 1 1 [(.int .u8 0)] [(0, (.t 25))]⟩, ⟨some 27, none, .v (.conv .bytes (.t 26))⟩, ⟨some 28, none, .v (.mov (.t 4))⟩, ⟨some 29, none, .v (.bin .add (.t 27) (.t 28))⟩, ⟨some 4, none, .v (.mov (.t 29))⟩]) (.seq (.seq (.reg [⟨some 30, none, .v (.mov (.t 0))⟩, ⟨some 31, none, .v (.bin .lss (.t 30) (.c (.int .i64 0)))⟩]) (.cond (.t 31) (.seq (.reg [⟨some 32, none, .v (.mov (.t 4))⟩, ⟨some 33, none, .v (.bin .add (.c (.str [45])) (.t 32))⟩, ⟨some 2, none, .v (.mov (.t 33))⟩]) .ret) .skip)) (.seq (.reg [⟨some 34, none, .v (.mov (.t 4))⟩, ⟨some 2, none, .v (.mov (.t 34))⟩]) .ret))
def b_Q16_1 : SC := .seq (.seq (.reg [⟨some 11, none, .v (.mov (.t 3))⟩, ⟨some 12, none, .v (.bin .geq (.t 11) (.c (.int .u64 10)))⟩]) (.cond (.t 12) .skip (.exit 0))) (.block 1 (.seq (.reg [⟨some 13, none, .v (.mov (.t 3))⟩, ⟨some 14, none, .v (.bin .rem (.t 13) (.c (.int .u64 10)))⟩, ⟨some 15, none, .v (.bin .add (.c (.int .u64 48)) (.t 14))⟩, ⟨some 16, none, .v (.conv (.int .u8) (.t 15))⟩, ⟨some 17, none, .bslice 1 1 [(.int .u8 0)] [(0, (.t 16))]⟩, ⟨some 18, none, .v (.conv .bytes (.t 17))⟩, ⟨some 19, none, .v (.mov (.t 4))⟩, ⟨some 20, none, .v (.bin .add (.t 18) (.t 19))⟩, ⟨some 4, none, .v (.mov (.t 20))⟩]) (.reg [⟨some 21, none, .v (.mov (.t 3))⟩, ⟨some 22, none, .v (.bin .quo (.t 21) (.c (.int .u64 10)))⟩, ⟨some 3, none, .v (.mov (.t 22))⟩])))
def c_Q16_2 : SC := .seq (.block 0 (.loop b_Q16_1)) c_Q16_1
def c_Q16_3 : SC := .seq (.seq (.reg [⟨some 7, none, .v (.mov (.t 0))⟩, ⟨some 8, none, .v (.bin .lss (.t 7) (.c (.int .i64 0)))⟩]) (.cond (.t 8) (.reg [⟨some 9, none, .v (.mov (.t 3))⟩, ⟨some 10, none, .v (.un .neg (.t 9))⟩, ⟨some 3, none, .v (.mov (.t 10))⟩]) .skip)) c_Q16_2
def c_Q16_4 : SC := .seq (.reg [⟨some 5, none, .v (.mov (.t 0))⟩, ⟨some 6, none, .v (.conv (.int .u64) (.t 5))⟩, ⟨some 3, none, .v (.mov (.t 6))⟩, ⟨some 4, none, .v (.mov (.c (.str [])))⟩]) c_Q16_3
def sc_Q16 : SFunc := ⟨1, 35, .seq (.reg [⟨some 2, none, .v (.mov (.c (.str [])))⟩]) c_Q16_4, [(.t 2)]⟩
noncomputable def k_Q16_1 (SP : Prg) (x : EO) : CO := fin [(.t 2)] (thC SP (inBlk 0 (x)) c_Q16_1)
theorem U_Q16 : type_of% (And.intro (ue c_Q16_1.eq_1) <| And.intro (ue b_Q16_1.eq_1) <| And.intro (ue c_Q16_2.eq_1) <| And.intro (ue c_Q16_3.eq_1) <| And.intro (ue c_Q16_4.eq_1) <| sc_Q16.eq_1) := And.intro (ue c_Q16_1.eq_1) <| And.intro (ue b_Q16_1.eq_1) <| And.intro (ue c_Q16_2.eq_1) <| And.intro (ue c_Q16_3.eq_1) <| And.intro (ue c_Q16_4.eq_1) <| sc_Q16.eq_1
theorem comp_Q16 : comp Tryz.prog Tryz.f16 = some sc_Q16 := by kernel_rfl
end Go.Proofs.YtfbcnpbhhooapaaGreatDoor.M
namespace Go.Proofs.YtfbcnpbhhooapaaGreatDoor.M
set_option linter.unusedSimpArgs false
set_option linter.unusedVariables false
open Go Classical
theorem sp_Q137 : SP 137 = some (.code sc_Q137) := SPof_code rfl Tryz.func137 comp_Q137
theorem Q137_tree (c : UInt8) (r : Int) (T :
  (((c.toNat : Int) = 32) →
  1 = r) ∧
 (¬ ((c.toNat : Int) = 32) →
  (((c.toNat : Int) = 10) →
   1 = r) ∧
  (¬ ((c.toNat : Int) = 10) →
   (((c.toNat : Int) = 95) →
    2 = r) ∧
   (¬ ((c.toNat : Int) = 95) →
    ((97 ≤ (c.toNat : Int)) →
     (((c.toNat : Int) ≤ 122) →
      2 = r) ∧
     (¬ ((c.toNat : Int) ≤ 122) →
      ((48 ≤ (c.toNat : Int)) →
       (((c.toNat : Int) ≤ 57) →
        3 = r) ∧
       (¬ ((c.toNat : Int) ≤ 57) →
        (((c.toNat : Int) = 34) →
         4 = r) ∧
        (¬ ((c.toNat : Int) = 34) →
         (((c.toNat : Int) = 35) →
          5 = r) ∧
         (¬ ((c.toNat : Int) = 35) →
          0 = r)))) ∧
      (¬ (48 ≤ (c.toNat : Int)) →
       (((c.toNat : Int) = 34) →
        4 = r) ∧
       (¬ ((c.toNat : Int) = 34) →
        (((c.toNat : Int) = 35) →
         5 = r) ∧
        (¬ ((c.toNat : Int) = 35) →
         0 = r))))) ∧
    (¬ (97 ≤ (c.toNat : Int)) →
     ((48 ≤ (c.toNat : Int)) →
      (((c.toNat : Int) ≤ 57) →
       3 = r) ∧
      (¬ ((c.toNat : Int) ≤ 57) →
       (((c.toNat : Int) = 34) →
        4 = r) ∧
       (¬ ((c.toNat : Int) = 34) →
        (((c.toNat : Int) = 35) →
         5 = r) ∧
        (¬ ((c.toNat : Int) = 35) →
         0 = r)))) ∧
     (¬ (48 ≤ (c.toNat : Int)) →
      (((c.toNat : Int) = 34) →
       4 = r) ∧
      (¬ ((c.toNat : Int) = 34) →
       (((c.toNat : Int) = 35) →
        5 = r) ∧
       (¬ ((c.toNat : Int) = 35) →
        0 = r)))))))) : R_Q137 c r := by
 intro S
 rw [call_code sp_Q137 _ _ rfl]
 have F := U_Q137
 by_cases c1 : (c.toNat : Int) = 32
 · replace T := T.1 c1
   obtain rfl := T
   exact fi (aa (eq_true c1) <| F)
 · replace T := T.2 c1
   replace F := aa (eq_false c1) <| F
   by_cases c2 : (c.toNat : Int) = 10
   · replace T := T.1 c2
     obtain rfl := T
     exact fi (aa (eq_true c2) <| F)
   · replace T := T.2 c2
     replace F := aa (eq_false c2) <| F
     by_cases c3 : (c.toNat : Int) = 95
     · replace T := T.1 c3
       obtain rfl := T
       exact fi (aa (eq_true c3) <| F)
     · replace T := T.2 c3
       replace F := aa (eq_false c3) <| F
       by_cases c4 : 97 ≤ (c.toNat : Int)
       · replace T := T.1 c4
         replace F := aa (eq_true c4) <| F
         by_cases c5 : (c.toNat : Int) ≤ 122
         · replace T := T.1 c5
           obtain rfl := T
           exact fi (aa (eq_true c5) <| F)
         · replace T := T.2 c5
           replace F := aa (eq_false c5) <| F
           by_cases c6 : 48 ≤ (c.toNat : Int)
           · replace T := T.1 c6
             replace F := aa (eq_true c6) <| F
             by_cases c7 : (c.toNat : Int) ≤ 57
             · replace T := T.1 c7
               obtain rfl := T
               exact fi (aa (eq_true c7) <| F)
             · replace T := T.2 c7
               replace F := aa (eq_false c7) <| F
               by_cases c8 : (c.toNat : Int) = 34
               · replace T := T.1 c8
                 obtain rfl := T
                 exact fi (aa (eq_true c8) <| F)
               · replace T := T.2 c8
                 replace F := aa (eq_false c8) <| F
                 by_cases c9 : (c.toNat : Int) = 35
                 · replace T := T.1 c9
                   obtain rfl := T
                   exact fi (aa (eq_true c9) <| F)
                 · replace T := T.2 c9
                   obtain rfl := T
                   exact fi (aa (eq_false c9) <| F)
           · replace T := T.2 c6
             replace F := aa (eq_false c6) <| F
             by_cases c10 : (c.toNat : Int) = 34
             · replace T := T.1 c10
               obtain rfl := T
               exact fi (aa (eq_true c10) <| F)
             · replace T := T.2 c10
               replace F := aa (eq_false c10) <| F
               by_cases c11 : (c.toNat : Int) = 35
               · replace T := T.1 c11
                 obtain rfl := T
                 exact fi (aa (eq_true c11) <| F)
               · replace T := T.2 c11
                 obtain rfl := T
                 exact fi (aa (eq_false c11) <| F)
       · replace T := T.2 c4
         replace F := aa (eq_false c4) <| F
         by_cases c12 : 48 ≤ (c.toNat : Int)
         · replace T := T.1 c12
           replace F := aa (eq_true c12) <| F
           by_cases c13 : (c.toNat : Int) ≤ 57
           · replace T := T.1 c13
             obtain rfl := T
             exact fi (aa (eq_true c13) <| F)
           · replace T := T.2 c13
             replace F := aa (eq_false c13) <| F
             by_cases c14 : (c.toNat : Int) = 34
             · replace T := T.1 c14
               obtain rfl := T
               exact fi (aa (eq_true c14) <| F)
             · replace T := T.2 c14
               replace F := aa (eq_false c14) <| F
               by_cases c15 : (c.toNat : Int) = 35
               · replace T := T.1 c15
                 obtain rfl := T
                 exact fi (aa (eq_true c15) <| F)
               · replace T := T.2 c15
                 obtain rfl := T
                 exact fi (aa (eq_false c15) <| F)
         · replace T := T.2 c12
           replace F := aa (eq_false c12) <| F
           by_cases c16 : (c.toNat : Int) = 34
           · replace T := T.1 c16
             obtain rfl := T
             exact fi (aa (eq_true c16) <| F)
           · replace T := T.2 c16
             replace F := aa (eq_false c16) <| F
             by_cases c17 : (c.toNat : Int) = 35
             · replace T := T.1 c17
               obtain rfl := T
               exact fi (aa (eq_true c17) <| F)
             · replace T := T.2 c17
               obtain rfl := T
               exact fi (aa (eq_false c17) <| F)
theorem sp_Q151 : SP 151 = some (.code sc_Q151) := SPof_code rfl Tryz.func151 comp_Q151
def At_Q151_1 (s : List UInt8) (classes : List Int) (i1 : Int) (r : Int) : Prop := ∀ (S : Sto) (e : Nat → PV) (f : Fr), e 0 = .str s ∧ e 1 = .list 1 (classes.map eI) false ∧ e 7 = .int .i64 (s.length : Int) ∧ e 8 = .int .i64 i1 → k_Q151_1 SP (E SP (.loop b_Q151_1) ⟨e, f :: S⟩) = .ok (.v (.int .i64 r)) S
theorem At_Q151_1_step (s : List UInt8) (classes : List Int) (i1 : Int) (r : Int) (T :
  ((i1 < (s.length : Int)) →
  (0 ≤ i1) ∧
  ∃ (b2 : UInt8), (s[i1.toNat]? = some b2) ∧
  ∃ (r3 : Int), (R_Q137 b2 r3) ∧
  ∃ (r4 : Bool), (R_slices_Contains_int_int classes r3 r4) ∧
  ((r4 = true) →
   (I64 (i1 + 1)) ∧
   At_Q151_1 s classes (i1 + 1) r) ∧
  (¬ (r4 = true) →
   i1 = r)) ∧
 (¬ (i1 < (s.length : Int)) →
  (s.length : Int) = r)) : At_Q151_1 s classes i1 r := by
 intro S e f h
 unfold k_Q151_1
 rw [E_loop]
 have F := U_Q151
 replace F := aa h <| F
 by_cases c1 : i1 < (s.length : Int)
 · replace T := T.1 c1
   obtain ⟨p2, b2, q3, r3, q4, r4, q5, T⟩ := T
   simp only [R_Q137, le, List.cons_append, List.nil_append] at q4
   simp only [R_slices_Contains_int_int, le, List.cons_append, List.nil_append] at q5
   replace F := aa (eq_true c1) <| aa p2 <| aa q3 <| aa q4 <| aa q5 <| F
   by_cases c6 : r4 = true
   · replace T := T.1 c6
     obtain ⟨p7, T⟩ := T
     replace F := aa c6 <| aa p7.wrap <| F
     exact lo F T
   · replace T := T.2 c6
     replace c6 := Bool.eq_false_iff.2 c6
     obtain rfl := T
     exact fi (aa c6 <| F)
 · replace T := T.2 c1
   obtain rfl := T
   exact fi (aa (eq_false c1) <| F)
theorem Q151_tree (s : List UInt8) (classes : List Int) (r : Int) (T :
  At_Q151_1 s classes 0 r) : R_Q151 s classes r := by
 intro S
 rw [call_code sp_Q151 _ _ rfl]
 have F := U_Q151
 exact lo F T
theorem sp_Q135 : SP 135 = some (.code sc_Q135) := SPof_code rfl Tryz.func135 comp_Q135
theorem Q135_tree (t : LText) (n : Int) (r : List UInt8) (t' : LText) (T :
  (0 ≤ n) ∧ (n.toNat ≤ t.left.length) ∧
 (0 ≤ n) ∧ (n.toNat ≤ t.left.length) ∧
 (I64 (t.pos + n)) ∧
 (t.left.take (n.toNat)) = r ∧ (LText.mk ((t.left.drop n.toNat).take (t.left.length - n.toNat)) (t.pos + n)) = t') : R_Q135 t n r t' := by
 intro S n0 t0 H0
 have hb0 := H0
 obtain ⟨w0, hB0⟩ := take_some hb0
 have hn0 := o_getBox_lt hB0
 rw [call_code sp_Q135 _ _ rfl]
 have F := U_Q135
 obtain ⟨p1, p2, p3, p4, p5, rfl, rfl⟩ := T
 exact fi (aa hB0 <| aa hn0 <| aa p1 <| aa p2 <| aa p3 <| aa p4 <| aa p5.wrap <| F)
theorem sp_Q134 : SP 134 = some (.code sc_Q134) := SPof_code rfl Tryz.func134 comp_Q134
theorem Q134_tree (t : LText) (classes : List Int) (r : List UInt8) (t' : LText) (T :
  ∃ (r1 : Int), (R_Q151 t.left classes r1) ∧
 ∃ (r2 : List UInt8) (y3 : LText), (R_Q135 t r1 r2 y3) ∧
 r2 = r ∧ y3 = t') : R_Q134 t classes r t' := by
 intro S n0 t0 H0
 have hb0 := H0
 obtain ⟨w0, hB0⟩ := take_some hb0
 have hn0 := o_getBox_lt hB0
 rw [call_code sp_Q134 _ _ rfl]
 have F := U_Q134
 obtain ⟨r1, q1, r2, y3, q2, rfl, rfl⟩ := T
 simp only [R_Q151, le, List.cons_append, List.nil_append] at q1
 simp only [R_Q135, le, List.cons_append, List.nil_append] at q2
 exact fi (aa hB0 <| aa hn0 <| aa q1 <| aa q2 <| F)
theorem sp_Q165 : SP 165 = some (.code sc_Q165) := SPof_code rfl Tryz.func165 comp_Q165
theorem Q165_tree (p : List Part) (p_g0 : Nat) (p_z0 : Bool) (c : UInt8) (p' : List Part) (p'_g0 : Nat) (p'_z0 : Bool) (T :
  (((p.length : Int) = 0) →
  (bigRow (p.length + 1) 24) ∧
  (I64 ((p.length : Int) + 1)) ∧
  (I64 (((p.length : Int) + 1) - 1)) ∧
  (0 ≤ (((p.length : Int) + 1) - 1)) ∧ ((((p.length : Int) + 1) - 1).toNat < p.length + 1) ∧
  ∃ (v1 : Part), ((p ++ [(Part.mk false [])])[(((p.length : Int) + 1) - 1).toNat]? = some v1) ∧
  (v1.Text.length + 1 ≤ maxInt) ∧
  (0 ≤ (((p.length : Int) + 1) - 1)) ∧ ((((p.length : Int) + 1) - 1).toNat < p.length + 1) ∧
  (p_z0 = false) ∧
  ((p ++ [(Part.mk false [])]).set ((((p.length : Int) + 1) - 1).toNat) (Part.mk v1.Ref (v1.Text ++ [c]))) = p' ∧ p_g0 = p'_g0 ∧ p_z0 = p'_z0) ∧
 (¬ ((p.length : Int) = 0) →
  (I64 ((p.length : Int) - 1)) ∧
  (0 ≤ ((p.length : Int) - 1)) ∧ (((p.length : Int) - 1).toNat < p.length) ∧
  ∃ (v2 : Part), (p[((p.length : Int) - 1).toNat]? = some v2) ∧
  ((v2.Ref = true) →
   (bigRow (p.length + 1) 24) ∧
   (I64 ((p.length : Int) + 1)) ∧
   (I64 (((p.length : Int) + 1) - 1)) ∧
   (0 ≤ (((p.length : Int) + 1) - 1)) ∧ ((((p.length : Int) + 1) - 1).toNat < p.length + 1) ∧
   ∃ (v3 : Part), ((p ++ [(Part.mk false [])])[(((p.length : Int) + 1) - 1).toNat]? = some v3) ∧
   (v3.Text.length + 1 ≤ maxInt) ∧
   (0 ≤ (((p.length : Int) + 1) - 1)) ∧ ((((p.length : Int) + 1) - 1).toNat < p.length + 1) ∧
   (p_z0 = false) ∧
   ((p ++ [(Part.mk false [])]).set ((((p.length : Int) + 1) - 1).toNat) (Part.mk v3.Ref (v3.Text ++ [c]))) = p' ∧ p_g0 = p'_g0 ∧ p_z0 = p'_z0) ∧
  (¬ (v2.Ref = true) →
   (I64 ((p.length : Int) - 1)) ∧
   (0 ≤ ((p.length : Int) - 1)) ∧ (((p.length : Int) - 1).toNat < p.length) ∧
   (v2.Text.length + 1 ≤ maxInt) ∧
   (0 ≤ ((p.length : Int) - 1)) ∧ (((p.length : Int) - 1).toNat < p.length) ∧
   (p_z0 = false) ∧
   (p.set (((p.length : Int) - 1).toNat) (Part.mk v2.Ref (v2.Text ++ [c]))) = p' ∧ p_g0 = p'_g0 ∧ p_z0 = p'_z0))) : R_Q165 p p_g0 p_z0 c p' p'_g0 p'_z0 := by
 intro S n0 t0 H0
 obtain ⟨hb0, ha0⟩ := H0
 obtain ⟨w0, hB0⟩ := take_some hb0
 have hn0 := o_getBox_lt hB0
 rw [call_code sp_Q165 _ _ rfl]
 have F := U_Q165
 replace F := aa ha0 <| aa hB0 <| aa hn0 <| F
 by_cases c1 : (p.length : Int) = 0
 · replace T := T.1 c1
   obtain ⟨p2, p3, p4, p5, p6, v1, q7, p8, p9, p10, p11, rfl, rfl, rfl⟩ := T
   simp only [bigRow] at p2
   replace q7 := congrArg (Option.map ePart) q7
   rw [← List.getElem?_map] at q7
   simp only [le, List.map_append, Option.map_some] at q7
   exact fi (aa (eq_true c1) <| aa p2 <| aa p3.wrap <| aa p4.wrap <| aa p5 <| aa p6 <| aa q7 <| aa p8 <| aa p9 <| aa p10 <| aa p11 <| F)
 · replace T := T.2 c1
   obtain ⟨p12, p13, p14, v2, q15, T⟩ := T
   replace F := aa (eq_false c1) <| aa p12.wrap <| aa p13 <| aa p14 <| aa q15 <| F
   by_cases c16 : v2.Ref = true
   · replace T := T.1 c16
     obtain ⟨p17, p18, p19, p20, p21, v3, q22, p23, p24, p25, p26, rfl, rfl, rfl⟩ := T
     simp only [bigRow] at p17
     replace q22 := congrArg (Option.map ePart) q22
     rw [← List.getElem?_map] at q22
     simp only [le, List.map_append, Option.map_some] at q22
     exact fi (aa c16 <| aa p17 <| aa p18.wrap <| aa p19.wrap <| aa p20 <| aa p21 <| aa q22 <| aa p23 <| aa p24 <| aa p25 <| aa p26 <| F)
   · replace T := T.2 c16
     replace c16 := Bool.eq_false_iff.2 c16
     obtain ⟨p27, p28, p29, p30, p31, p32, p33, rfl, rfl, rfl⟩ := T
     exact fi (aa c16 <| aa p27.wrap <| aa p28 <| aa p29 <| aa p30 <| aa p31 <| aa p32 <| aa p33 <| F)
theorem sp_Q164 : SP 164 = some (.code sc_Q164) := SPof_code rfl Tryz.func164 comp_Q164
theorem Q164_tree (s : List UInt8) (ra : UInt8) (rb : Bool) (T :
  (((s.length : Int) < 2) →
  (0 : UInt8) = ra ∧ false = rb) ∧
 (¬ ((s.length : Int) < 2) →
  ∃ (b1 : UInt8), (s[1]? = some b1) ∧
  ∃ (r2 : Int), (R_strings_IndexByte [34, 92, 36, 110] b1 r2) ∧
  ((r2 < 0) →
   (0 : UInt8) = ra ∧ false = rb) ∧
  (¬ (r2 < 0) →
   (0 ≤ r2) ∧
   ∃ (b3 : UInt8), ([34, 92, 36, 10][r2.toNat]? = some b3) ∧
   b3 = ra ∧ true = rb))) : R_Q164 s ra rb := by
 intro S
 rw [call_code sp_Q164 _ _ rfl]
 have F := U_Q164
 by_cases c1 : (s.length : Int) < 2
 · replace T := T.1 c1
   obtain ⟨rfl, rfl⟩ := T
   exact fi (aa (eq_true c1) <| F)
 · replace T := T.2 c1
   obtain ⟨b1, q2, r2, q3, T⟩ := T
   simp only [R_strings_IndexByte, le, List.cons_append, List.nil_append] at q3
   replace F := aa (eq_false c1) <| aa q2 <| aa q3 <| F
   by_cases c4 : r2 < 0
   · replace T := T.1 c4
     obtain ⟨rfl, rfl⟩ := T
     exact fi (aa (eq_true c4) <| F)
   · replace T := T.2 c4
     obtain ⟨p5, b3, q6, rfl, rfl⟩ := T
     exact fi (aa (eq_false c4) <| aa p5 <| aa q6 <| F)
theorem sp_Q166 : SP 166 = some (.code sc_Q166) := SPof_code rfl Tryz.func166 comp_Q166
theorem Q166_tree (s : List UInt8) (ra : List UInt8) (rb : Bool) (T :
  (2 ≤ s.length) ∧
 ∃ (r1 : List UInt8) (r2 : List UInt8) (r3 : Bool), (R_strings_Cut ((s.drop 2).take (s.length - 2)) [125] r1 r2 r3) ∧
 ∃ (r4 : List UInt8) (r5 : List UInt8) (r6 : Bool), (R_strings_Cut r1 [46] r4 r5 r6) ∧
 ((r3 = true) →
  ((r6 = true) →
   ∃ (r7 : Bool), (R_Q115 r4 r7) ∧
   ((r7 = true) →
    ∃ (r8 : Bool), (R_Q115 r5 r8) ∧
    r1 = ra ∧ r8 = rb) ∧
   (¬ (r7 = true) →
    r1 = ra ∧ false = rb)) ∧
  (¬ (r6 = true) →
   r1 = ra ∧ false = rb)) ∧
 (¬ (r3 = true) →
  r1 = ra ∧ false = rb)) : R_Q166 s ra rb := by
 intro S
 rw [call_code sp_Q166 _ _ rfl]
 have F := U_Q166
 obtain ⟨p1, r1, r2, r3, q2, r4, r5, r6, q3, T⟩ := T
 simp only [R_strings_Cut, le, List.cons_append, List.nil_append] at q2
 simp only [R_strings_Cut, le, List.cons_append, List.nil_append] at q3
 replace F := aa p1 <| aa q2 <| aa q3 <| F
 by_cases c4 : r3 = true
 · replace T := T.1 c4
   replace F := aa c4 <| F
   by_cases c5 : r6 = true
   · replace T := T.1 c5
     obtain ⟨r7, q6, T⟩ := T
     simp only [R_Q115, le, List.cons_append, List.nil_append] at q6
     replace F := aa c5 <| aa q6 <| F
     by_cases c7 : r7 = true
     · replace T := T.1 c7
       obtain ⟨r8, q8, rfl, rfl⟩ := T
       simp only [R_Q115, le, List.cons_append, List.nil_append] at q8
       exact fi (aa c7 <| aa q8 <| F)
     · replace T := T.2 c7
       replace c7 := Bool.eq_false_iff.2 c7
       obtain ⟨rfl, rfl⟩ := T
       exact fi (aa c7 <| F)
   · replace T := T.2 c5
     replace c5 := Bool.eq_false_iff.2 c5
     obtain ⟨rfl, rfl⟩ := T
     exact fi (aa c5 <| F)
 · replace T := T.2 c4
   replace c4 := Bool.eq_false_iff.2 c4
   obtain ⟨rfl, rfl⟩ := T
   exact fi (aa c4 <| F)
theorem sp_Q115 : SP 115 = some (.code sc_Q115) := SPof_code rfl Tryz.func115 comp_Q115
theorem Q115_tree (s : List UInt8) (r : Bool) (T :
  ((s = []) →
  false = r) ∧
 (¬ (s = []) →
  (((s.length : Int) ≤ 24) →
   ∃ (b1 : UInt8), (s[0]? = some b1) ∧
   ∃ (r2 : Int), (R_Q137 b1 r2) ∧
   ((r2 = 2) →
    ∃ (r3 : Int), (R_Q151 s [2, 3] r3) ∧
    (decide (r3 = (s.length : Int))) = r) ∧
   (¬ (r2 = 2) →
    false = r)) ∧
  (¬ ((s.length : Int) ≤ 24) →
   false = r))) : R_Q115 s r := by
 intro S
 rw [call_code sp_Q115 _ _ rfl]
 have F := U_Q115
 by_cases c1 : s = []
 · replace T := T.1 c1
   obtain rfl := T
   exact fi (aa (eq_true c1) <| F)
 · replace T := T.2 c1
   replace F := aa (eq_false c1) <| F
   by_cases c2 : (s.length : Int) ≤ 24
   · replace T := T.1 c2
     obtain ⟨b1, q3, r2, q4, T⟩ := T
     simp only [R_Q137, le, List.cons_append, List.nil_append] at q4
     replace F := aa (eq_true c2) <| aa q3 <| aa q4 <| F
     by_cases c5 : r2 = 2
     · replace T := T.1 c5
       obtain ⟨r3, q6, rfl⟩ := T
       simp only [R_Q151, le, List.cons_append, List.nil_append] at q6
       exact fi (aa (eq_true c5) <| aa q6 <| F)
     · replace T := T.2 c5
       obtain rfl := T
       exact fi (aa (eq_false c5) <| F)
   · replace T := T.2 c2
     obtain rfl := T
     exact fi (aa (eq_false c2) <| F)
def At_ref1_text_1 (s : List UInt8) (i : Int) (i1 : Int) (i2 : Int) (s3 : List UInt8) (i4 : Int) (i5 : Int) (l6 : List Part) (g7 : Nat) (l8 : List Part) (l9 : List UInt8) (ra : Token) (rb : Int) : Prop := ∀ (S : Sto) (e : Nat → PV) (f : Fr), e 0 = .str s ∧ e 1 = .int .i64 i ∧ e 4 = .ptr 0 4 0 ∧ e 6 = .sl 0 (.slot 6) 0 l8.length l8.length 0 false ∧ e 7 = .sl 0 (.slot 7) 0 l9.length l9.length 0 false ∧ e 8 = .int .i64 i1 ∧ f.box 4 = some [.int .i64 i2, .str s3, .int .i64 i4, .sl 0 (.cell 4 3) 0 l6.length l6.length g7 false, .int .i64 i5] ∧ f.arr (.cell 4 3) = some ⟨2, l6.map ePart, false, g7⟩ ∧ f.arr (.slot 6) = some ⟨2, l8.map ePart, false, 0⟩ ∧ f.arr (.slot 7) = some ⟨1, l9.map eB, false, 0⟩ → k_ref1_text_1 SP (E SP (.loop b_ref1_text_1) ⟨e, f :: S⟩) = .ok (.v (.tup [.agg [.int .i64 ra.Kind, .str ra.Text, .int .i64 ra.Num, .list 2 (ra.Parts.map ePart) false, .int .i64 ra.At], .int .i64 rb])) S
theorem sp_Q16 : SP 16 = some (.code sc_Q16) := SPof_code rfl Tryz.func16 comp_Q16
def At_Q16_1 (n : Int) (i1 : Int) (s2 : List UInt8) (r : List UInt8) : Prop := ∀ (S : Sto) (e : Nat → PV) (f : Fr), e 0 = .int .i64 n ∧ e 3 = .int .u64 i1 ∧ e 4 = .str s2 → k_Q16_1 SP (E SP (.loop b_Q16_1) ⟨e, f :: S⟩) = .ok (.v (.str r)) S
theorem At_Q16_1_step (n : Int) (i1 : Int) (s2 : List UInt8) (r : List UInt8) (T :
  ((10 ≤ i1) →
  (U64 (48 + (i1.tmod 10))) ∧
  (U8 ((48 + (i1.tmod 10)))) ∧
  (1 + s2.length ≤ maxInt) ∧
  (U64 (i1.tdiv 10)) ∧
  At_Q16_1 n (i1.tdiv 10) ([(UInt8.ofNat ((48 + (i1.tmod 10))).toNat)] ++ s2) r) ∧
 (¬ (10 ≤ i1) →
  (U64 (48 + i1)) ∧
  (U8 ((48 + i1))) ∧
  (1 + s2.length ≤ maxInt) ∧
  ((n < 0) →
   (1 + (s2.length + 1) ≤ maxInt) ∧
   ([45] ++ ([(UInt8.ofNat ((48 + i1)).toNat)] ++ s2)) = r) ∧
  (¬ (n < 0) →
   ([(UInt8.ofNat ((48 + i1)).toNat)] ++ s2) = r))) : At_Q16_1 n i1 s2 r := by
 intro S e f h
 unfold k_Q16_1
 rw [E_loop]
 have F := U_Q16
 replace F := aa h <| F
 by_cases c1 : 10 ≤ i1
 · replace T := T.1 c1
   obtain ⟨p2, p3, p4, p5, T⟩ := T
   replace F := aa (eq_true c1) <| aa p2.wrap <| aa p3.wrap <| aa p4 <| aa p5.wrap <| F
   exact lo F T
 · replace T := T.2 c1
   obtain ⟨p6, p7, p8, T⟩ := T
   replace F := aa (eq_false c1) <| aa p6.wrap <| aa p7.wrap <| aa p8 <| F
   by_cases c9 : n < 0
   · replace T := T.1 c9
     obtain ⟨p10, rfl⟩ := T
     exact fi (aa (eq_true c9) <| aa p10 <| F)
   · replace T := T.2 c9
     obtain rfl := T
     exact fi (aa (eq_false c9) <| F)
theorem Q16_tree (n : Int) (r : List UInt8) (T :
  ((n < 0) →
  At_Q16_1 n (IntKind.u64.wrap (0 - (IntKind.u64.wrap n))) [] r) ∧
 (¬ (n < 0) →
  At_Q16_1 n (IntKind.u64.wrap n) [] r)) : R_Q16 n r := by
 intro S
 rw [call_code sp_Q16 _ _ rfl]
 have F := U_Q16
 by_cases c1 : n < 0
 · replace T := T.1 c1
   replace F := aa (eq_true c1) <| F
   exact lo F T
 · replace T := T.2 c1
   replace F := aa (eq_false c1) <| F
   exact lo F T
end Go.Proofs.YtfbcnpbhhooapaaGreatDoor.M
namespace Go.Proofs.YtfbcnpbhhooapaaGreatDoor.M
open Go
set_option linter.unusedVariables false
def c_Q97_1 : SC := .block 1 (.seq (.reg [⟨some 17, none, .v (.mov (.t 0))⟩, ⟨some 18, none, .v (.nchk (.t 17))⟩, ⟨some 19, none, .v (.faddr 0 (.t 18))⟩, ⟨some 20, none, .v (.faddr 0 (.t 19))⟩, ⟨some 21, none, .v (.load none (.t 20))⟩, ⟨some 22, none, .call (.c (.func 112 [])) [(.t 21), (.c (.str [10]))]⟩, ⟨some 16, none, .v (.mov (.t 22))⟩, ⟨some 23, none, .v (.extract 0 (.t 16))⟩, ⟨some 24, none, .v (.extract 1 (.t 16))⟩, ⟨some 25, none, .v (.extract 2 (.t 16))⟩, ⟨some 2, none, .v (.mov (.t 23))⟩, ⟨some 3, none, .v (.mov (.t 24))⟩, ⟨some 4, none, .v (.mov (.t 25))⟩]) (.seq (.reg [⟨some 26, none, .v (.mov (.t 0))⟩, ⟨some 27, none, .v (.nchk (.t 26))⟩, ⟨some 28, none, .v (.faddr 0 (.t 27))⟩, ⟨some 29, none, .v (.mov (.t 2))⟩, ⟨some 30, none, .v (.len true (.t 29))⟩, ⟨some 31, none, .call (.c (.func 135 [])) [(.t 28), (.t 30)]⟩]) (.reg [⟨some 32, none, .v (.mov (.t 0))⟩, ⟨some 33, none, .v (.nchk (.t 32))⟩, ⟨some 34, none, .v (.faddr 0 (.t 33))⟩, ⟨some 35, none, .bslice 1 1 [(.int .i64 0)] [(0, (.c (.int .i64 1)))]⟩, ⟨some 36, none, .call (.c (.func 134 [])) [(.t 34), (.t 35)]⟩])))
def b_Q97_1 : SC := .seq (.seq (.reg [⟨some 10, none, .v (.mov (.t 0))⟩, ⟨some 11, none, .v (.nchk (.t 10))⟩, ⟨some 12, none, .v (.faddr 0 (.t 11))⟩, ⟨some 13, none, .v (.faddr 0 (.t 12))⟩, ⟨some 14, none, .v (.load none (.t 13))⟩, ⟨some 15, none, .call (.c (.func 129 [])) [(.t 14), (.c (.str [35]))]⟩]) (.cond (.t 15) .skip (.exit 0))) c_Q97_1
def c_Q97_2 : SC := .block 0 (.loop b_Q97_1)
def sc_Q97 : SFunc := ⟨1, 37, .seq (.reg [⟨some 5, none, .v (.mov (.t 0))⟩, ⟨some 6, none, .v (.nchk (.t 5))⟩, ⟨some 7, none, .v (.faddr 0 (.t 6))⟩, ⟨some 8, none, .bslice 1 1 [(.int .i64 0)] [(0, (.c (.int .i64 1)))]⟩, ⟨some 9, none, .call (.c (.func 134 [])) [(.t 7), (.t 8)]⟩]) c_Q97_2, []⟩
noncomputable def k_Q97_1 (SP : Prg) (x : EO) : CO := fin [] (inBlk 0 (x))
theorem U_Q97 : type_of% (And.intro (ue c_Q97_1.eq_1) <| And.intro (ue b_Q97_1.eq_1) <| And.intro (ue c_Q97_2.eq_1) <| sc_Q97.eq_1) := And.intro (ue c_Q97_1.eq_1) <| And.intro (ue b_Q97_1.eq_1) <| And.intro (ue c_Q97_2.eq_1) <| sc_Q97.eq_1
theorem comp_Q97 : comp Tryz.prog Tryz.f97 = some sc_Q97 := by kernel_rfl
def sc_Q138 : SFunc := ⟨1, 14, .seq (.reg [⟨some 2, none, .alloc [(.int .i64 0), (.str []), (.int .i64 0), (.nils 2), (.int .i64 0)]⟩, ⟨some 3, none, .v (.mov (.c (.bool false)))⟩]) (.seq (.reg [⟨some 5, none, .v (.mov (.t 0))⟩, ⟨some 6, none, .v (.nchk (.t 5))⟩, ⟨some 7, none, .v (.faddr 0 (.t 6))⟩, ⟨some 8, none, .bslice 1 2 [(.int .i64 0)] [(0, (.c (.int .i64 2))), (1, (.c (.int .i64 3)))]⟩, ⟨some 9, none, .call (.c (.func 134 [])) [(.t 7), (.t 8)]⟩, ⟨some 4, none, .v (.mov (.t 9))⟩]) (.seq (.reg [⟨some 10, none, .v (.mov (.t 4))⟩, ⟨some 11, none, .v (.build [(.int .i64 0), (.str []), (.int .i64 0), (.nils 2), (.int .i64 0)] [(0, 1, (.c (.int .i64 3))), (1, 1, (.t 10))])⟩, ⟨some 12, none, .v (.mov (.t 4))⟩, ⟨some 13, none, .call (.c (.func 115 [])) [(.t 12)]⟩, ⟨none, none, .store 5 (.t 2) (.t 11)⟩, ⟨some 3, none, .v (.mov (.t 13))⟩]) .ret)), [(.cell 2 (some 5)), (.t 3)]⟩
theorem U_Q138 : type_of% (sc_Q138.eq_1) := sc_Q138.eq_1
theorem comp_Q138 : comp Tryz.prog Tryz.f138 = some sc_Q138 := by kernel_rfl
def c_Q139_1 : SC := .seq (.reg [⟨some 7, none, .v (.mov (.t 0))⟩, ⟨some 8, none, .v (.nchk (.t 7))⟩, ⟨some 9, none, .v (.faddr 0 (.t 8))⟩, ⟨some 10, none, .bslice 1 1 [(.int .i64 0)] [(0, (.c (.int .i64 3)))]⟩, ⟨some 11, none, .call (.c (.func 134 [])) [(.t 9), (.t 10)]⟩, ⟨some 4, none, .v (.mov (.t 11))⟩]) (.seq (.reg [⟨some 13, none, .v (.mov (.t 4))⟩, ⟨some 14, none, .call (.c (.func 163 [])) [(.t 13)]⟩, ⟨some 12, none, .v (.mov (.t 14))⟩, ⟨some 15, none, .v (.extract 0 (.t 12))⟩, ⟨some 16, none, .v (.extract 1 (.t 12))⟩, ⟨some 5, none, .v (.mov (.t 15))⟩, ⟨some 6, none, .v (.mov (.t 16))⟩]) (.seq (.reg [⟨some 17, none, .v (.mov (.t 5))⟩, ⟨some 18, none, .v (.build [(.int .i64 0), (.str []), (.int .i64 0), (.nils 2), (.int .i64 0)] [(0, 1, (.c (.int .i64 1))), (2, 1, (.t 17))])⟩, ⟨some 19, none, .v (.mov (.t 6))⟩, ⟨some 20, none, .v (.isnile false (.t 19))⟩, ⟨some 21, none, .v (.mov (.t 20))⟩, ⟨some 22, some (21, true), .v (.mov (.t 5))⟩, ⟨some 23, some (21, true), .call (.c (.func 106 [])) [(.t 22)]⟩, ⟨some 24, some (21, true), .v (.mov (.t 4))⟩, ⟨some 25, some (21, true), .v (.bin .eql (.t 23) (.t 24))⟩, ⟨some 26, none, .v (.pick (.t 21) (.t 25) (.c (.bool false)))⟩, ⟨none, none, .store 5 (.t 2) (.t 18)⟩, ⟨some 3, none, .v (.mov (.t 26))⟩]) .ret))
def sc_Q139 : SFunc := ⟨1, 27, .seq (.reg [⟨some 2, none, .alloc [(.int .i64 0), (.str []), (.int .i64 0), (.nils 2), (.int .i64 0)]⟩, ⟨some 3, none, .v (.mov (.c (.bool false)))⟩]) c_Q139_1, [(.cell 2 (some 5)), (.t 3)]⟩
theorem U_Q139 : type_of% (And.intro (ue c_Q139_1.eq_1) <| sc_Q139.eq_1) := And.intro (ue c_Q139_1.eq_1) <| sc_Q139.eq_1
theorem comp_Q139 : comp Tryz.prog Tryz.f139 = some sc_Q139 := by kernel_rfl
def c_Q140_1 : SC := .seq (.reg [⟨some 98, none, .v (.build [(.int .i64 0), (.str []), (.int .i64 0), (.nils 2), (.int .i64 0)] [])⟩, ⟨none, none, .store 5 (.t 2) (.t 98)⟩, ⟨some 3, none, .v (.mov (.c (.bool false)))⟩]) .ret
def c_Q140_2 : SC := .seq (.seq (.reg [⟨some 83, none, .v (.mov (.t 9))⟩, ⟨some 84, none, .v (.un .not (.t 83))⟩]) (.cond (.t 84) (.seq (.reg [⟨some 85, none, .v (.build [(.int .i64 0), (.str []), (.int .i64 0), (.nils 2), (.int .i64 0)] [])⟩, ⟨none, none, .store 5 (.t 2) (.t 85)⟩, ⟨some 3, none, .v (.mov (.c (.bool false)))⟩]) .ret) .skip)) (.seq (.reg [⟨some 86, none, .v (.load none (.t 4))⟩, ⟨some 87, none, .v (.mov (.t 8))⟩, ⟨some 88, none, .v (.build [(.bool false), (.str [])] [(0, 1, (.c (.bool true))), (1, 1, (.t 87))])⟩, ⟨some 89, none, .bslice 2 1 [(.bool false), (.str [])] [(0, (.t 88))]⟩, ⟨some 90, none, .append 2 24 (.t 86) (.t 89)⟩, ⟨none, none, .store 1 (.t 4) (.t 90)⟩]) (.reg [⟨some 91, none, .v (.mov (.t 0))⟩, ⟨some 92, none, .v (.nchk (.t 91))⟩, ⟨some 93, none, .v (.faddr 0 (.t 92))⟩, ⟨some 94, none, .v (.mov (.t 8))⟩, ⟨some 95, none, .v (.len true (.t 94))⟩, ⟨some 96, none, .v (.bin .add (.c (.int .i64 3)) (.t 95))⟩, ⟨some 97, none, .call (.c (.func 135 [])) [(.t 93), (.t 96)]⟩]))
def c_Q140_3 : SC := .cond (.t 67) (.seq (.reg [⟨some 75, none, .v (.mov (.t 0))⟩, ⟨some 76, none, .v (.nchk (.t 75))⟩, ⟨some 77, none, .v (.faddr 0 (.t 76))⟩, ⟨some 78, none, .v (.faddr 0 (.t 77))⟩, ⟨some 79, none, .v (.load none (.t 78))⟩, ⟨some 80, none, .call (.c (.func 166 [])) [(.t 79)]⟩, ⟨some 74, none, .v (.mov (.t 80))⟩, ⟨some 81, none, .v (.extract 0 (.t 74))⟩, ⟨some 82, none, .v (.extract 1 (.t 74))⟩, ⟨some 8, none, .v (.mov (.t 81))⟩, ⟨some 9, none, .v (.mov (.t 82))⟩]) c_Q140_2) (.seq (.reg [⟨some 26, none, .v (.mov (.t 5))⟩, ⟨some 27, none, .call (.c (.func 165 [])) [(.t 4), (.t 26)]⟩]) (.reg [⟨some 28, none, .v (.mov (.t 0))⟩, ⟨some 29, none, .v (.nchk (.t 28))⟩, ⟨some 30, none, .v (.faddr 0 (.t 29))⟩, ⟨some 31, none, .call (.c (.func 135 [])) [(.t 30), (.c (.int .i64 1))]⟩]))
def c_Q140_4 : SC := .cond (.t 46) (.seq (.reg [⟨some 50, none, .v (.mov (.t 0))⟩, ⟨some 51, none, .v (.nchk (.t 50))⟩, ⟨some 52, none, .v (.faddr 0 (.t 51))⟩, ⟨some 53, none, .v (.faddr 0 (.t 52))⟩, ⟨some 54, none, .v (.load none (.t 53))⟩, ⟨some 55, none, .call (.c (.func 164 [])) [(.t 54)]⟩, ⟨some 49, none, .v (.mov (.t 55))⟩, ⟨some 56, none, .v (.extract 0 (.t 49))⟩, ⟨some 57, none, .v (.extract 1 (.t 49))⟩, ⟨some 6, none, .v (.mov (.t 56))⟩, ⟨some 7, none, .v (.mov (.t 57))⟩]) (.seq (.seq (.reg [⟨some 58, none, .v (.mov (.t 7))⟩, ⟨some 59, none, .v (.un .not (.t 58))⟩]) (.cond (.t 59) (.seq (.reg [⟨some 60, none, .v (.build [(.int .i64 0), (.str []), (.int .i64 0), (.nils 2), (.int .i64 0)] [])⟩, ⟨none, none, .store 5 (.t 2) (.t 60)⟩, ⟨some 3, none, .v (.mov (.c (.bool false)))⟩]) .ret) .skip)) (.seq (.reg [⟨some 61, none, .v (.mov (.t 6))⟩, ⟨some 62, none, .call (.c (.func 165 [])) [(.t 4), (.t 61)]⟩]) (.reg [⟨some 63, none, .v (.mov (.t 0))⟩, ⟨some 64, none, .v (.nchk (.t 63))⟩, ⟨some 65, none, .v (.faddr 0 (.t 64))⟩, ⟨some 66, none, .call (.c (.func 135 [])) [(.t 65), (.c (.int .i64 2))]⟩])))) (.seq (.reg [⟨some 68, none, .v (.mov (.t 0))⟩, ⟨some 69, none, .v (.nchk (.t 68))⟩, ⟨some 70, none, .v (.faddr 0 (.t 69))⟩, ⟨some 71, none, .v (.faddr 0 (.t 70))⟩, ⟨some 72, none, .v (.load none (.t 71))⟩, ⟨some 73, none, .call (.c (.func 129 [])) [(.t 72), (.c (.str [36, 123]))]⟩, ⟨some 67, none, .v (.mov (.t 73))⟩]) c_Q140_3)
def c_Q140_5 : SC := .cond (.t 42) (.seq (.reg [⟨some 45, none, .v (.build [(.int .i64 0), (.str []), (.int .i64 0), (.nils 2), (.int .i64 0)] [])⟩, ⟨none, none, .store 5 (.t 2) (.t 45)⟩, ⟨some 3, none, .v (.mov (.c (.bool false)))⟩]) .ret) (.seq (.reg [⟨some 47, none, .v (.mov (.t 5))⟩, ⟨some 48, none, .v (.bin .eql (.t 47) (.c (.int .u8 92)))⟩, ⟨some 46, none, .v (.mov (.t 48))⟩]) c_Q140_4)
def c_Q140_6 : SC := .cond (.t 32) (.seq (.reg [⟨some 36, none, .v (.mov (.t 0))⟩, ⟨some 37, none, .v (.nchk (.t 36))⟩, ⟨some 38, none, .v (.faddr 0 (.t 37))⟩, ⟨some 39, none, .call (.c (.func 135 [])) [(.t 38), (.c (.int .i64 1))]⟩]) (.seq (.reg [⟨some 40, none, .v (.load none (.t 4))⟩, ⟨some 41, none, .v (.build [(.int .i64 0), (.str []), (.int .i64 0), (.nils 2), (.int .i64 0)] [(0, 1, (.c (.int .i64 2))), (3, 1, (.t 40))])⟩, ⟨none, none, .store 5 (.t 2) (.t 41)⟩, ⟨some 3, none, .v (.mov (.c (.bool true)))⟩]) .ret)) (.seq (.reg [⟨some 43, none, .v (.mov (.t 5))⟩, ⟨some 44, none, .v (.bin .lss (.t 43) (.c (.int .u8 32)))⟩, ⟨some 42, none, .v (.mov (.t 44))⟩]) c_Q140_5)
def c_Q140_7 : SC := .block 2 (.seq (.reg [⟨some 33, none, .v (.mov (.t 5))⟩, ⟨some 34, none, .call (.c (.func 137 [])) [(.t 33)]⟩, ⟨some 35, none, .v (.bin .eql (.t 34) (.c (.int .i64 4)))⟩, ⟨some 32, none, .v (.mov (.t 35))⟩]) c_Q140_6)
def c_Q140_8 : SC := .block 1 (.seq (.reg [⟨some 20, none, .v (.mov (.t 0))⟩, ⟨some 21, none, .v (.nchk (.t 20))⟩, ⟨some 22, none, .v (.faddr 0 (.t 21))⟩, ⟨some 23, none, .v (.faddr 0 (.t 22))⟩, ⟨some 24, none, .v (.load none (.t 23))⟩, ⟨some 25, none, .v (.istr (.t 24) (.c (.int .i64 0)))⟩, ⟨some 5, none, .v (.mov (.t 25))⟩]) c_Q140_7)
def b_Q140_1 : SC := .seq (.seq (.reg [⟨some 14, none, .v (.mov (.t 0))⟩, ⟨some 15, none, .v (.nchk (.t 14))⟩, ⟨some 16, none, .v (.faddr 0 (.t 15))⟩, ⟨some 17, none, .v (.faddr 0 (.t 16))⟩, ⟨some 18, none, .v (.load none (.t 17))⟩, ⟨some 19, none, .v (.bin .neq (.t 18) (.c (.str [])))⟩]) (.cond (.t 19) .skip (.exit 0))) c_Q140_8
def c_Q140_9 : SC := .seq (.block 0 (.loop b_Q140_1)) c_Q140_1
def c_Q140_10 : SC := .seq (.reg [⟨some 10, none, .v (.mov (.t 0))⟩, ⟨some 11, none, .v (.nchk (.t 10))⟩, ⟨some 12, none, .v (.faddr 0 (.t 11))⟩, ⟨some 13, none, .call (.c (.func 135 [])) [(.t 12), (.c (.int .i64 1))]⟩]) c_Q140_9
def c_Q140_11 : SC := .seq (.reg [⟨some 4, none, .alloc [(.nils 2)]⟩]) c_Q140_10
def sc_Q140 : SFunc := ⟨1, 99, .seq (.reg [⟨some 2, none, .alloc [(.int .i64 0), (.str []), (.int .i64 0), (.nils 2), (.int .i64 0)]⟩, ⟨some 3, none, .v (.mov (.c (.bool false)))⟩]) c_Q140_11, [(.cell 2 (some 5)), (.t 3)]⟩
noncomputable def k_Q140_1 (SP : Prg) (x : EO) : CO := fin [(.cell 2 (some 5)), (.t 3)] (thC SP (inBlk 0 (x)) c_Q140_1)
theorem U_Q140 : type_of% (And.intro (ue c_Q140_1.eq_1) <| And.intro (ue c_Q140_2.eq_1) <| And.intro (ue c_Q140_3.eq_1) <| And.intro (ue c_Q140_4.eq_1) <| And.intro (ue c_Q140_5.eq_1) <| And.intro (ue c_Q140_6.eq_1) <| And.intro (ue c_Q140_7.eq_1) <| And.intro (ue c_Q140_8.eq_1) <| And.intro (ue b_Q140_1.eq_1) <| And.intro (ue c_Q140_9.eq_1) <| And.intro (ue c_Q140_10.eq_1) <| And.intro (ue c_Q140_11.eq_1) <| sc_Q140.eq_1) := And.intro (ue c_Q140_1.eq_1) <| And.intro (ue c_Q140_2.eq_1) <| And.intro (ue c_Q140_3.eq_1) <| And.intro (ue c_Q140_4.eq_1) <| And.intro (ue c_Q140_5.eq_1) <| And.intro (ue c_Q140_6.eq_1) <| And.intro (ue c_Q140_7.eq_1) <| And.intro (ue c_Q140_8.eq_1) <| And.intro (ue b_Q140_1.eq_1) <| And.intro (ue c_Q140_9.eq_1) <| And.intro (ue c_Q140_10.eq_1) <| And.intro (ue c_Q140_11.eq_1) <| sc_Q140.eq_1
theorem comp_Q140 : comp Tryz.prog Tryz.f140 = some sc_Q140 := by kernel_rfl
def c_Q136_1 : SC := .seq (.reg [⟨some 28, none, .v (.mov (.t 0))⟩, ⟨some 29, none, .v (.nchk (.t 28))⟩, ⟨some 30, none, .v (.faddr 0 (.t 29))⟩, ⟨some 31, none, .v (.mov (.t 4))⟩, ⟨some 32, none, .v (.len true (.t 31))⟩, ⟨some 33, none, .call (.c (.func 135 [])) [(.t 30), (.t 32)]⟩, ⟨some 34, none, .v (.build [(.int .i64 0), (.str []), (.int .i64 0), (.nils 2), (.int .i64 0)] [(0, 1, (.c (.int .i64 4))), (1, 1, (.t 33))])⟩, ⟨none, none, .store 5 (.t 2) (.t 34)⟩, ⟨some 3, none, .v (.mov (.c (.bool true)))⟩]) .ret
def c_Q136_2 : SC := .seq (.seq (.reg [⟨some 18, none, .bslice 1 6 [(.str [])] [(0, (.c (.str [61, 61]))), (1, (.c (.str [33, 61]))), (2, (.c (.str [60, 61]))), (3, (.c (.str [62, 61]))), (4, (.c (.str [38, 38]))), (5, (.c (.str [124, 124])))]⟩, ⟨some 19, none, .v (.mov (.t 4))⟩, ⟨some 20, none, .call (.c (.func 161 [])) [(.t 18), (.t 19)]⟩, ⟨some 21, none, .v (.un .not (.t 20))⟩]) (.cond (.t 21) (.seq (.reg [⟨some 22, none, .v (.mov (.t 4))⟩, ⟨some 23, none, .v (.sls (.t 22) none (some (.c (.int .i64 1))))⟩, ⟨some 4, none, .v (.mov (.t 23))⟩]) (.seq (.reg [⟨some 24, none, .v (.mov (.t 4))⟩, ⟨some 25, none, .call (.c (.func 162 [])) [(.c (.str [123, 125, 91, 93, 40, 41, 61, 44, 46, 43, 45, 42, 47, 37, 60, 62, 33, 63, 58])), (.t 24)]⟩, ⟨some 26, none, .v (.un .not (.t 25))⟩]) (.cond (.t 26) (.seq (.reg [⟨some 27, none, .v (.build [(.int .i64 0), (.str []), (.int .i64 0), (.nils 2), (.int .i64 0)] [])⟩, ⟨none, none, .store 5 (.t 2) (.t 27)⟩, ⟨some 3, none, .v (.mov (.c (.bool false)))⟩]) .ret) .skip))) .skip)) c_Q136_1
def c_Q136_3 : SC := .seq (.dreg [⟨some 5, none, .v (.mov (.t 0))⟩, ⟨some 6, none, .v (.nchk (.t 5))⟩, ⟨some 7, none, .v (.faddr 0 (.t 6))⟩, ⟨some 8, none, .v (.faddr 0 (.t 7))⟩, ⟨some 9, none, .v (.load none (.t 8))⟩, ⟨some 10, none, .v (.mov (.t 0))⟩, ⟨some 11, none, .v (.nchk (.t 10))⟩, ⟨some 12, none, .v (.faddr 0 (.t 11))⟩, ⟨some 13, none, .v (.faddr 0 (.t 12))⟩, ⟨some 14, none, .v (.load none (.t 13))⟩, ⟨some 15, none, .v (.len true (.t 14))⟩, ⟨some 16, none, .v (.mm false (.c (.int .i64 2)) (.t 15))⟩, ⟨some 17, none, .v (.sls (.t 9) none (some (.t 16)))⟩, ⟨some 4, none, .v (.mov (.t 17))⟩] [false, false, false, false, false, false, false, false, false, false, false, false, true, true]) c_Q136_2
def sc_Q136 : SFunc := ⟨1, 35, .seq (.reg [⟨some 2, none, .alloc [(.int .i64 0), (.str []), (.int .i64 0), (.nils 2), (.int .i64 0)]⟩, ⟨some 3, none, .v (.mov (.c (.bool false)))⟩]) c_Q136_3, [(.cell 2 (some 5)), (.t 3)]⟩
theorem U_Q136 : type_of% (And.intro (ue c_Q136_1.eq_1) <| And.intro (ue c_Q136_2.eq_1) <| And.intro (ue c_Q136_3.eq_1) <| sc_Q136.eq_1) := And.intro (ue c_Q136_1.eq_1) <| And.intro (ue c_Q136_2.eq_1) <| And.intro (ue c_Q136_3.eq_1) <| sc_Q136.eq_1
theorem comp_Q136 : comp Tryz.prog Tryz.f136 = some sc_Q136 := by kernel_rfl
def c_Q98_1 : SC := .seq (.reg [⟨some 34, none, .v (.mov (.t 4))⟩, ⟨some 35, none, .call (.t 34) []⟩, ⟨some 33, none, .v (.mov (.t 35))⟩, ⟨some 36, none, .v (.extract 0 (.t 33))⟩, ⟨some 37, none, .v (.extract 1 (.t 33))⟩, ⟨some 5, none, .alloc [(.int .i64 0), (.str []), (.int .i64 0), (.nils 2), (.int .i64 0)]⟩, ⟨none, none, .store 5 (.t 5) (.t 36)⟩, ⟨some 6, none, .v (.mov (.t 37))⟩]) (.seq (.reg [⟨some 38, none, .v (.mov (.t 3))⟩, ⟨some 39, none, .v (.faddr 4 (.t 5))⟩, ⟨none, none, .store 1 (.t 39) (.t 38)⟩]) (.seq (.dreg [⟨some 40, none, .v (.mov (.t 0))⟩, ⟨some 41, none, .v (.mov (.t 0))⟩, ⟨some 42, none, .v (.nchk (.t 41))⟩, ⟨some 43, none, .v (.faddr 2 (.t 42))⟩, ⟨some 44, none, .v (.load none (.t 43))⟩, ⟨some 45, none, .v (.load (some 5) (.t 5))⟩, ⟨some 46, none, .bslice 5 1 [(.int .i64 0), (.str []), (.int .i64 0), (.nils 2), (.int .i64 0)] [(0, (.t 45))]⟩, ⟨some 47, none, .append 5 64 (.t 44) (.t 46)⟩, ⟨some 48, none, .v (.nchk (.t 40))⟩, ⟨some 49, none, .v (.faddr 2 (.t 48))⟩, ⟨none, none, .store 1 (.t 49) (.t 47)⟩] [false, false, false, false, false, false, false, true, true, true, true]) (.seq (.reg [⟨some 50, none, .v (.mov (.t 6))⟩, ⟨some 2, none, .v (.mov (.t 50))⟩]) .ret)))
def c_Q98_2 : SC := .seq (.seq (.reg [⟨some 14, none, .v (.mov (.t 0))⟩, ⟨some 15, none, .v (.nchk (.t 14))⟩, ⟨some 16, none, .v (.faddr 0 (.t 15))⟩, ⟨some 17, none, .v (.faddr 0 (.t 16))⟩, ⟨some 18, none, .v (.load none (.t 17))⟩, ⟨some 19, none, .v (.istr (.t 18) (.c (.int .i64 0)))⟩, ⟨some 20, none, .call (.c (.func 137 [])) [(.t 19)]⟩]) (.block 0 (.seq (.reg [⟨some 22, none, .v (.bin .eql (.t 20) (.c (.int .i64 2)))⟩, ⟨some 21, none, .v (.mov (.t 22))⟩]) (.cond (.t 21) (.reg [⟨some 23, none, .v (.mov (.t 0))⟩, ⟨some 24, none, .v (.meth 138 [(.t 23)])⟩, ⟨some 4, none, .v (.mov (.t 24))⟩]) (.seq (.reg [⟨some 26, none, .v (.bin .eql (.t 20) (.c (.int .i64 3)))⟩, ⟨some 25, none, .v (.mov (.t 26))⟩]) (.cond (.t 25) (.reg [⟨some 27, none, .v (.mov (.t 0))⟩, ⟨some 28, none, .v (.meth 139 [(.t 27)])⟩, ⟨some 4, none, .v (.mov (.t 28))⟩]) (.seq (.reg [⟨some 30, none, .v (.bin .eql (.t 20) (.c (.int .i64 4)))⟩, ⟨some 29, none, .v (.mov (.t 30))⟩]) (.cond (.t 29) (.reg [⟨some 31, none, .v (.mov (.t 0))⟩, ⟨some 32, none, .v (.meth 140 [(.t 31)])⟩, ⟨some 4, none, .v (.mov (.t 32))⟩]) .skip)))))))) c_Q98_1
def c_Q98_3 : SC := .seq (.reg [⟨some 12, none, .v (.mov (.t 0))⟩, ⟨some 13, none, .v (.meth 136 [(.t 12)])⟩, ⟨some 4, none, .v (.mov (.t 13))⟩]) c_Q98_2
def c_Q98_4 : SC := .seq (.reg [⟨some 7, none, .v (.mov (.t 0))⟩, ⟨some 8, none, .v (.nchk (.t 7))⟩, ⟨some 9, none, .v (.faddr 0 (.t 8))⟩, ⟨some 10, none, .v (.faddr 1 (.t 9))⟩, ⟨some 11, none, .v (.load none (.t 10))⟩, ⟨some 3, none, .v (.mov (.t 11))⟩]) c_Q98_3
def sc_Q98 : SFunc := ⟨1, 51, .seq (.reg [⟨some 2, none, .v (.mov (.c (.bool false)))⟩]) c_Q98_4, [(.t 2)]⟩
theorem U_Q98 : type_of% (And.intro (ue c_Q98_1.eq_1) <| And.intro (ue c_Q98_2.eq_1) <| And.intro (ue c_Q98_3.eq_1) <| And.intro (ue c_Q98_4.eq_1) <| sc_Q98.eq_1) := And.intro (ue c_Q98_1.eq_1) <| And.intro (ue c_Q98_2.eq_1) <| And.intro (ue c_Q98_3.eq_1) <| And.intro (ue c_Q98_4.eq_1) <| sc_Q98.eq_1
theorem comp_Q98 : comp Tryz.prog Tryz.f98 = some sc_Q98 := by kernel_rfl
def c_Q60_1 : SC := .seq (.dreg [⟨some 25, none, .v (.mov (.t 4))⟩, ⟨some 26, none, .v (.nchk (.t 25))⟩, ⟨some 27, none, .v (.faddr 2 (.t 26))⟩, ⟨some 28, none, .v (.load none (.t 27))⟩, ⟨some 29, none, .v (.mov (.t 4))⟩, ⟨some 30, none, .v (.nchk (.t 29))⟩, ⟨some 31, none, .v (.faddr 0 (.t 30))⟩, ⟨some 32, none, .v (.faddr 1 (.t 31))⟩, ⟨some 33, none, .v (.load none (.t 32))⟩, ⟨some 34, none, .v (.build [(.int .i64 0), (.str []), (.int .i64 0), (.nils 2), (.int .i64 0)] [(0, 1, (.c (.int .i64 0))), (4, 1, (.t 33))])⟩, ⟨some 35, none, .bslice 5 1 [(.int .i64 0), (.str []), (.int .i64 0), (.nils 2), (.int .i64 0)] [(0, (.t 34))]⟩, ⟨some 36, none, .append 5 64 (.t 28) (.t 35)⟩, ⟨some 2, none, .v (.mov (.t 36))⟩, ⟨some 3, none, .v (.mov (.c (.int .i64 0)))⟩] [false, false, false, false, false, false, false, false, false, false, false, true, true, true]) .ret
def b_Q60_1 : SC := .seq (.seq (.reg [⟨some 14, none, .v (.mov (.t 4))⟩, ⟨some 15, none, .v (.nchk (.t 14))⟩, ⟨some 16, none, .v (.faddr 0 (.t 15))⟩, ⟨some 17, none, .v (.faddr 0 (.t 16))⟩, ⟨some 18, none, .v (.load none (.t 17))⟩, ⟨some 19, none, .v (.bin .neq (.t 18) (.c (.str [])))⟩]) (.cond (.t 19) .skip (.exit 0))) (.seq (.block 1 (.seq (.reg [⟨some 22, none, .v (.mov (.t 4))⟩, ⟨some 23, none, .call (.c (.func 98 [])) [(.t 22)]⟩, ⟨some 24, none, .v (.un .not (.t 23))⟩]) (.cond (.t 24) (.seq (.reg [⟨some 2, none, .nilv 5⟩, ⟨some 3, none, .v (.mov (.c (.int .i64 5)))⟩]) .ret) .skip))) (.reg [⟨some 20, none, .v (.mov (.t 4))⟩, ⟨some 21, none, .call (.c (.func 97 [])) [(.t 20)]⟩]))
def c_Q60_2 : SC := .seq (.seq (.reg [⟨some 12, none, .v (.mov (.t 4))⟩, ⟨some 13, none, .call (.c (.func 97 [])) [(.t 12)]⟩]) (.block 0 (.loop b_Q60_1))) c_Q60_1
def c_Q60_3 : SC := .seq (.reg [⟨some 8, none, .v (.mov (.t 0))⟩, ⟨some 9, none, .v (.build [(.str []), (.int .i64 0)] [(0, 1, (.t 8))])⟩, ⟨some 10, none, .v (.build [(.str []), (.int .i64 0), (.nils 5)] [(0, 2, (.t 9))])⟩, ⟨some 11, none, .box (.t 10)⟩, ⟨some 4, none, .v (.mov (.t 11))⟩]) c_Q60_2
def c_Q60_4 : SC := .seq (.seq (.reg [⟨some 5, none, .v (.mov (.t 0))⟩, ⟨some 6, none, .v (.len true (.t 5))⟩, ⟨some 7, none, .v (.bin .gtr (.t 6) (.c (.int .i64 6000)))⟩]) (.cond (.t 7) (.seq (.reg [⟨some 2, none, .nilv 5⟩, ⟨some 3, none, .v (.mov (.c (.int .i64 4)))⟩]) .ret) .skip)) c_Q60_3
def sc_Q60 : SFunc := ⟨1, 37, .seq (.reg [⟨some 2, none, .nilv 5⟩, ⟨some 3, none, .v (.mov (.c (.int .i64 0)))⟩]) c_Q60_4, [(.t 2), (.t 3)]⟩
noncomputable def k_Q60_1 (SP : Prg) (x : EO) : CO := fin [(.t 2), (.t 3)] (thC SP (inBlk 0 (x)) c_Q60_1)
theorem U_Q60 : type_of% (And.intro (ue c_Q60_1.eq_1) <| And.intro (ue b_Q60_1.eq_1) <| And.intro (ue c_Q60_2.eq_1) <| And.intro (ue c_Q60_3.eq_1) <| And.intro (ue c_Q60_4.eq_1) <| sc_Q60.eq_1) := And.intro (ue c_Q60_1.eq_1) <| And.intro (ue b_Q60_1.eq_1) <| And.intro (ue c_Q60_2.eq_1) <| And.intro (ue c_Q60_3.eq_1) <| And.intro (ue c_Q60_4.eq_1) <| sc_Q60.eq_1
theorem comp_Q60 : comp Tryz.prog Tryz.f60 = some sc_Q60 := by kernel_rfl
def sc_Q81 : SFunc := ⟨1, 16, .seq (.reg [⟨some 2, none, .v (.mov (.c (.bool false)))⟩]) (.seq (.reg [⟨some 3, none, .v (.mov (.t 0))⟩, ⟨some 4, none, .call (.c (.func 120 [])) [(.t 3), (.c (.str [45])), (.c (.str [95]))]⟩, ⟨some 5, none, .call (.c (.func 115 [])) [(.t 4)]⟩, ⟨some 6, none, .v (.mov (.t 5))⟩, ⟨some 7, some (6, true), .v (.mov (.t 0))⟩, ⟨some 8, some (6, true), .v (.istr (.t 7) (.c (.int .i64 0)))⟩, ⟨some 9, some (6, true), .v (.bin .neq (.t 8) (.c (.int .u8 45)))⟩, ⟨some 10, none, .v (.pick (.t 6) (.t 9) (.c (.bool false)))⟩, ⟨some 11, none, .v (.mov (.t 10))⟩, ⟨some 12, some (11, true), .v (.mov (.t 0))⟩, ⟨some 13, some (11, true), .v (.istr (.t 12) (.c (.int .i64 0)))⟩, ⟨some 14, some (11, true), .v (.bin .neq (.t 13) (.c (.int .u8 95)))⟩, ⟨some 15, none, .v (.pick (.t 11) (.t 14) (.c (.bool false)))⟩, ⟨some 2, none, .v (.mov (.t 15))⟩]) .ret), [(.t 2)]⟩
theorem U_Q81 : type_of% (sc_Q81.eq_1) := sc_Q81.eq_1
theorem comp_Q81 : comp Tryz.prog Tryz.f81 = some sc_Q81 := by kernel_rfl
def sc_slices_Contains_int_int : SFunc := ⟨2, 9, .seq (.reg [⟨some 4, none, .v (.mov (.c (.bool false)))⟩]) (.seq (.reg [⟨some 5, none, .v (.mov (.t 0))⟩, ⟨some 6, none, .v (.mov (.t 1))⟩, ⟨some 7, none, .call (.c (.func 190 [])) [(.t 5), (.t 6)]⟩, ⟨some 8, none, .v (.bin .geq (.t 7) (.c (.int .i64 0)))⟩, ⟨some 4, none, .v (.mov (.t 8))⟩]) .ret), [(.t 4)]⟩
theorem U_slices_Contains_int_int : type_of% (sc_slices_Contains_int_int.eq_1) := sc_slices_Contains_int_int.eq_1
theorem comp_slices_Contains_int_int : comp Tryz.prog Tryz.f170 = some sc_slices_Contains_int_int := by kernel_rfl
def c_slices_Index_int_int_1 : SC := .seq (.reg [⟨some 4, none, .v (.mov (.c (.int .i64 (-1))))⟩]) .ret
def b_slices_Index_int_int_1 : SC := .seq (.reg [⟨some 9, none, .v (.bin .lss (.t 8) (.t 7))⟩]) (.seq (.cond (.t 9) .skip (.exit 0)) (.seq (.block 1 (.seq (.reg [⟨some 10, none, .v (.mov (.t 8))⟩, ⟨some 5, none, .v (.mov (.t 10))⟩]) (.seq (.reg [⟨some 11, none, .v (.mov (.t 1))⟩, ⟨some 12, none, .v (.mov (.t 0))⟩, ⟨some 13, none, .v (.mov (.t 5))⟩, ⟨some 14, none, .v (.iaddr 1 (.t 12) (.t 13))⟩, ⟨some 15, none, .v (.load none (.t 14))⟩, ⟨some 16, none, .v (.bin .eql (.t 11) (.t 15))⟩]) (.cond (.t 16) (.seq (.reg [⟨some 17, none, .v (.mov (.t 5))⟩, ⟨some 4, none, .v (.mov (.t 17))⟩]) .ret) .skip)))) (.reg [⟨some 18, none, .v (.bin .add (.t 8) (.c (.int .i64 1)))⟩, ⟨some 8, none, .v (.mov (.t 18))⟩])))
def sc_slices_Index_int_int : SFunc := ⟨2, 19, .seq (.reg [⟨some 4, none, .v (.mov (.c (.int .i64 0)))⟩]) (.seq (.seq (.reg [⟨some 6, none, .v (.mov (.t 0))⟩, ⟨some 7, none, .v (.len false (.t 6))⟩, ⟨some 8, none, .v (.mov (.c (.int .i64 0)))⟩]) (.block 0 (.loop b_slices_Index_int_int_1))) c_slices_Index_int_int_1), [(.t 4)]⟩
noncomputable def k_slices_Index_int_int_1 (SP : Prg) (x : EO) : CO := fin [(.t 4)] (thC SP (inBlk 0 (x)) c_slices_Index_int_int_1)
theorem U_slices_Index_int_int : type_of% (And.intro (ue c_slices_Index_int_int_1.eq_1) <| And.intro (ue b_slices_Index_int_int_1.eq_1) <| sc_slices_Index_int_int.eq_1) := And.intro (ue c_slices_Index_int_int_1.eq_1) <| And.intro (ue b_slices_Index_int_int_1.eq_1) <| sc_slices_Index_int_int.eq_1
theorem comp_slices_Index_int_int : comp Tryz.prog Tryz.f190 = some sc_slices_Index_int_int := by kernel_rfl
def sc_slices_Contains_string_string : SFunc := ⟨2, 9, .seq (.reg [⟨some 4, none, .v (.mov (.c (.bool false)))⟩]) (.seq (.reg [⟨some 5, none, .v (.mov (.t 0))⟩, ⟨some 6, none, .v (.mov (.t 1))⟩, ⟨some 7, none, .call (.c (.func 62 [])) [(.t 5), (.t 6)]⟩, ⟨some 8, none, .v (.bin .geq (.t 7) (.c (.int .i64 0)))⟩, ⟨some 4, none, .v (.mov (.t 8))⟩]) .ret), [(.t 4)]⟩
theorem U_slices_Contains_string_string : type_of% (sc_slices_Contains_string_string.eq_1) := sc_slices_Contains_string_string.eq_1
theorem comp_slices_Contains_string_string : comp Tryz.prog Tryz.f161 = some sc_slices_Contains_string_string := by kernel_rfl
end Go.Proofs.YtfbcnpbhhooapaaGreatDoor.M
