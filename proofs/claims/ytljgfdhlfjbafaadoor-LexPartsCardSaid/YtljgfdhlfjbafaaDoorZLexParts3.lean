/- Parts of a proof, one behind another: Lp, Lw, Ty, X0, R, R2, Sc1, Lt1. -/
import Derived.Test.YtljgfdhlfjbafaaDoorZLexParts2
import Derived.Test.YtljgfdhlfjbafaaDoorProg
import Derived.KernelRfl
/- Words for pointers: boxes of frames further out; library functions over a function. -/
namespace Go.Proofs.YtljgfdhlfjbafaaDoor.M
set_option linter.unusedSimpArgs false
set_option linter.unusedVariables false
open Go Classical
theorem take_some {o : Option (List PV)} {k : Nat} {l : List PV} (h : o.map (List.take k) = some l) : ∃ r, o = some (l ++ r) := by
  cases o with
  | none => cases h
  | some c => simp only [Option.map_some, Option.some.injEq] at h; exact ⟨c.drop k, by rw [← h, List.take_append_drop]⟩
theorem o_getBox_lt : ∀ {S : Sto} {n t : Nat} {c : List PV}, getBox S n t = some c → n < S.length
  | [], _, _, _, h => by simp [getBox] at h
  | _ :: _, 0, _, _, _ => by simp
  | _ :: S, n + 1, t, c, h => by have := o_getBox_lt (S := S) (n := n) (t := t) (c := c) h; simp; omega
theorem o_length_setBox : ∀ (S : Sto) (n t : Nat) (c : List PV), (setBox S n t c).length = S.length
  | [], _, _, _ => rfl
  | _ :: _, 0, _, _ => rfl
  | _ :: S, n + 1, t, c => by simp [setBox, o_length_setBox S n t c]
theorem o_length_setArr : ∀ (S : Sto) (n : Nat) (k : AK) (A : Arr), (setArr S n k A).length = S.length
  | [], _, _, _ => rfl
  | _ :: _, 0, _, _ => rfl
  | _ :: S, n + 1, t, c => by simp [setArr, o_length_setArr S n t c]
theorem o_getBox_setBox : ∀ {S : Sto} {n : Nat} (t : Nat) (c : List PV), n < S.length → getBox (setBox S n t c) n t = some c
  | [], _, _, _, h => by simp at h
  | _ :: _, 0, _, _, _ => by simp [setBox, getBox, upd]
  | _ :: S, n + 1, t, c, h => by simp only [setBox, getBox]; exact o_getBox_setBox t c (by simpa using h)
theorem o_getArr_setArr : ∀ {S : Sto} {n : Nat} (k : AK) (A : Arr), n < S.length → getArr (setArr S n k A) n k = some A
  | [], _, _, _, h => by simp at h
  | _ :: _, 0, _, _, _ => by simp [setArr, getArr, updK]
  | _ :: S, n + 1, t, c, h => by simp only [setArr, getArr]; exact o_getArr_setArr t c (by simpa using h)
theorem o_getBox_setArr : ∀ (S : Sto) (m : Nat) (k : AK) (A : Arr) (n t : Nat), getBox (setArr S m k A) n t = getBox S n t
  | [], _, _, _, _, _ => rfl
  | _ :: _, 0, _, _, 0, _ => rfl
  | _ :: _, 0, _, _, _ + 1, _ => rfl
  | _ :: _, _ + 1, _, _, 0, _ => rfl
  | _ :: S, m + 1, k, A, n + 1, t => by simp only [setArr, getBox]; exact o_getBox_setArr S m k A n t
theorem o_getArr_setBox : ∀ (S : Sto) (m t : Nat) (c : List PV) (n : Nat) (k : AK), getArr (setBox S m t c) n k = getArr S n k
  | [], _, _, _, _, _ => rfl
  | _ :: _, 0, _, _, 0, _ => rfl
  | _ :: _, 0, _, _, _ + 1, _ => rfl
  | _ :: _, _ + 1, _, _, 0, _ => rfl
  | _ :: S, m + 1, k, A, n + 1, t => by simp only [setBox, getArr]; exact o_getArr_setBox S m k A n t
theorem o_upd_upd {α : Type} (f : Nat → α) (i : Nat) (a b : α) : upd (upd f i a) i b = upd f i b := by
  funext j; simp only [upd]; split <;> rfl
theorem o_updK_updK {α : Type} (f : AK → α) (i : AK) (a b : α) : updK (updK f i a) i b = updK f i b := by
  funext j; simp only [updK]; split <;> rfl
theorem o_setBox_setBox : ∀ (S : Sto) (n t : Nat) (a b : List PV), setBox (setBox S n t a) n t b = setBox S n t b
  | [], _, _, _, _ => rfl
  | _ :: _, 0, _, _, _ => by simp [setBox, o_upd_upd]
  | _ :: S, n + 1, t, a, b => by simp only [setBox, o_setBox_setBox S n t a b]
theorem o_setArr_setArr : ∀ (S : Sto) (n : Nat) (k : AK) (a b : Arr), setArr (setArr S n k a) n k b = setArr S n k b
  | [], _, _, _, _ => rfl
  | _ :: _, 0, _, _, _ => by simp [setArr, o_updK_updK]
  | _ :: S, n + 1, t, a, b => by simp only [setArr, o_setArr_setArr S n t a b]
theorem o_setBox_setArr : ∀ (S : Sto) (m : Nat) (k : AK) (A : Arr) (n t : Nat) (c : List PV), setBox (setArr S m k A) n t c = setArr (setBox S n t c) m k A
  | [], _, _, _, _, _, _ => rfl
  | _ :: _, 0, _, _, 0, _, _ => rfl
  | _ :: _, 0, _, _, _ + 1, _, _ => rfl
  | _ :: _, _ + 1, _, _, 0, _, _ => rfl
  | _ :: S, m + 1, k, A, n + 1, t, c => by simp only [setArr, setBox, o_setBox_setArr S m k A n t c]
theorem o_setBox_same : ∀ {S : Sto} {n t : Nat} {c : List PV}, getBox S n t = some c → setBox S n t c = S
  | [], _, _, _, h => rfl
  | f :: _, 0, t, c, h => by
    simp only [getBox] at h
    have : upd f.box t (some c) = f.box := by funext j; simp only [upd]; split <;> simp_all
    simp [setBox, this]
  | _ :: S, n + 1, t, c, h => by simp only [setBox]; rw [o_setBox_same (S := S) (n := n) h]
theorem o_setArr_same : ∀ {S : Sto} {n : Nat} {k : AK} {A : Arr}, getArr S n k = some A → setArr S n k A = S
  | [], _, _, _, h => rfl
  | f :: _, 0, t, c, h => by
    simp only [getArr] at h
    have : updK f.arr t (some c) = f.arr := by funext j; simp only [updK]; split <;> simp_all
    simp [setArr, this]
  | _ :: S, n + 1, t, c, h => by simp only [setArr]; rw [o_setArr_same (S := S) (n := n) h]
theorem o_upN_int : ∀ (n : Nat) (k : IntKind) (x : Int), PV.upN n (.int k x) = .int k x
  | 0, _, _ => rfl
  | n + 1, k, x => by simp [PV.upN, o_upN_int n k x, PV.up]
theorem o_upN_bool : ∀ (n : Nat) (x : Bool), PV.upN n (.bool x) = .bool x
  | 0, _ => rfl
  | n + 1, x => by simp [PV.upN, o_upN_bool n x, PV.up]
theorem o_upN_str : ∀ (n : Nat) (x : List UInt8), PV.upN n (.str x) = .str x
  | 0, _ => rfl
  | n + 1, x => by simp [PV.upN, o_upN_str n x, PV.up]
theorem o_upN_list : ∀ (n z : Nat) (x : List (List PV)) (f : Bool), PV.upN n (.list z x f) = .list z x f
  | 0, _, _, _ => rfl
  | n + 1, z, x, f => by simp [PV.upN, o_upN_list n z x f, PV.up]
theorem o_upN_sl : ∀ (n m : Nat) (a : AK) (o l v g : Nat) (f : Bool), PV.upN n (.sl m a o l v g f) = .sl (m + n) a o l v g f
  | 0, _, _, _, _, _, _, _ => rfl
  | n + 1, m, a, o, l, v, g, f => by simp [PV.upN, o_upN_sl n m a o l v g f, PV.up]; omega
theorem o_upL_map : ∀ (l : List PV), PV.upL l = l.map PV.up
  | [] => rfl
  | v :: l => by simp [PV.upL, o_upL_map l]
theorem o_upN_agg : ∀ (n : Nat) (l : List PV), PV.upN n (.agg l) = .agg (l.map (PV.upN n))
  | 0, l => by simp [PV.upN]
  | n + 1, l => by simp [PV.upN, o_upN_agg n l, PV.up, o_upL_map]
theorem o_dnN_int : ∀ (n : Nat) (k : IntKind) (x : Int), PV.dnN n (.int k x) = some (.int k x)
  | 0, _, _ => rfl
  | n + 1, k, x => by simp [PV.dnN, PV.dn, o_dnN_int n k x]
theorem o_dnN_bool : ∀ (n : Nat) (x : Bool), PV.dnN n (.bool x) = some (.bool x)
  | 0, _ => rfl
  | n + 1, x => by simp [PV.dnN, PV.dn, o_dnN_bool n x]
theorem o_dnN_str : ∀ (n : Nat) (x : List UInt8), PV.dnN n (.str x) = some (.str x)
  | 0, _ => rfl
  | n + 1, x => by simp [PV.dnN, PV.dn, o_dnN_str n x]
theorem o_upN_func : ∀ (n f : Nat), PV.upN n (.func f []) = .func f []
  | 0, _ => rfl
  | n + 1, f => by simp [PV.upN, o_upN_func n f, PV.up, PV.upL]
theorem app_lit {α : Type} (xs : List α) (a : α) (l : List α) (b : α) (m : List α) : (xs ++ (a :: l)) ++ (b :: m) = xs ++ (a :: (l ++ (b :: m))) := by simp
theorem succ_ne_zero' (n : Nat) : (n + 1 = 0) = False := by simp
mutual
theorem o_kill_up (d : Nat) : ∀ v : PV, v.up.kill d = v.up
  | .bool _ | .int _ _ | .str _ | .nils _ | .list _ _ _ | .rowp _ _ | .nili | .nile | .undef | .junk => by simp [PV.up, PV.kill]
  | .agg vs => by simp [PV.up, PV.kill, o_killL_up d vs]
  | .tup vs => by simp [PV.up, PV.kill, o_killL_up d vs]
  | .ptr n t o => by simp [PV.up, PV.kill]
  | .elem n a i o v g => by simp [PV.up, PV.kill]
  | .sl n a o l v g f => by simp [PV.up, PV.kill]
  | .func f caps => by simp [PV.up, PV.kill, o_killL_up d caps]
  | .iface t v => by simp [PV.up, PV.kill, o_kill_up d v]
theorem o_killL_up (d : Nat) : ∀ vs : List PV, PV.killL d (PV.upL vs) = PV.upL vs
  | [] => by simp [PV.upL, PV.killL]
  | v :: vs => by simp [PV.upL, PV.killL, o_kill_up d v, o_killL_up d vs]
end
/-- The first that is so; -1: none. -/
def findI {α : Type} (p : α → Bool) : Nat → List α → Int
  | _, [] => -1
  | i, x :: xs => if p x = true then (i : Int) else findI p (i + 1) xs
def all2 {α β : Type} (p : α → β → Bool) : List α → List β → Bool
  | [], [] => true
  | x :: xs, y :: ys => p x y && all2 p xs ys
  | _, _ => false
theorem findI_any {α : Type} (p : α → Bool) : ∀ (i : Nat) (xs : List α), (0 ≤ findI p i xs) ↔ xs.any p = true
  | i, [] => by simp [findI]
  | i, x :: xs => by
    have := findI_any p (i + 1) xs
    simp only [findI, List.any_cons]
    cases p x <;> simp [this]
theorem findI_dec {α : Type} (p : α → Bool) (xs : List α) : decide (0 ≤ findI p 0 xs) = xs.any p := by
  have := findI_any p 0 xs
  cases h : xs.any p <;> simp [h] at this ⊢ <;> omega
theorem all2_length {α β : Type} {p : α → β → Bool} : ∀ {xs : List α} {ys : List β}, all2 p xs ys = true → xs.length = ys.length
  | [], [], _ => rfl
  | x :: xs, [], h => by simp [all2] at h
  | [], y :: ys, h => by simp [all2] at h
  | x :: xs, y :: ys, h => by simp only [all2, Bool.and_eq_true] at h; simp [all2_length h.2]
/-- A row, one behind it, and a row behind that: all of it. -/
theorem take_app3 {α β : Type} (f : α → β) (a c : List α) (x : β) : (a.map f ++ [x] ++ c.map f).take (a.length + 1 + c.length) = a.map f ++ [x] ++ c.map f := List.take_of_length_le (by simp; omega)
theorem set_get {α : Type} (l : List α) (i : Nat) (a : α) : (l.set i a)[i]? = (l[i]?).map fun _ => a := by
  rw [List.getElem?_set]
  by_cases h : i < l.length
  · simp [h]
  · simp [h]
theorem take_set {α β : Type} (f : α → β) (l : List α) (i : Nat) (x : β) : ((l.map f).set i x).take l.length = (l.map f).set i x := List.take_of_length_le (by simp)
end Go.Proofs.YtljgfdhlfjbafaaDoor.M

/- All the laws by which the machine is reckoned, in one. -/
namespace Go.Proofs.YtljgfdhlfjbafaaDoor.M
open Go Classical
set_option maxRecDepth 10000
theorem V_k (k n : Int) (s : List UInt8) (l : List V) : (V.mk k n s l).k = k := rfl
theorem V_n (k n : Int) (s : List UInt8) (l : List V) : (V.mk k n s l).n = n := rfl
theorem V_s (k n : Int) (s : List UInt8) (l : List V) : (V.mk k n s l).s = s := rfl
theorem V_l (k n : Int) (s : List UInt8) (l : List V) : (V.mk k n s l).l = l := rfl
theorem lw0 : type_of% (And.intro @List.map_cons.{0,0} <| And.intro @List.map_nil.{0,0} <| And.intro @PV.up.eq_1 <| And.intro @PV.up.eq_2 <| And.intro @PV.up.eq_3 <| And.intro @PV.up.eq_4 <| And.intro @PV.up.eq_5 <| And.intro @PV.up.eq_6 <| And.intro @PV.up.eq_7 <| And.intro @PV.up.eq_8 <| And.intro @PV.up.eq_9 <| And.intro @PV.up.eq_10 <| And.intro @PV.up.eq_11 <| And.intro @PV.up.eq_12 <| And.intro @PV.up.eq_13 <| And.intro @PV.up.eq_14 <| And.intro @PV.up.eq_15 <| And.intro @PV.up.eq_16 <| And.intro @PV.upL.eq_1 <| And.intro @PV.upL.eq_2 <| And.intro @E_seq <| And.intro @E_reg <| And.intro @E_block <| And.intro @E_cnd <| And.intro @E_skip <| And.intro @E_exit <| And.intro @E_ret <| And.intro @E_dreg <| And.intro @thC_nor <| And.intro @thC_ret <| And.intro @thC_ext <| And.intro @thC_pan <| And.intro @inBlk_ext <| And.intro @inBlk_nor <| And.intro @inBlk_ret <| And.intro @inBlk_pan <| And.intro @evOps_cons <| And.intro @evOps_nil <| And.intro @thOps_ok <| And.intro @thOps_pan <| And.intro @evD_cons <| And.intro @evD_nil <| And.intro @thD_tot <| And.intro @thD_same <| And.intro @List.tail_cons.{0} <| And.intro @stp_none <| And.intro @stp_some <| And.intro @gd_tt <| And.intro @gd_ff <| And.intro @gd_tf <| And.intro @gd_ft <| And.intro @gd_undef <| And.intro @gd_td <| And.intro @gd_fd <| And.intro @ex_v <| And.intro @vo_some <| And.intro @ex.eq_1 <| And.intro @ex.eq_2 <| And.intro @ex.eq_3 <| @ex.eq_4) := And.intro @List.map_cons.{0,0} <| And.intro @List.map_nil.{0,0} <| And.intro @PV.up.eq_1 <| And.intro @PV.up.eq_2 <| And.intro @PV.up.eq_3 <| And.intro @PV.up.eq_4 <| And.intro @PV.up.eq_5 <| And.intro @PV.up.eq_6 <| And.intro @PV.up.eq_7 <| And.intro @PV.up.eq_8 <| And.intro @PV.up.eq_9 <| And.intro @PV.up.eq_10 <| And.intro @PV.up.eq_11 <| And.intro @PV.up.eq_12 <| And.intro @PV.up.eq_13 <| And.intro @PV.up.eq_14 <| And.intro @PV.up.eq_15 <| And.intro @PV.up.eq_16 <| And.intro @PV.upL.eq_1 <| And.intro @PV.upL.eq_2 <| And.intro @E_seq <| And.intro @E_reg <| And.intro @E_block <| And.intro @E_cnd <| And.intro @E_skip <| And.intro @E_exit <| And.intro @E_ret <| And.intro @E_dreg <| And.intro @thC_nor <| And.intro @thC_ret <| And.intro @thC_ext <| And.intro @thC_pan <| And.intro @inBlk_ext <| And.intro @inBlk_nor <| And.intro @inBlk_ret <| And.intro @inBlk_pan <| And.intro @evOps_cons <| And.intro @evOps_nil <| And.intro @thOps_ok <| And.intro @thOps_pan <| And.intro @evD_cons <| And.intro @evD_nil <| And.intro @thD_tot <| And.intro @thD_same <| And.intro @List.tail_cons.{0} <| And.intro @stp_none <| And.intro @stp_some <| And.intro @gd_tt <| And.intro @gd_ff <| And.intro @gd_tf <| And.intro @gd_ft <| And.intro @gd_undef <| And.intro @gd_td <| And.intro @gd_fd <| And.intro @ex_v <| And.intro @vo_some <| And.intro @ex.eq_1 <| And.intro @ex.eq_2 <| And.intro @ex.eq_3 <| @ex.eq_4
theorem lw1 : type_of% (And.intro @ex.eq_5 <| And.intro @ex.eq_6 <| And.intro @ex.eq_7 <| And.intro @ex.eq_8 <| And.intro @ex_store <| And.intro @stO_some <| And.intro @ex.eq_11 <| And.intro @ex.eq_12 <| And.intro @ex.eq_13 <| And.intro @ex.eq_14 <| And.intro @vop.eq_1 <| And.intro @vop.eq_2 <| And.intro @vop.eq_3 <| And.intro @vop.eq_4 <| And.intro @vop.eq_5 <| And.intro @vop.eq_6 <| And.intro @vop.eq_7 <| And.intro @vop.eq_8 <| And.intro @vop.eq_9 <| And.intro @vop.eq_10 <| And.intro @vop.eq_11 <| And.intro @vop.eq_12 <| And.intro @vop.eq_13 <| And.intro @vop.eq_14 <| And.intro @vop.eq_15 <| And.intro @vop.eq_16 <| And.intro @vop.eq_17 <| And.intro @vop.eq_18 <| And.intro @vop.eq_19 <| And.intro @vop.eq_20 <| And.intro @vop.eq_21 <| And.intro @vop.eq_22 <| And.intro @ev_t <| And.intro @ev_c <| And.intro @put_some <| And.intro @put_none <| And.intro @upd_same <| And.intro @upd_ne <| And.intro @updK_same <| And.intro @updK_ne <| And.intro @ne_eq.{1} <| And.intro @argE_at <| And.intro @List.getElem?_cons_zero.{0} <| And.intro @List.getElem?_cons_succ.{0} <| And.intro @Option.getD_some.{0} <| And.intro @PV.cells.eq_1 <| And.intro @PV.cells.eq_2 <| And.intro @List.all_cons.{0} <| And.intro @List.all_nil.{0} <| And.intro @PV.one.eq_1 <| And.intro @PV.one.eq_2 <| And.intro @PV.one.eq_3 <| And.intro @PV.one.eq_4 <| And.intro @PV.one.eq_5 <| And.intro @Bool.and_true <| And.intro @Bool.true_and <| And.intro @if_true.{1} <| And.intro @and_self <| And.intro @true_and <| @and_true) := And.intro @ex.eq_5 <| And.intro @ex.eq_6 <| And.intro @ex.eq_7 <| And.intro @ex.eq_8 <| And.intro @ex_store <| And.intro @stO_some <| And.intro @ex.eq_11 <| And.intro @ex.eq_12 <| And.intro @ex.eq_13 <| And.intro @ex.eq_14 <| And.intro @vop.eq_1 <| And.intro @vop.eq_2 <| And.intro @vop.eq_3 <| And.intro @vop.eq_4 <| And.intro @vop.eq_5 <| And.intro @vop.eq_6 <| And.intro @vop.eq_7 <| And.intro @vop.eq_8 <| And.intro @vop.eq_9 <| And.intro @vop.eq_10 <| And.intro @vop.eq_11 <| And.intro @vop.eq_12 <| And.intro @vop.eq_13 <| And.intro @vop.eq_14 <| And.intro @vop.eq_15 <| And.intro @vop.eq_16 <| And.intro @vop.eq_17 <| And.intro @vop.eq_18 <| And.intro @vop.eq_19 <| And.intro @vop.eq_20 <| And.intro @vop.eq_21 <| And.intro @vop.eq_22 <| And.intro @ev_t <| And.intro @ev_c <| And.intro @put_some <| And.intro @put_none <| And.intro @upd_same <| And.intro @upd_ne <| And.intro @updK_same <| And.intro @updK_ne <| And.intro @ne_eq.{1} <| And.intro @argE_at <| And.intro @List.getElem?_cons_zero.{0} <| And.intro @List.getElem?_cons_succ.{0} <| And.intro @Option.getD_some.{0} <| And.intro @PV.cells.eq_1 <| And.intro @PV.cells.eq_2 <| And.intro @List.all_cons.{0} <| And.intro @List.all_nil.{0} <| And.intro @PV.one.eq_1 <| And.intro @PV.one.eq_2 <| And.intro @PV.one.eq_3 <| And.intro @PV.one.eq_4 <| And.intro @PV.one.eq_5 <| And.intro @Bool.and_true <| And.intro @Bool.true_and <| And.intro @if_true.{1} <| And.intro @and_self <| And.intro @true_and <| @and_true
theorem lw2 : type_of% (And.intro @killS.eq_1 <| And.intro @killS.eq_2 <| And.intro @kill_box <| And.intro @kill_arr <| And.intro @e_box <| And.intro @e_arr <| And.intro @AK.tmp.eq_1 <| And.intro @AK.tmp.eq_2 <| And.intro @PV.killL.eq_1 <| And.intro @PV.killL.eq_2 <| And.intro @PV.kill.eq_1 <| And.intro @PV.kill.eq_2 <| And.intro @PV.kill.eq_3 <| And.intro @PV.kill.eq_4 <| And.intro @PV.kill.eq_5 <| And.intro @PV.kill.eq_6 <| And.intro @PV.kill.eq_7 <| And.intro @PV.kill.eq_8 <| And.intro @PV.kill.eq_9 <| And.intro @PV.kill.eq_10 <| And.intro @PV.kill.eq_11 <| And.intro @PV.kill.eq_12 <| And.intro @PV.kill.eq_13 <| And.intro @PV.kill.eq_14 <| And.intro @PV.kill.eq_15 <| And.intro @PV.kill.eq_16 <| And.intro @killE_at <| And.intro @newBox.eq_1 <| And.intro @newBox.eq_2 <| And.intro @initC.eq_1 <| And.intro @initC.eq_2 <| And.intro @initC.eq_3 <| And.intro @initA.eq_1 <| And.intro @initA.eq_2 <| And.intro @initA.eq_3 <| And.intro @ld.eq_1 <| And.intro @ld.eq_2 <| And.intro @ld.eq_3 <| And.intro @ld.eq_4 <| And.intro @getBox.eq_1 <| And.intro @getBox.eq_2 <| And.intro @getBox.eq_3 <| And.intro @setBox.eq_1 <| And.intro @setBox.eq_2 <| And.intro @setBox.eq_3 <| And.intro @getArr.eq_1 <| And.intro @getArr.eq_2 <| And.intro @getArr.eq_3 <| And.intro @setArr.eq_1 <| And.intro @setArr.eq_2 <| And.intro @setArr.eq_3 <| And.intro @pickC.eq_1 <| And.intro @pickC.eq_2 <| And.intro @Option.map_some.{0,0} <| And.intro @Option.map_none.{0,0} <| And.intro @PV.upN.eq_1 <| And.intro @PV.upN.eq_2 <| And.intro @binP.eq_1 <| And.intro @binP.eq_2 <| @binP.eq_3) := And.intro @killS.eq_1 <| And.intro @killS.eq_2 <| And.intro @kill_box <| And.intro @kill_arr <| And.intro @e_box <| And.intro @e_arr <| And.intro @AK.tmp.eq_1 <| And.intro @AK.tmp.eq_2 <| And.intro @PV.killL.eq_1 <| And.intro @PV.killL.eq_2 <| And.intro @PV.kill.eq_1 <| And.intro @PV.kill.eq_2 <| And.intro @PV.kill.eq_3 <| And.intro @PV.kill.eq_4 <| And.intro @PV.kill.eq_5 <| And.intro @PV.kill.eq_6 <| And.intro @PV.kill.eq_7 <| And.intro @PV.kill.eq_8 <| And.intro @PV.kill.eq_9 <| And.intro @PV.kill.eq_10 <| And.intro @PV.kill.eq_11 <| And.intro @PV.kill.eq_12 <| And.intro @PV.kill.eq_13 <| And.intro @PV.kill.eq_14 <| And.intro @PV.kill.eq_15 <| And.intro @PV.kill.eq_16 <| And.intro @killE_at <| And.intro @newBox.eq_1 <| And.intro @newBox.eq_2 <| And.intro @initC.eq_1 <| And.intro @initC.eq_2 <| And.intro @initC.eq_3 <| And.intro @initA.eq_1 <| And.intro @initA.eq_2 <| And.intro @initA.eq_3 <| And.intro @ld.eq_1 <| And.intro @ld.eq_2 <| And.intro @ld.eq_3 <| And.intro @ld.eq_4 <| And.intro @getBox.eq_1 <| And.intro @getBox.eq_2 <| And.intro @getBox.eq_3 <| And.intro @setBox.eq_1 <| And.intro @setBox.eq_2 <| And.intro @setBox.eq_3 <| And.intro @getArr.eq_1 <| And.intro @getArr.eq_2 <| And.intro @getArr.eq_3 <| And.intro @setArr.eq_1 <| And.intro @setArr.eq_2 <| And.intro @setArr.eq_3 <| And.intro @pickC.eq_1 <| And.intro @pickC.eq_2 <| And.intro @Option.map_some.{0,0} <| And.intro @Option.map_none.{0,0} <| And.intro @PV.upN.eq_1 <| And.intro @PV.upN.eq_2 <| And.intro @binP.eq_1 <| And.intro @binP.eq_2 <| @binP.eq_3
theorem lw3 : type_of% (And.intro @binP.eq_4 <| And.intro @binP.eq_5 <| And.intro @binP.eq_6 <| And.intro @binP.eq_7 <| And.intro @binP.eq_8 <| And.intro @binP.eq_9 <| And.intro @binP.eq_10 <| And.intro @binP.eq_11 <| And.intro @binP.eq_12 <| And.intro @binP.eq_13 <| And.intro @binP.eq_14 <| And.intro @binP.eq_15 <| And.intro @binP.eq_16 <| And.intro @binInt.eq_1 <| And.intro @binInt.eq_2 <| And.intro @binInt.eq_3 <| And.intro @binInt.eq_4 <| And.intro @binInt.eq_5 <| And.intro @binInt.eq_6 <| And.intro @binInt.eq_7 <| And.intro @binInt.eq_8 <| And.intro @binInt.eq_9 <| And.intro @binInt.eq_10 <| And.intro @binInt.eq_11 <| And.intro @binInt.eq_12 <| And.intro @binStr.eq_1 <| And.intro @binStr.eq_2 <| And.intro @binStr.eq_3 <| And.intro @binStr.eq_4 <| And.intro @binStr.eq_5 <| And.intro @binStr.eq_6 <| And.intro @binStr.eq_7 <| And.intro @binStr.eq_8 <| And.intro @binB.eq_1 <| And.intro @binB.eq_2 <| And.intro @unP.eq_1 <| And.intro @unP.eq_2 <| And.intro @unP.eq_3 <| And.intro @cnd_true <| And.intro @cnd_false <| And.intro @cnd_dec <| And.intro @cnd_not <| And.intro @not_false_eq_true <| And.intro @not_true_eq_false <| And.intro @Nat.zero_add <| And.intro @Nat.add_zero <| And.intro @fin_ret <| And.intro @fin_nor <| And.intro @List.length_cons.{0} <| And.intro @List.length_nil.{0} <| And.intro @List.drop_succ_cons.{0} <| And.intro @List.drop_zero.{0} <| And.intro @List.take_succ_cons.{0} <| And.intro @List.take_zero.{0} <| And.intro @fillP.eq_1 <| And.intro @fillP.eq_2 <| And.intro @setAt.eq_1 <| And.intro @setAt.eq_2 <| And.intro @List.set_cons_zero.{0} <| @List.set_cons_succ.{0}) := And.intro @binP.eq_4 <| And.intro @binP.eq_5 <| And.intro @binP.eq_6 <| And.intro @binP.eq_7 <| And.intro @binP.eq_8 <| And.intro @binP.eq_9 <| And.intro @binP.eq_10 <| And.intro @binP.eq_11 <| And.intro @binP.eq_12 <| And.intro @binP.eq_13 <| And.intro @binP.eq_14 <| And.intro @binP.eq_15 <| And.intro @binP.eq_16 <| And.intro @binInt.eq_1 <| And.intro @binInt.eq_2 <| And.intro @binInt.eq_3 <| And.intro @binInt.eq_4 <| And.intro @binInt.eq_5 <| And.intro @binInt.eq_6 <| And.intro @binInt.eq_7 <| And.intro @binInt.eq_8 <| And.intro @binInt.eq_9 <| And.intro @binInt.eq_10 <| And.intro @binInt.eq_11 <| And.intro @binInt.eq_12 <| And.intro @binStr.eq_1 <| And.intro @binStr.eq_2 <| And.intro @binStr.eq_3 <| And.intro @binStr.eq_4 <| And.intro @binStr.eq_5 <| And.intro @binStr.eq_6 <| And.intro @binStr.eq_7 <| And.intro @binStr.eq_8 <| And.intro @binB.eq_1 <| And.intro @binB.eq_2 <| And.intro @unP.eq_1 <| And.intro @unP.eq_2 <| And.intro @unP.eq_3 <| And.intro @cnd_true <| And.intro @cnd_false <| And.intro @cnd_dec <| And.intro @cnd_not <| And.intro @not_false_eq_true <| And.intro @not_true_eq_false <| And.intro @Nat.zero_add <| And.intro @Nat.add_zero <| And.intro @fin_ret <| And.intro @fin_nor <| And.intro @List.length_cons.{0} <| And.intro @List.length_nil.{0} <| And.intro @List.drop_succ_cons.{0} <| And.intro @List.drop_zero.{0} <| And.intro @List.take_succ_cons.{0} <| And.intro @List.take_zero.{0} <| And.intro @fillP.eq_1 <| And.intro @fillP.eq_2 <| And.intro @setAt.eq_1 <| And.intro @setAt.eq_2 <| And.intro @List.set_cons_zero.{0} <| @List.set_cons_succ.{0}
theorem lw4 : type_of% (And.intro @storeP.eq_1 <| And.intro @storeP.eq_2 <| And.intro @storeP.eq_3 <| And.intro @stCells.eq_1 <| And.intro @stCells.eq_2 <| And.intro @stCell.eq_1 <| And.intro @stCell.eq_2 <| And.intro @stCell.eq_3 <| And.intro @stCell.eq_4 <| And.intro @PV.dnN.eq_1 <| And.intro @PV.dnN.eq_2 <| And.intro @PV.dn.eq_1 <| And.intro @PV.dn.eq_2 <| And.intro @PV.dn.eq_3 <| And.intro @PV.dn.eq_4 <| And.intro @PV.dn.eq_5 <| And.intro @PV.dn.eq_6 <| And.intro @PV.dn.eq_7 <| And.intro @PV.dn.eq_8 <| And.intro @PV.dn.eq_9 <| And.intro @PV.dn.eq_10 <| And.intro @PV.dn.eq_11 <| And.intro @PV.dn.eq_12 <| And.intro @PV.dn.eq_13 <| And.intro @PV.dn.eq_14 <| And.intro @PV.dn.eq_15 <| And.intro @PV.dn.eq_16 <| And.intro @PV.dn.eq_17 <| And.intro @PV.dn.eq_18 <| And.intro @PV.dn.eq_19 <| And.intro @PV.dnL.eq_1 <| And.intro @PV.dnL.eq_2 <| And.intro @retOf.eq_1 <| And.intro @rdRes.eq_1 <| And.intro @rdRes.eq_2 <| And.intro @rdRes.eq_3 <| And.intro @retL.eq_1 <| And.intro @retL.eq_2 <| And.intro @ret1.eq_1 <| And.intro @ret1.eq_2 <| And.intro @ret1.eq_3 <| And.intro @ret1.eq_4 <| And.intro @retV.eq_1 <| And.intro @hand.eq_1 <| And.intro @hand.eq_2 <| And.intro @hand1.eq_1 <| And.intro @hand1.eq_2 <| And.intro @hand1.eq_3 <| And.intro @hand1.eq_4 <| And.intro @handL.eq_1 <| And.intro @handL.eq_2 <| And.intro @handA.eq_1 <| And.intro @handA.eq_2 <| And.intro @callP.eq_1 <| And.intro @callP.eq_2 <| And.intro @List.append_nil.{0} <| And.intro @List.nil_append.{0} <| And.intro @List.any_cons.{0} <| And.intro @List.any_nil.{0} <| @PV.hasSl.eq_1) := And.intro @storeP.eq_1 <| And.intro @storeP.eq_2 <| And.intro @storeP.eq_3 <| And.intro @stCells.eq_1 <| And.intro @stCells.eq_2 <| And.intro @stCell.eq_1 <| And.intro @stCell.eq_2 <| And.intro @stCell.eq_3 <| And.intro @stCell.eq_4 <| And.intro @PV.dnN.eq_1 <| And.intro @PV.dnN.eq_2 <| And.intro @PV.dn.eq_1 <| And.intro @PV.dn.eq_2 <| And.intro @PV.dn.eq_3 <| And.intro @PV.dn.eq_4 <| And.intro @PV.dn.eq_5 <| And.intro @PV.dn.eq_6 <| And.intro @PV.dn.eq_7 <| And.intro @PV.dn.eq_8 <| And.intro @PV.dn.eq_9 <| And.intro @PV.dn.eq_10 <| And.intro @PV.dn.eq_11 <| And.intro @PV.dn.eq_12 <| And.intro @PV.dn.eq_13 <| And.intro @PV.dn.eq_14 <| And.intro @PV.dn.eq_15 <| And.intro @PV.dn.eq_16 <| And.intro @PV.dn.eq_17 <| And.intro @PV.dn.eq_18 <| And.intro @PV.dn.eq_19 <| And.intro @PV.dnL.eq_1 <| And.intro @PV.dnL.eq_2 <| And.intro @retOf.eq_1 <| And.intro @rdRes.eq_1 <| And.intro @rdRes.eq_2 <| And.intro @rdRes.eq_3 <| And.intro @retL.eq_1 <| And.intro @retL.eq_2 <| And.intro @ret1.eq_1 <| And.intro @ret1.eq_2 <| And.intro @ret1.eq_3 <| And.intro @ret1.eq_4 <| And.intro @retV.eq_1 <| And.intro @hand.eq_1 <| And.intro @hand.eq_2 <| And.intro @hand1.eq_1 <| And.intro @hand1.eq_2 <| And.intro @hand1.eq_3 <| And.intro @hand1.eq_4 <| And.intro @handL.eq_1 <| And.intro @handL.eq_2 <| And.intro @handA.eq_1 <| And.intro @handA.eq_2 <| And.intro @callP.eq_1 <| And.intro @callP.eq_2 <| And.intro @List.append_nil.{0} <| And.intro @List.nil_append.{0} <| And.intro @List.any_cons.{0} <| And.intro @List.any_nil.{0} <| @PV.hasSl.eq_1
theorem lw5 : type_of% (And.intro @PV.hasSl.eq_2 <| And.intro @PV.isSl.eq_1 <| And.intro @PV.isSl.eq_2 <| And.intro @Bool.or_false <| And.intro @Bool.false_or <| And.intro @Bool.false_eq_true <| And.intro @if_false.{1} <| And.intro @slcP.eq_1 <| And.intro @slcP.eq_2 <| And.intro @slcP.eq_3 <| And.intro @slcP.eq_4 <| And.intro @slcGo.eq_1 <| And.intro @fullOf.eq_1 <| And.intro @fullOf.eq_2 <| And.intro @idx.eq_1 <| And.intro @idx.eq_2 <| And.intro @idx.eq_3 <| And.intro @iaddrP.eq_1 <| And.intro @iaddrP.eq_2 <| And.intro @iaddrP.eq_3 <| And.intro @iaddrP.eq_4 <| And.intro @lenP.eq_1 <| And.intro @lenP.eq_2 <| And.intro @lenP.eq_3 <| And.intro @lenP.eq_4 <| And.intro @lenS.eq_1 <| And.intro @lenS.eq_2 <| And.intro @appendP.eq_1 <| And.intro @newArr.eq_1 <| And.intro @view.eq_1 <| And.intro @view.eq_2 <| And.intro @view.eq_3 <| And.intro @view.eq_4 <| And.intro @srcRows.eq_1 <| And.intro @srcRows.eq_2 <| And.intro @srcRows.eq_3 <| And.intro @bigRow.eq_1 <| And.intro @okA.eq_1 <| And.intro @okA.eq_2 <| And.intro @okA.eq_3 <| And.intro @eqCells.eq_1 <| And.intro @eqCells.eq_2 <| And.intro @eqCells.eq_3 <| And.intro @eqCells.eq_4 <| And.intro @eqCells.eq_5 <| And.intro @convP.eq_1 <| And.intro @convP.eq_2 <| And.intro @convP.eq_3 <| And.intro @convP.eq_4 <| And.intro @convP.eq_5 <| And.intro @slsP.eq_1 <| And.intro @slsP.eq_2 <| And.intro @gd_tb <| And.intro @gd_fb <| And.intro @List.cons_append.{0} <| And.intro @Option.getD_none.{0} <| And.intro @List.getElem?_nil.{0} <| And.intro @AK.slot.injEq <| And.intro @AK.cell.injEq <| @decide_true) := And.intro @PV.hasSl.eq_2 <| And.intro @PV.isSl.eq_1 <| And.intro @PV.isSl.eq_2 <| And.intro @Bool.or_false <| And.intro @Bool.false_or <| And.intro @Bool.false_eq_true <| And.intro @if_false.{1} <| And.intro @slcP.eq_1 <| And.intro @slcP.eq_2 <| And.intro @slcP.eq_3 <| And.intro @slcP.eq_4 <| And.intro @slcGo.eq_1 <| And.intro @fullOf.eq_1 <| And.intro @fullOf.eq_2 <| And.intro @idx.eq_1 <| And.intro @idx.eq_2 <| And.intro @idx.eq_3 <| And.intro @iaddrP.eq_1 <| And.intro @iaddrP.eq_2 <| And.intro @iaddrP.eq_3 <| And.intro @iaddrP.eq_4 <| And.intro @lenP.eq_1 <| And.intro @lenP.eq_2 <| And.intro @lenP.eq_3 <| And.intro @lenP.eq_4 <| And.intro @lenS.eq_1 <| And.intro @lenS.eq_2 <| And.intro @appendP.eq_1 <| And.intro @newArr.eq_1 <| And.intro @view.eq_1 <| And.intro @view.eq_2 <| And.intro @view.eq_3 <| And.intro @view.eq_4 <| And.intro @srcRows.eq_1 <| And.intro @srcRows.eq_2 <| And.intro @srcRows.eq_3 <| And.intro @bigRow.eq_1 <| And.intro @okA.eq_1 <| And.intro @okA.eq_2 <| And.intro @okA.eq_3 <| And.intro @eqCells.eq_1 <| And.intro @eqCells.eq_2 <| And.intro @eqCells.eq_3 <| And.intro @eqCells.eq_4 <| And.intro @eqCells.eq_5 <| And.intro @convP.eq_1 <| And.intro @convP.eq_2 <| And.intro @convP.eq_3 <| And.intro @convP.eq_4 <| And.intro @convP.eq_5 <| And.intro @slsP.eq_1 <| And.intro @slsP.eq_2 <| And.intro @gd_tb <| And.intro @gd_fb <| And.intro @List.cons_append.{0} <| And.intro @Option.getD_none.{0} <| And.intro @List.getElem?_nil.{0} <| And.intro @AK.slot.injEq <| And.intro @AK.cell.injEq <| @decide_true
theorem lw6 : type_of% (And.intro @decide_false <| And.intro @Bool.not_true <| And.intro @Bool.not_false <| And.intro @Option.isNone_none.{0} <| And.intro @Option.isSome_none.{0} <| And.intro @Option.isSome_some.{0} <| And.intro @Option.isNone_some.{0} <| And.intro @prep.eq_1 <| And.intro @prep.eq_2 <| And.intro @Ac.kill.eq_1 <| And.intro @PV.int.injEq <| And.intro @beq_self_eq_true.{0} <| And.intro @decide_eq_true_eq <| And.intro @Bool.not_eq_true <| And.intro @decide_eq_false_iff_not <| And.intro @true_or <| And.intro @or_true <| And.intro @false_or <| And.intro @or_false <| And.intro @false_and <| And.intro @and_false <| And.intro @Bool.not_not <| And.intro @Classical.not_not <| And.intro @Bool.false_and <| And.intro @Bool.and_false <| And.intro @Bool.and_self <| And.intro @ite_self.{1} <| And.intro @PV.pure.eq_1 <| And.intro @PV.pure.eq_2 <| And.intro @PV.pure.eq_3 <| And.intro @PV.pure.eq_4 <| And.intro @PV.pure.eq_5 <| And.intro @PV.pure.eq_6 <| And.intro @PV.pure.eq_7 <| And.intro @PV.pure.eq_8 <| And.intro @PV.pure.eq_9 <| And.intro @PV.plain.eq_1 <| And.intro @PV.plain.eq_2 <| And.intro @PV.plain.eq_3 <| And.intro @PV.plain.eq_4 <| And.intro @PV.plain.eq_5 <| And.intro @PV.plain.eq_6 <| And.intro @PV.plain.eq_7 <| And.intro @PV.plain.eq_8 <| And.intro @PV.plain.eq_9 <| And.intro @PV.plainL.eq_1 <| And.intro @PV.plainL.eq_2 <| And.intro @Ret.plain.eq_1 <| And.intro @Ret.plain.eq_2 <| And.intro @allPure.eq_1 <| And.intro @List.isEmpty_nil.{0} <| And.intro @List.isEmpty_cons.{0} <| And.intro @Bool.or_true <| And.intro @Bool.true_or <| And.intro @encL_length <| And.intro @List.length_map.{0,0} <| And.intro @encL_get <| And.intro @List.getElem?_map.{0,0} <| And.intro @encL_drop <| @encL_take) := And.intro @decide_false <| And.intro @Bool.not_true <| And.intro @Bool.not_false <| And.intro @Option.isNone_none.{0} <| And.intro @Option.isSome_none.{0} <| And.intro @Option.isSome_some.{0} <| And.intro @Option.isNone_some.{0} <| And.intro @prep.eq_1 <| And.intro @prep.eq_2 <| And.intro @Ac.kill.eq_1 <| And.intro @PV.int.injEq <| And.intro @beq_self_eq_true.{0} <| And.intro @decide_eq_true_eq <| And.intro @Bool.not_eq_true <| And.intro @decide_eq_false_iff_not <| And.intro @true_or <| And.intro @or_true <| And.intro @false_or <| And.intro @or_false <| And.intro @false_and <| And.intro @and_false <| And.intro @Bool.not_not <| And.intro @Classical.not_not <| And.intro @Bool.false_and <| And.intro @Bool.and_false <| And.intro @Bool.and_self <| And.intro @ite_self.{1} <| And.intro @PV.pure.eq_1 <| And.intro @PV.pure.eq_2 <| And.intro @PV.pure.eq_3 <| And.intro @PV.pure.eq_4 <| And.intro @PV.pure.eq_5 <| And.intro @PV.pure.eq_6 <| And.intro @PV.pure.eq_7 <| And.intro @PV.pure.eq_8 <| And.intro @PV.pure.eq_9 <| And.intro @PV.plain.eq_1 <| And.intro @PV.plain.eq_2 <| And.intro @PV.plain.eq_3 <| And.intro @PV.plain.eq_4 <| And.intro @PV.plain.eq_5 <| And.intro @PV.plain.eq_6 <| And.intro @PV.plain.eq_7 <| And.intro @PV.plain.eq_8 <| And.intro @PV.plain.eq_9 <| And.intro @PV.plainL.eq_1 <| And.intro @PV.plainL.eq_2 <| And.intro @Ret.plain.eq_1 <| And.intro @Ret.plain.eq_2 <| And.intro @allPure.eq_1 <| And.intro @List.isEmpty_nil.{0} <| And.intro @List.isEmpty_cons.{0} <| And.intro @Bool.or_true <| And.intro @Bool.true_or <| And.intro @encL_length <| And.intro @List.length_map.{0,0} <| And.intro @encL_get <| And.intro @List.getElem?_map.{0,0} <| And.intro @encL_drop <| @encL_take
theorem lw7 : type_of% (And.intro @map_drop' <| And.intro @map_take' <| And.intro @take_len <| And.intro @take_encL_app <| And.intro @take_map_app <| And.intro @nat_nonneg <| And.intro @Int.toNat_natCast <| And.intro @cnd_b <| And.intro @cnd_and <| And.intro @wrap_i64 <| And.intro @bytesOf.eq_1 <| And.intro @bytesOf.eq_2 <| And.intro @bytesOf.eq_3 <| And.intro @bytesOf_eB <| And.intro @bytes_eB <| And.intro @eI.eq_1 <| And.intro @eK.eq_1 <| And.intro @eB.eq_1 <| And.intro @eS.eq_1 <| And.intro @eO.eq_1 <| And.intro @rowsP.eq_1 <| And.intro @rowsP.eq_2 <| And.intro @List.replicate.eq_1.{0} <| And.intro @List.replicate.eq_2.{0} <| And.intro @List.length_append.{0} <| And.intro @encL_nil <| And.intro @encL_cons <| And.intro @encL_app <| @List.map_append.{0,0}) := And.intro @map_drop' <| And.intro @map_take' <| And.intro @take_len <| And.intro @take_encL_app <| And.intro @take_map_app <| And.intro @nat_nonneg <| And.intro @Int.toNat_natCast <| And.intro @cnd_b <| And.intro @cnd_and <| And.intro @wrap_i64 <| And.intro @bytesOf.eq_1 <| And.intro @bytesOf.eq_2 <| And.intro @bytesOf.eq_3 <| And.intro @bytesOf_eB <| And.intro @bytes_eB <| And.intro @eI.eq_1 <| And.intro @eK.eq_1 <| And.intro @eB.eq_1 <| And.intro @eS.eq_1 <| And.intro @eO.eq_1 <| And.intro @rowsP.eq_1 <| And.intro @rowsP.eq_2 <| And.intro @List.replicate.eq_1.{0} <| And.intro @List.replicate.eq_2.{0} <| And.intro @List.length_append.{0} <| And.intro @encL_nil <| And.intro @encL_cons <| And.intro @encL_app <| @List.map_append.{0,0}
theorem nat_le_self (n : Nat) : (n ≤ n) = True := by simp
theorem ex_w {cl : Oracle} {kd : Bool} {d : Option Nat} {o : VO} {ac : Ac} : ex cl kd d (.w o) ac = vo d ac (vop ac.ev [] o) := rfl
theorem thF_nor {SP : Prg} {ac : Ac} {ops : List SOper} {tot : List Bool} : thF SP (.nor ac) ops tot = evD (call SP) ops tot (prep ops ac) := rfl
theorem joinA_nil (a : List PV) : joinA a [] = a := by simp [joinA]
theorem joinA_meth (a vs : List PV) : joinA a [.tup vs] = vs ++ a := rfl
theorem joinA_two (a : List PV) (u v : PV) (r : List PV) : joinA a (u :: v :: r) = a ++ (u :: v :: r) := by cases u <;> rfl
theorem joinA_bool (a : List PV) (b : Bool) : joinA a [.bool b] = a ++ [.bool b] := rfl
theorem joinA_int (a : List PV) (k : IntKind) (n : Int) : joinA a [.int k n] = a ++ [.int k n] := rfl
theorem joinA_str (a : List PV) (s : List UInt8) : joinA a [.str s] = a ++ [.str s] := rfl
theorem joinA_nils (a : List PV) (z : Nat) : joinA a [.nils z] = a ++ [.nils z] := rfl
theorem joinA_list (a : List PV) (z : Nat) (r : List (List PV)) (f : Bool) : joinA a [.list z r f] = a ++ [.list z r f] := rfl
theorem joinA_agg (a : List PV) (vs : List PV) : joinA a [.agg vs] = a ++ [.agg vs] := rfl
theorem joinA_ptr (a : List PV) (n t o : Nat) : joinA a [.ptr n t o] = a ++ [.ptr n t o] := rfl
theorem joinA_rowp (a : List PV) (r : List PV) (o : Nat) : joinA a [.rowp r o] = a ++ [.rowp r o] := rfl
theorem joinA_elem (a : List PV) (n : Nat) (k : AK) (i o v g : Nat) : joinA a [.elem n k i o v g] = a ++ [.elem n k i o v g] := rfl
theorem joinA_sl (a : List PV) (n : Nat) (k : AK) (o l v g : Nat) (f : Bool) : joinA a [.sl n k o l v g f] = a ++ [.sl n k o l v g f] := rfl
theorem joinA_func (a : List PV) (f : Nat) (c : List PV) : joinA a [.func f c] = a ++ [.func f c] := rfl
theorem joinA_iface (a : List PV) (t : Nat) (v : PV) : joinA a [.iface t v] = a ++ [.iface t v] := rfl
theorem joinA_nili (a : List PV)  : joinA a [.nili] = a ++ [.nili] := rfl
theorem lw : type_of% (And.intro nat_le_self <| And.intro @ex_w <| And.intro @E_sreg <| And.intro @thF_nor <| And.intro @frzC.eq_1 <| And.intro @frzC.eq_2 <| And.intro @o_upN_func <| And.intro @app_lit <| And.intro @joinA_nil <| And.intro @joinA_meth <| And.intro @joinA_two <| And.intro @joinA_bool <| And.intro @joinA_int <| And.intro @joinA_str <| And.intro @joinA_nils <| And.intro @joinA_list <| And.intro @joinA_agg <| And.intro @joinA_ptr <| And.intro @joinA_rowp <| And.intro @joinA_elem <| And.intro @joinA_sl <| And.intro @joinA_func <| And.intro @joinA_iface <| And.intro @joinA_nili <| And.intro @vop.eq_23 <| And.intro @vop.eq_24 <| And.intro @ac0.eq_1 <| And.intro @o_length_setBox <| And.intro @o_length_setArr <| And.intro @o_getBox_setBox <| And.intro @o_getArr_setArr <| And.intro @o_getBox_setArr <| And.intro @o_getArr_setBox <| And.intro @o_setBox_setBox <| And.intro @o_setArr_setArr <| And.intro @o_setBox_setArr <| And.intro @o_setBox_same <| And.intro @o_setArr_same <| And.intro @o_upN_int <| And.intro @o_upN_bool <| And.intro @o_upN_str <| And.intro @o_upN_list <| And.intro @o_upN_sl <| And.intro @o_upN_agg <| And.intro @o_dnN_int <| And.intro @o_dnN_bool <| And.intro @o_dnN_str <| And.intro @succ_ne_zero' <| And.intro @o_killL_up <| And.intro @AK.isCell.eq_1 <| And.intro @AK.isCell.eq_2 <| And.intro lw0 <| And.intro lw1 <| And.intro lw2 <| And.intro lw3 <| And.intro lw4 <| And.intro lw5 <| And.intro lw6 <| lw7) := And.intro nat_le_self <| And.intro @ex_w <| And.intro @E_sreg <| And.intro @thF_nor <| And.intro @frzC.eq_1 <| And.intro @frzC.eq_2 <| And.intro @o_upN_func <| And.intro @app_lit <| And.intro @joinA_nil <| And.intro @joinA_meth <| And.intro @joinA_two <| And.intro @joinA_bool <| And.intro @joinA_int <| And.intro @joinA_str <| And.intro @joinA_nils <| And.intro @joinA_list <| And.intro @joinA_agg <| And.intro @joinA_ptr <| And.intro @joinA_rowp <| And.intro @joinA_elem <| And.intro @joinA_sl <| And.intro @joinA_func <| And.intro @joinA_iface <| And.intro @joinA_nili <| And.intro @vop.eq_23 <| And.intro @vop.eq_24 <| And.intro @ac0.eq_1 <| And.intro @o_length_setBox <| And.intro @o_length_setArr <| And.intro @o_getBox_setBox <| And.intro @o_getArr_setArr <| And.intro @o_getBox_setArr <| And.intro @o_getArr_setBox <| And.intro @o_setBox_setBox <| And.intro @o_setArr_setArr <| And.intro @o_setBox_setArr <| And.intro @o_setBox_same <| And.intro @o_setArr_same <| And.intro @o_upN_int <| And.intro @o_upN_bool <| And.intro @o_upN_str <| And.intro @o_upN_list <| And.intro @o_upN_sl <| And.intro @o_upN_agg <| And.intro @o_dnN_int <| And.intro @o_dnN_bool <| And.intro @o_dnN_str <| And.intro @succ_ne_zero' <| And.intro @o_killL_up <| And.intro @AK.isCell.eq_1 <| And.intro @AK.isCell.eq_2 <| And.intro lw0 <| And.intro lw1 <| And.intro lw2 <| And.intro lw3 <| And.intro lw4 <| And.intro lw5 <| And.intro lw6 <| lw7
theorem lx : type_of% (And.intro (show IntKind.u64.bits = 64 from rfl) <| And.intro (show min 1 64 = 1 from rfl) <| And.intro (show (2 : Int) ^ 1 = 2 from rfl) <| And.intro @decide_not <| And.intro @isnileP_eql <| And.intro @isnileP_neq <| And.intro @Option.bind_some.{0,0} <| And.intro @UInt8.toNat_zero <| And.intro @UInt8.ofNat_toNat <| And.intro @Int.natCast_zero <| And.intro @Int.ofNat_eq_natCast <| And.intro @Nat.zero_le <| And.intro @Nat.sub_zero <| And.intro @take_app3 <| And.intro @set_get <| And.intro @take_set <| And.intro @List.length_set.{0} <| And.intro @List.map_set.{0,0} <| @Int.cast_ofNat_Int) := And.intro (show IntKind.u64.bits = 64 from rfl) <| And.intro (show min 1 64 = 1 from rfl) <| And.intro (show (2 : Int) ^ 1 = 2 from rfl) <| And.intro @decide_not <| And.intro @isnileP_eql <| And.intro @isnileP_neq <| And.intro @Option.bind_some.{0,0} <| And.intro @UInt8.toNat_zero <| And.intro @UInt8.ofNat_toNat <| And.intro @Int.natCast_zero <| And.intro @Int.ofNat_eq_natCast <| And.intro @Nat.zero_le <| And.intro @Nat.sub_zero <| And.intro @take_app3 <| And.intro @set_get <| And.intro @take_set <| And.intro @List.length_set.{0} <| And.intro @List.map_set.{0,0} <| @Int.cast_ofNat_Int
end Go.Proofs.YtljgfdhlfjbafaaDoor.M

/- The program's structs as data, and their cells. Printed by a program of this session (lift.py). -/
namespace Go.Proofs.YtljgfdhlfjbafaaDoor.M
open Go
structure Part where
  Ref : Bool
  Text : List UInt8
def ePart (x : Part) : List PV := [.bool x.Ref, .str x.Text]
structure Token where
  Kind : Int
  Text : List UInt8
  Num : Int
  Parts : List Part
  At : Int
def eToken (x : Token) : List PV := [.int .i64 x.Kind, .str x.Text, .int .i64 x.Num, .list 2 (x.Parts.map ePart) false, .int .i64 x.At]
structure Tokens where
  L : List Token
  E : Int
def eTokens (x : Tokens) : List PV := [.list 5 (x.L.map eToken) false, .int .i64 x.E]
structure LText where
  left : List UInt8
  pos : Int
def eLText (x : LText) : List PV := [.str x.left, .int .i64 x.pos]
structure LTokens where
  text : LText
  out : List Token
def eLTokens (x : LTokens) : List PV := [.str x.text.left, .int .i64 x.text.pos, .list 5 (x.out.map eToken) false]
/-- All cells' laws in one. -/
theorem le : type_of% (And.intro @enc_eq <| And.intro @eI.eq_1 <| And.intro @eK.eq_1 <| And.intro @eB.eq_1 <| And.intro @eS.eq_1 <| And.intro @eO.eq_1 <| And.intro @eF.eq_1 <| And.intro @eLB.eq_1 <| And.intro @eLS.eq_1 <| And.intro @V_k <| And.intro @V_n <| And.intro @V_s <| And.intro @V_l <| And.intro @encL_nil <| And.intro @encL_cons <| And.intro @encL_app <| And.intro @List.map_cons.{0,0} <| And.intro @List.map_nil.{0,0} <| And.intro @List.map_append.{0,0} <| And.intro @ePart.eq_1 <| And.intro @eToken.eq_1 <| And.intro @eTokens.eq_1 <| And.intro @eLText.eq_1 <| @eLTokens.eq_1) := And.intro @enc_eq <| And.intro @eI.eq_1 <| And.intro @eK.eq_1 <| And.intro @eB.eq_1 <| And.intro @eS.eq_1 <| And.intro @eO.eq_1 <| And.intro @eF.eq_1 <| And.intro @eLB.eq_1 <| And.intro @eLS.eq_1 <| And.intro @V_k <| And.intro @V_n <| And.intro @V_s <| And.intro @V_l <| And.intro @encL_nil <| And.intro @encL_cons <| And.intro @encL_app <| And.intro @List.map_cons.{0,0} <| And.intro @List.map_nil.{0,0} <| And.intro @List.map_append.{0,0} <| And.intro @ePart.eq_1 <| And.intro @eToken.eq_1 <| And.intro @eTokens.eq_1 <| And.intro @eLText.eq_1 <| @eLTokens.eq_1
/-- A goal that is reckoned with facts. -/
theorem aa {p q : Prop} (a : p) (b : q) : p ∧ q := ⟨a, b⟩
theorem fi {p F : Prop} (f : F) (h : F → p := by intro f; simp only [f, lw, lx, le, Nat.reduceMul, UInt8.reduceToNat, reduceIte, reduceCtorEq, Nat.reduceEqDiff, Nat.reduceAdd, Nat.reduceLeDiff, Nat.reduceSub, Nat.reduceLT, Int.reduceEq, Int.reduceLT, Int.reduceLE, Int.reduceToNat, Int.reduceAdd, Int.reduceSub, Int.reduceMul, Int.reduceNeg]) : p := h f
end Go.Proofs.YtljgfdhlfjbafaaDoor.M

/- Functions of Go's library that are told by contracts; and all functions, as the machine has them. Printed by a program of this session (lift.py). -/
namespace Go.Proofs.YtljgfdhlfjbafaaDoor.M
set_option linter.unusedVariables false
open Go Classical
noncomputable def exts : Nat → Option (List PV → Option PV) := fun f => if f = 45 then some (itoaX) else if f = 26 then some (cutX) else if f = 62 then some (indexX) else if f = 25 then some (prefixX) else if f = 43 then some (containsX) else if f = 22 then some (replaceX) else if f = 44 then some (atoiX 100) else  none
noncomputable def SP : Prg := SPof Tryd.prog exts
theorem sp_strconv_Itoa : SP 45 = some (.ext (itoaX)) := rfl
theorem sp_strings_Cut : SP 26 = some (.ext (cutX)) := rfl
theorem sp_strings_IndexByte : SP 62 = some (.ext (indexX)) := rfl
theorem sp_strings_HasPrefix : SP 25 = some (.ext (prefixX)) := rfl
theorem sp_strings_Contains : SP 43 = some (.ext (containsX)) := rfl
theorem sp_strings_ReplaceAll : SP 22 = some (.ext (replaceX)) := rfl
theorem sp_strconv_Atoi : SP 44 = some (.ext (atoiX 100)) := rfl
end Go.Proofs.YtljgfdhlfjbafaaDoor.M

/- What a call of a function yields, over plain data: a name for each. Printed by a program of this session (lift.py). -/
namespace Go.Proofs.YtljgfdhlfjbafaaDoor.M
open Go Classical
def RF_1 (f : Nat)  : Prop := ∀ (S : Sto), call SP f [] S = .ok (.v (.tup [])) S
def RF_22 (f : Nat) (r0 : Bool) : Prop := ∀ (S : Sto), call SP f [] S = .ok (.v (.bool r0)) S
def RF_26 (f : Nat) (x0 : List UInt8) (r0 : List Token) (r1 : Int) : Prop := ∀ (S : Sto), call SP f [.str x0] S = .ok (.v (.tup [.list 5 (r0.map eToken) false, .int .i64 r1])) S
def RF_29 (f : Nat) (x0 : List UInt8) (r0 : Tokens) : Prop := ∀ (S : Sto), call SP f [.str x0] S = .ok (.v (.agg [.list 5 (r0.L.map eToken) false, .int .i64 r0.E])) S
def RF_30 (f : Nat) (x0 : List Token) (x1 : List Token) (r0 : Bool) : Prop := ∀ (S : Sto), call SP f [.list 5 (x0.map eToken) false, .list 5 (x1.map eToken) false] S = .ok (.v (.bool r0)) S
def RF_31 (f : Nat) (x0 : Int) (r0 : Int) : Prop := ∀ (S : Sto), call SP f [.int .i64 x0] S = .ok (.v (.int .i64 r0)) S
def RF_32 (f : Nat) (x0 : List UInt8) (r0 : Bool) : Prop := ∀ (S : Sto), call SP f [.str x0] S = .ok (.v (.bool r0)) S
def RF_38 (f : Nat) (x0 : List UInt8) (x1 : List UInt8) (r0 : Bool) : Prop := ∀ (S : Sto), call SP f [.str x0, .list 1 (x1.map eB) false] S = .ok (.v (.bool r0)) S
def RF_41 (f : Nat) (x0 : List Part) (x1 : List Part) (r0 : Bool) : Prop := ∀ (S : Sto), call SP f [.list 2 (x0.map ePart) false, .list 2 (x1.map ePart) false] S = .ok (.v (.bool r0)) S
def RF_42 (f : Nat) (x0 : UInt8) (x1 : UInt8) (x2 : UInt8) (r0 : Bool) : Prop := ∀ (S : Sto), call SP f [.int .u8 ((x0.toNat : Nat) : Int), .int .u8 ((x1.toNat : Nat) : Int), .int .u8 ((x2.toNat : Nat) : Int)] S = .ok (.v (.bool r0)) S
def RF_45 (f : Nat) (x0 : Int) (r0 : List UInt8) : Prop := ∀ (S : Sto), call SP f [.int .i64 x0] S = .ok (.v (.str r0)) S
def RF_46 (f : Nat) (x0 : Int) (r0 : Bool) : Prop := ∀ (S : Sto), call SP f [.int .u64 x0] S = .ok (.v (.bool r0)) S
def RF_53 (f : Nat) (x0 : List UInt8) (x1 : Int) (r0 : Token) (r1 : Int) : Prop := ∀ (S : Sto), call SP f [.str x0, .int .i64 x1] S = .ok (.v (.tup [.agg [.int .i64 r0.Kind, .str r0.Text, .int .i64 r0.Num, .list 2 (r0.Parts.map ePart) false, .int .i64 r0.At], .int .i64 r1])) S
def RF_54 (f : Nat) (x0 : List UInt8) (x1 : List UInt8) (x2 : List UInt8) (r0 : List UInt8) : Prop := ∀ (S : Sto), call SP f [.str x0, .str x1, .str x2] S = .ok (.v (.str r0)) S
def RF_55 (f : Nat) (x0 : UInt8) (r0 : Bool) : Prop := ∀ (S : Sto), call SP f [.int .u8 ((x0.toNat : Nat) : Int)] S = .ok (.v (.bool r0)) S
def RF_56 (f : Nat) (x0 : List Int) (r0 : List UInt8) : Prop := ∀ (S : Sto), call SP f [.list 1 (x0.map eI) false] S = .ok (.v (.str r0)) S
def RF_57 (f : Nat) (x0 : List UInt8) (x1 : List UInt8) (r0 : Bool) : Prop := ∀ (S : Sto), call SP f [.str x0, .str x1] S = .ok (.v (.bool r0)) S
def RF_59 (f : Nat) (x0 : List UInt8) (x1 : List UInt8) (r0 : List UInt8) (r1 : List UInt8) (r2 : Bool) : Prop := ∀ (S : Sto), call SP f [.str x0, .str x1] S = .ok (.v (.tup [.str r0, .str r1, .bool r2])) S
def RF_60 (f : Nat) (r0 : Token) (r1 : Bool) : Prop := ∀ (S : Sto), call SP f [] S = .ok (.v (.tup [.agg [.int .i64 r0.Kind, .str r0.Text, .int .i64 r0.Num, .list 2 (r0.Parts.map ePart) false, .int .i64 r0.At], .bool r1])) S
def RF_61 (f : Nat) (x0 : UInt8) (r0 : Int) : Prop := ∀ (S : Sto), call SP f [.int .u8 ((x0.toNat : Nat) : Int)] S = .ok (.v (.int .i64 r0)) S
def RF_63 (f : Nat) (x0 : List UInt8) (x1 : Int) (r0 : Int) : Prop := ∀ (S : Sto), call SP f [.str x0, .int .i64 x1] S = .ok (.v (.int .i64 r0)) S
def RF_64 (f : Nat) (x0 : List UInt8) (x1 : Int) (r0 : List UInt8) : Prop := ∀ (S : Sto), call SP f [.str x0, .int .i64 x1] S = .ok (.v (.str r0)) S
def RF_65 (f : Nat) (x0 : List UInt8) (x1 : List Int) (r0 : Int) : Prop := ∀ (S : Sto), call SP f [.str x0, .list 1 (x1.map eI) false] S = .ok (.v (.int .i64 r0)) S
def RF_66 (f : Nat) (x0 : List UInt8) (x1 : List UInt8) (x2 : List UInt8) (x3 : Int) (r0 : List UInt8) : Prop := ∀ (S : Sto), call SP f [.str x0, .str x1, .str x2, .int .i64 x3] S = .ok (.v (.str r0)) S
def RF_69 (f : Nat) (x0 : List (List UInt8)) (x1 : List UInt8) (r0 : Bool) : Prop := ∀ (S : Sto), call SP f [.list 1 (x0.map eS) false, .str x1] S = .ok (.v (.bool r0)) S
def RF_73 (f : Nat) (x0 : List UInt8) (r0 : Int) (r1 : Bool) : Prop := ∀ (S : Sto), call SP f [.str x0] S = .ok (.v (.tup [.int .i64 r0, eE 100 r1])) S
def RF_76 (f : Nat) (x0 : List UInt8) (r0 : UInt8) (r1 : Bool) : Prop := ∀ (S : Sto), call SP f [.str x0] S = .ok (.v (.tup [.int .u8 ((r0.toNat : Nat) : Int), .bool r1])) S
def RF_77 (f : Nat) (x0 : UInt8) : Prop := ∀ (S : Sto), call SP f [.int .u8 ((x0.toNat : Nat) : Int)] S = .ok (.v (.tup [])) S
def RF_79 (f : Nat) (x0 : List UInt8) (r0 : List UInt8) (r1 : Bool) : Prop := ∀ (S : Sto), call SP f [.str x0] S = .ok (.v (.tup [.str r0, .bool r1])) S
def RF_80 (f : Nat) (x0 : List Int) (x1 : Int) (r0 : Bool) : Prop := ∀ (S : Sto), call SP f [.list 1 (x0.map eI) false, .int .i64 x1] S = .ok (.v (.bool r0)) S
def RF_81 (f : Nat) (x0 : List UInt8) (x1 : List UInt8) (r0 : Int) : Prop := ∀ (S : Sto), call SP f [.str x0, .str x1] S = .ok (.v (.int .i64 r0)) S
def RF_85 (f : Nat) (x0 : Int) : Prop := ∀ (S : Sto), call SP f [.int .i64 x0] S = .ok (.v (.tup [])) S
def RF_87 (f : Nat) (x0 : List UInt8) (r0 : Int) (r1 : Int) : Prop := ∀ (S : Sto), call SP f [.str x0] S = .ok (.v (.tup [.int .i32 r0, .int .i64 r1])) S
def RF_88 (f : Nat) (r0 : List UInt8) : Prop := ∀ (S : Sto), call SP f [] S = .ok (.v (.str r0)) S
def RF_89 (f : Nat) (x0 : List (List UInt8)) (x1 : List UInt8) (r0 : Int) : Prop := ∀ (S : Sto), call SP f [.list 1 (x0.map eS) false, .str x1] S = .ok (.v (.int .i64 r0)) S
def RF_90 (f : Nat) (x0 : List UInt8) (x1 : List UInt8) (x2 : Int) (x3 : Int) (x4 : Bool) (r0 : Bool) : Prop := ∀ (S : Sto), call SP f [.str x0, .str x1, .int .i64 x2, .int .i64 x3, eE 100 x4] S = .ok (.v (eE 100 r0)) S
def RF_91 (f : Nat) (x0 : List UInt8) (x1 : UInt8) (r0 : Int) : Prop := ∀ (S : Sto), call SP f [.str x0, .int .u8 ((x1.toNat : Nat) : Int)] S = .ok (.v (.int .i64 r0)) S
def RF_93 (f : Nat) (x0 : List Int) (x1 : Int) (r0 : Int) : Prop := ∀ (S : Sto), call SP f [.list 1 (x0.map eI) false, .int .i64 x1] S = .ok (.v (.int .i64 r0)) S
def RF_94 (f : Nat) (x0 : List UInt8) (r0 : Int) : Prop := ∀ (S : Sto), call SP f [.str x0] S = .ok (.v (.int .i64 r0)) S
def RF_96 (f : Nat) (x0 : Int) (r0 : Int) : Prop := ∀ (S : Sto), call SP f [.int .i64 x0] S = .ok (.v (.int .i64 r0)) S
def RF_99 (f : Nat) (x0 : List UInt8) (x1 : Int) (x2 : Int) (r0 : Int) (r1 : Bool) : Prop := ∀ (S : Sto), call SP f [.str x0, .int .i64 x1, .int .i64 x2] S = .ok (.v (.tup [.int .i64 r0, eE 100 r1])) S
def RF_103 (f : Nat) (x0 : Int) (x1 : Int) (r0 : List UInt8) : Prop := ∀ (S : Sto), call SP f [.int .i64 x0, .int .i64 x1] S = .ok (.v (.str r0)) S
def RF_106 (f : Nat) (x0 : Int) (r0 : List UInt8) : Prop := ∀ (S : Sto), call SP f [.int .i64 x0] S = .ok (.v (.list 1 (r0.map eB) false)) S
def RF_113 (f : Nat) (x0 : List UInt8) (r0 : Int) (r1 : Int) : Prop := ∀ (S : Sto), call SP f [.str x0] S = .ok (.v (.tup [.int .u32 r0, .int .u32 r1])) S
def RF_115 (f : Nat) (x0 : List UInt8) (x1 : Int) (x2 : Int) (r0 : Int) (r1 : Bool) : Prop := ∀ (S : Sto), call SP f [.str x0, .int .i64 x1, .int .i64 x2] S = .ok (.v (.tup [.int .u64 r0, eE 100 r1])) S
def RF_116 (f : Nat) (x0 : List UInt8) (r0 : List UInt8) : Prop := ∀ (S : Sto), call SP f [.str x0] S = .ok (.v (.str r0)) S
def RF_119 (f : Nat) (x0 : List UInt8) (r0 : Bool) : Prop := ∀ (S : Sto), call SP f [.str x0] S = .ok (.v (eE 100 r0)) S
def RF_121 (f : Nat) (x0 : Int) (r0 : Int) : Prop := ∀ (S : Sto), call SP f [.int .u64 x0] S = .ok (.v (.int .i64 r0)) S
def RF_122 (f : Nat) (x0 : List UInt8) (x1 : Int) : Prop := ∀ (S : Sto), call SP f [.list 1 (x0.map eB) false, .int .u64 x1] S = .ok (.v (.tup [])) S
def RF_124 (f : Nat) (x0 : List UInt8) (x1 : Int) (x2 : Int) (x3 : Bool) (x4 : Bool) (r0 : List UInt8) (r1 : List UInt8) : Prop := ∀ (S : Sto), call SP f [.list 1 (x0.map eB) false, .int .u64 x1, .int .i64 x2, .bool x3, .bool x4] S = .ok (.v (.tup [.list 1 (r0.map eB) false, .str r1])) S
def RF_125 (f : Nat) (x0 : UInt8) (r0 : UInt8) : Prop := ∀ (S : Sto), call SP f [.int .u8 ((x0.toNat : Nat) : Int)] S = .ok (.v (.int .u8 ((r0.toNat : Nat) : Int))) S
def RF_129 (f : Nat) (x0 : Bool) (r0 : Int) : Prop := ∀ (S : Sto), call SP f [.bool x0] S = .ok (.v (.int .i64 r0)) S
def RF_132 (f : Nat) (x0 : Int) (r0 : Bool) : Prop := ∀ (S : Sto), call SP f [.int .i64 x0] S = .ok (.v (.bool r0)) S
def RF_133 (f : Nat) (x0 : Int) (r0 : Int) : Prop := ∀ (S : Sto), call SP f [.int .u64 x0] S = .ok (.v (.int .i64 r0)) S
def RF_134 (f : Nat) (x0 : Int) (r0 : Int) : Prop := ∀ (S : Sto), call SP f [.int .u32 x0] S = .ok (.v (.int .i64 r0)) S
def RF_142 (f : Nat) (r0 : Int) : Prop := ∀ (S : Sto), call SP f [] S = .ok (.v (.int .i64 r0)) S
def R_law1_LexTexts (x0 : List UInt8) (r0 : Bool) : Prop := ∀ (S : Sto), call SP 3 [.str x0] S = .ok (.v (.bool r0)) S
def R_law1_LexGaps (x0 : List UInt8) (x1 : List UInt8) (r0 : Bool) : Prop := ∀ (S : Sto), call SP 4 [.str x0, .list 1 (x1.map eB) false] S = .ok (.v (.bool r0)) S
def R_law1_LexStrings (x0 : List UInt8) (r0 : Bool) : Prop := ∀ (S : Sto), call SP 5 [.str x0] S = .ok (.v (.bool r0)) S
def R_law1_LexParts (x0 : UInt8) (x1 : UInt8) (x2 : UInt8) (r0 : Bool) : Prop := ∀ (S : Sto), call SP 6 [.int .u8 ((x0.toNat : Nat) : Int), .int .u8 ((x1.toNat : Nat) : Int), .int .u8 ((x2.toNat : Nat) : Int)] S = .ok (.v (.bool r0)) S
def R_law1_LexNumbers (x0 : Int) (r0 : Bool) : Prop := ∀ (S : Sto), call SP 7 [.int .u64 x0] S = .ok (.v (.bool r0)) S
def R_law1_LexLabels (x0 : List UInt8) (r0 : Bool) : Prop := ∀ (S : Sto), call SP 8 [.str x0] S = .ok (.v (.bool r0)) S
def R_law1_awake (r0 : Bool) : Prop := ∀ (S : Sto), call SP 9 [] S = .ok (.v (.bool r0)) S
def R_lex_Lex (x0 : List UInt8) (r0 : List Token) (r1 : Int) : Prop := ∀ (S : Sto), call SP 10 [.str x0] S = .ok (.v (.tup [.list 5 (r0.map eToken) false, .int .i64 r1])) S
def R_ref1_Lex (x0 : List UInt8) (r0 : Tokens) : Prop := ∀ (S : Sto), call SP 11 [.str x0] S = .ok (.v (.agg [.list 5 (r0.L.map eToken) false, .int .i64 r0.E])) S
def R_ref1_SameTokens (x0 : List Token) (x1 : List Token) (r0 : Bool) : Prop := ∀ (S : Sto), call SP 12 [.list 5 (x0.map eToken) false, .list 5 (x1.map eToken) false] S = .ok (.v (.bool r0)) S
def R_law1_Num (x0 : Int) (r0 : Int) : Prop := ∀ (S : Sto), call SP 13 [.int .i64 x0] S = .ok (.v (.int .i64 r0)) S
def R_ref1_SameParts (x0 : List Part) (x1 : List Part) (r0 : Bool) : Prop := ∀ (S : Sto), call SP 14 [.list 2 (x0.map ePart) false, .list 2 (x1.map ePart) false] S = .ok (.v (.bool r0)) S
def R_ref1_Digits (x0 : Int) (r0 : List UInt8) : Prop := ∀ (S : Sto), call SP 15 [.int .i64 x0] S = .ok (.v (.str r0)) S
def R_lex_Label (x0 : List UInt8) (r0 : Bool) : Prop := ∀ (S : Sto), call SP 16 [.str x0] S = .ok (.v (.bool r0)) S
def R_ref1_Label (x0 : List UInt8) (r0 : Bool) : Prop := ∀ (S : Sto), call SP 17 [.str x0] S = .ok (.v (.bool r0)) S
def R_ref1_token (x0 : List UInt8) (x1 : Int) (r0 : Token) (r1 : Int) : Prop := ∀ (S : Sto), call SP 20 [.str x0, .int .i64 x1] S = .ok (.v (.tup [.agg [.int .i64 r0.Kind, .str r0.Text, .int .i64 r0.Num, .list 2 (r0.Parts.map ePart) false, .int .i64 r0.At], .int .i64 r1])) S
def R_lex_Name (x0 : List UInt8) (r0 : Bool) : Prop := ∀ (S : Sto), call SP 21 [.str x0] S = .ok (.v (.bool r0)) S
def R_strings_ReplaceAll (x0 : List UInt8) (x1 : List UInt8) (x2 : List UInt8) (r0 : List UInt8) : Prop := ∀ (S : Sto), call SP 22 [.str x0, .str x1, .str x2] S = .ok (.v (.str r0)) S
def R_ref1_digit (x0 : UInt8) (r0 : Bool) : Prop := ∀ (S : Sto), call SP 23 [.int .u8 ((x0.toNat : Nat) : Int)] S = .ok (.v (.bool r0)) S
def R_strings_HasPrefix (x0 : List UInt8) (x1 : List UInt8) (r0 : Bool) : Prop := ∀ (S : Sto), call SP 25 [.str x0, .str x1] S = .ok (.v (.bool r0)) S
def R_strings_Cut (x0 : List UInt8) (x1 : List UInt8) (r0 : List UInt8) (r1 : List UInt8) (r2 : Bool) : Prop := ∀ (S : Sto), call SP 26 [.str x0, .str x1] S = .ok (.v (.tup [.str r0, .str r1, .bool r2])) S
def R_lex_class (x0 : UInt8) (r0 : Int) : Prop := ∀ (S : Sto), call SP 29 [.int .u8 ((x0.toNat : Nat) : Int)] S = .ok (.v (.int .i64 r0)) S
def R_ref1_number (x0 : List UInt8) (x1 : Int) (r0 : Token) (r1 : Int) : Prop := ∀ (S : Sto), call SP 33 [.str x0, .int .i64 x1] S = .ok (.v (.tup [.agg [.int .i64 r0.Kind, .str r0.Text, .int .i64 r0.Num, .list 2 (r0.Parts.map ePart) false, .int .i64 r0.At], .int .i64 r1])) S
def R_ref1_text (x0 : List UInt8) (x1 : Int) (r0 : Token) (r1 : Int) : Prop := ∀ (S : Sto), call SP 34 [.str x0, .int .i64 x1] S = .ok (.v (.tup [.agg [.int .i64 r0.Kind, .str r0.Text, .int .i64 r0.Num, .list 2 (r0.Parts.map ePart) false, .int .i64 r0.At], .int .i64 r1])) S
def R_ref1_begins (x0 : UInt8) (r0 : Bool) : Prop := ∀ (S : Sto), call SP 35 [.int .u8 ((x0.toNat : Nat) : Int)] S = .ok (.v (.bool r0)) S
def R_ref1_nameEnd (x0 : List UInt8) (x1 : Int) (r0 : Int) : Prop := ∀ (S : Sto), call SP 36 [.str x0, .int .i64 x1] S = .ok (.v (.int .i64 r0)) S
def R_ref1_sign (x0 : List UInt8) (x1 : Int) (r0 : List UInt8) : Prop := ∀ (S : Sto), call SP 37 [.str x0, .int .i64 x1] S = .ok (.v (.str r0)) S
def R_lex_span (x0 : List UInt8) (x1 : List Int) (r0 : Int) : Prop := ∀ (S : Sto), call SP 38 [.str x0, .list 1 (x1.map eI) false] S = .ok (.v (.int .i64 r0)) S
def R_strings_Replace (x0 : List UInt8) (x1 : List UInt8) (x2 : List UInt8) (x3 : Int) (r0 : List UInt8) : Prop := ∀ (S : Sto), call SP 39 [.str x0, .str x1, .str x2, .int .i64 x3] S = .ok (.v (.str r0)) S
def R_slices_Contains_string_string (x0 : List (List UInt8)) (x1 : List UInt8) (r0 : Bool) : Prop := ∀ (S : Sto), call SP 42 [.list 1 (x0.map eS) false, .str x1] S = .ok (.v (.bool r0)) S
def R_strings_Contains (x0 : List UInt8) (x1 : List UInt8) (r0 : Bool) : Prop := ∀ (S : Sto), call SP 43 [.str x0, .str x1] S = .ok (.v (.bool r0)) S
def R_strconv_Atoi (x0 : List UInt8) (r0 : Int) (r1 : Bool) : Prop := ∀ (S : Sto), call SP 44 [.str x0] S = .ok (.v (.tup [.int .i64 r0, eE 100 r1])) S
def R_strconv_Itoa (x0 : Int) (r0 : List UInt8) : Prop := ∀ (S : Sto), call SP 45 [.int .i64 x0] S = .ok (.v (.str r0)) S
def R_lex_escaped (x0 : List UInt8) (r0 : UInt8) (r1 : Bool) : Prop := ∀ (S : Sto), call SP 46 [.str x0] S = .ok (.v (.tup [.int .u8 ((r0.toNat : Nat) : Int), .bool r1])) S
def R_lex_reference (x0 : List UInt8) (r0 : List UInt8) (r1 : Bool) : Prop := ∀ (S : Sto), call SP 48 [.str x0] S = .ok (.v (.tup [.str r0, .bool r1])) S
def R_ref1_reference (x0 : List UInt8) (x1 : Int) (r0 : Int) : Prop := ∀ (S : Sto), call SP 49 [.str x0, .int .i64 x1] S = .ok (.v (.int .i64 r0)) S
def R_slices_Contains_int_int (x0 : List Int) (x1 : Int) (r0 : Bool) : Prop := ∀ (S : Sto), call SP 50 [.list 1 (x0.map eI) false, .int .i64 x1] S = .ok (.v (.bool r0)) S
def R_strings_Count (x0 : List UInt8) (x1 : List UInt8) (r0 : Int) : Prop := ∀ (S : Sto), call SP 51 [.str x0, .str x1] S = .ok (.v (.int .i64 r0)) S
def R_strings_Index (x0 : List UInt8) (x1 : List UInt8) (r0 : Int) : Prop := ∀ (S : Sto), call SP 53 [.str x0, .str x1] S = .ok (.v (.int .i64 r0)) S
def R_slices_Index_string_string (x0 : List (List UInt8)) (x1 : List UInt8) (r0 : Int) : Prop := ∀ (S : Sto), call SP 58 [.list 1 (x0.map eS) false, .str x1] S = .ok (.v (.int .i64 r0)) S
def R_strconv_toError (x0 : List UInt8) (x1 : List UInt8) (x2 : Int) (x3 : Int) (x4 : Bool) (r0 : Bool) : Prop := ∀ (S : Sto), call SP 60 [.str x0, .str x1, .int .i64 x2, .int .i64 x3, eE 100 x4] S = .ok (.v (eE 100 r0)) S
def R_strings_IndexByte (x0 : List UInt8) (x1 : UInt8) (r0 : Int) : Prop := ∀ (S : Sto), call SP 62 [.str x0, .int .u8 ((x1.toNat : Nat) : Int)] S = .ok (.v (.int .i64 r0)) S
def R_ref1_Dotted (x0 : List UInt8) (r0 : Bool) : Prop := ∀ (S : Sto), call SP 63 [.str x0] S = .ok (.v (.bool r0)) S
def R_slices_Index_int_int (x0 : List Int) (x1 : Int) (r0 : Int) : Prop := ∀ (S : Sto), call SP 64 [.list 1 (x0.map eI) false, .int .i64 x1] S = .ok (.v (.int .i64 r0)) S
def R_ref1_Name (x0 : List UInt8) (r0 : Bool) : Prop := ∀ (S : Sto), call SP 80 [.str x0] S = .ok (.v (.bool r0)) S
end Go.Proofs.YtljgfdhlfjbafaaDoor.M

/- What a call of a function yields, over plain data: a name for each. Printed by a program of this session (lift.py). -/
namespace Go.Proofs.YtljgfdhlfjbafaaDoor.M
open Go Classical
def R_lex_tokens_skip (x0 : LTokens) (x0_g2 : Nat) (x0_z2 : Bool) (x0' : LTokens) (x0'_g2 : Nat) (x0'_z2 : Bool) : Prop := ∀ (S : Sto) (n0 : Nat) (t0 : Nat), (getBox S n0 t0).map (List.take 3) = some [.str x0.text.left, .int .i64 x0.text.pos, .sl 0 (.cell t0 2) 0 x0.out.length x0.out.length x0_g2 false] ∧ getArr S n0 (.cell t0 2) = some ⟨5, x0.out.map eToken, x0_z2, x0_g2⟩ → call SP 18 [.ptr n0 t0 0] S = .ok (.v (.tup [])) (setArr (setBox S n0 t0 ([.str x0'.text.left, .int .i64 x0'.text.pos, .sl 0 (.cell t0 2) 0 x0'.out.length x0'.out.length x0'_g2 false] ++ ((getBox S n0 t0).getD []).drop 3)) n0 (.cell t0 2) ⟨5, x0'.out.map eToken, x0'_z2, x0'_g2⟩)
def R_lex_tokens_next (x0 : LTokens) (x0_g2 : Nat) (x0_z2 : Bool) (r0 : Bool) (x0' : LTokens) (x0'_g2 : Nat) (x0'_z2 : Bool) : Prop := ∀ (S : Sto) (n0 : Nat) (t0 : Nat), (getBox S n0 t0).map (List.take 3) = some [.str x0.text.left, .int .i64 x0.text.pos, .sl 0 (.cell t0 2) 0 x0.out.length x0.out.length x0_g2 false] ∧ getArr S n0 (.cell t0 2) = some ⟨5, x0.out.map eToken, x0_z2, x0_g2⟩ → call SP 19 [.ptr n0 t0 0] S = .ok (.v (.bool r0)) (setArr (setBox S n0 t0 ([.str x0'.text.left, .int .i64 x0'.text.pos, .sl 0 (.cell t0 2) 0 x0'.out.length x0'.out.length x0'_g2 false] ++ ((getBox S n0 t0).getD []).drop 3)) n0 (.cell t0 2) ⟨5, x0'.out.map eToken, x0'_z2, x0'_g2⟩)
def R_lex_text_word (x0 : LText) (x1 : List Int) (r0 : List UInt8) (x0' : LText) : Prop := ∀ (S : Sto) (n0 : Nat) (t0 : Nat), (getBox S n0 t0).map (List.take 2) = some [.str x0.left, .int .i64 x0.pos] → call SP 24 [.ptr n0 t0 0, .list 1 (x1.map eI) false] S = .ok (.v (.str r0)) (setBox S n0 t0 ([.str x0'.left, .int .i64 x0'.pos] ++ ((getBox S n0 t0).getD []).drop 2))
def R_lex_text_take (x0 : LText) (x1 : Int) (r0 : List UInt8) (x0' : LText) : Prop := ∀ (S : Sto) (n0 : Nat) (t0 : Nat), (getBox S n0 t0).map (List.take 2) = some [.str x0.left, .int .i64 x0.pos] → call SP 27 [.ptr n0 t0 0, .int .i64 x1] S = .ok (.v (.str r0)) (setBox S n0 t0 ([.str x0'.left, .int .i64 x0'.pos] ++ ((getBox S n0 t0).getD []).drop 2))
def R_lex_tokens_sign (x0 : LTokens) (x0_g2 : Nat) (x0_z2 : Bool) (r0 : Token) (r1 : Bool) (x0' : LTokens) (x0'_g2 : Nat) (x0'_z2 : Bool) : Prop := ∀ (S : Sto) (n0 : Nat) (t0 : Nat), (getBox S n0 t0).map (List.take 3) = some [.str x0.text.left, .int .i64 x0.text.pos, .sl 0 (.cell t0 2) 0 x0.out.length x0.out.length x0_g2 false] ∧ getArr S n0 (.cell t0 2) = some ⟨5, x0.out.map eToken, x0_z2, x0_g2⟩ → call SP 28 [.ptr n0 t0 0] S = .ok (.v (.tup [.agg [.int .i64 r0.Kind, .str r0.Text, .int .i64 r0.Num, .list 2 (r0.Parts.map ePart) false, .int .i64 r0.At], .bool r1])) (setArr (setBox S n0 t0 ([.str x0'.text.left, .int .i64 x0'.text.pos, .sl 0 (.cell t0 2) 0 x0'.out.length x0'.out.length x0'_g2 false] ++ ((getBox S n0 t0).getD []).drop 3)) n0 (.cell t0 2) ⟨5, x0'.out.map eToken, x0'_z2, x0'_g2⟩)
def R_lex_tokens_name (x0 : LTokens) (x0_g2 : Nat) (x0_z2 : Bool) (r0 : Token) (r1 : Bool) (x0' : LTokens) (x0'_g2 : Nat) (x0'_z2 : Bool) : Prop := ∀ (S : Sto) (n0 : Nat) (t0 : Nat), (getBox S n0 t0).map (List.take 3) = some [.str x0.text.left, .int .i64 x0.text.pos, .sl 0 (.cell t0 2) 0 x0.out.length x0.out.length x0_g2 false] ∧ getArr S n0 (.cell t0 2) = some ⟨5, x0.out.map eToken, x0_z2, x0_g2⟩ → call SP 30 [.ptr n0 t0 0] S = .ok (.v (.tup [.agg [.int .i64 r0.Kind, .str r0.Text, .int .i64 r0.Num, .list 2 (r0.Parts.map ePart) false, .int .i64 r0.At], .bool r1])) (setArr (setBox S n0 t0 ([.str x0'.text.left, .int .i64 x0'.text.pos, .sl 0 (.cell t0 2) 0 x0'.out.length x0'.out.length x0'_g2 false] ++ ((getBox S n0 t0).getD []).drop 3)) n0 (.cell t0 2) ⟨5, x0'.out.map eToken, x0'_z2, x0'_g2⟩)
def R_lex_tokens_number (x0 : LTokens) (x0_g2 : Nat) (x0_z2 : Bool) (r0 : Token) (r1 : Bool) (x0' : LTokens) (x0'_g2 : Nat) (x0'_z2 : Bool) : Prop := ∀ (S : Sto) (n0 : Nat) (t0 : Nat), (getBox S n0 t0).map (List.take 3) = some [.str x0.text.left, .int .i64 x0.text.pos, .sl 0 (.cell t0 2) 0 x0.out.length x0.out.length x0_g2 false] ∧ getArr S n0 (.cell t0 2) = some ⟨5, x0.out.map eToken, x0_z2, x0_g2⟩ → call SP 31 [.ptr n0 t0 0] S = .ok (.v (.tup [.agg [.int .i64 r0.Kind, .str r0.Text, .int .i64 r0.Num, .list 2 (r0.Parts.map ePart) false, .int .i64 r0.At], .bool r1])) (setArr (setBox S n0 t0 ([.str x0'.text.left, .int .i64 x0'.text.pos, .sl 0 (.cell t0 2) 0 x0'.out.length x0'.out.length x0'_g2 false] ++ ((getBox S n0 t0).getD []).drop 3)) n0 (.cell t0 2) ⟨5, x0'.out.map eToken, x0'_z2, x0'_g2⟩)
def R_lex_tokens_quoted (x0 : LTokens) (x0_g2 : Nat) (x0_z2 : Bool) (r0 : Token) (r1 : Bool) (x0' : LTokens) (x0'_g2 : Nat) (x0'_z2 : Bool) : Prop := ∀ (S : Sto) (n0 : Nat) (t0 : Nat), (getBox S n0 t0).map (List.take 3) = some [.str x0.text.left, .int .i64 x0.text.pos, .sl 0 (.cell t0 2) 0 x0.out.length x0.out.length x0_g2 false] ∧ getArr S n0 (.cell t0 2) = some ⟨5, x0.out.map eToken, x0_z2, x0_g2⟩ → call SP 32 [.ptr n0 t0 0] S = .ok (.v (.tup [.agg [.int .i64 r0.Kind, .str r0.Text, .int .i64 r0.Num, .list 2 (r0.Parts.map ePart) false, .int .i64 r0.At], .bool r1])) (setArr (setBox S n0 t0 ([.str x0'.text.left, .int .i64 x0'.text.pos, .sl 0 (.cell t0 2) 0 x0'.out.length x0'.out.length x0'_g2 false] ++ ((getBox S n0 t0).getD []).drop 3)) n0 (.cell t0 2) ⟨5, x0'.out.map eToken, x0'_z2, x0'_g2⟩)
def R_lex_parts_plain (x0 : List Part) (x0_g0 : Nat) (x0_z0 : Bool) (x1 : UInt8) (x0' : List Part) (x0'_g0 : Nat) (x0'_z0 : Bool) : Prop := ∀ (S : Sto) (n0 : Nat) (t0 : Nat), (getBox S n0 t0).map (List.take 1) = some [.sl 0 (.cell t0 0) 0 x0.length x0.length x0_g0 false] ∧ getArr S n0 (.cell t0 0) = some ⟨2, x0.map ePart, x0_z0, x0_g0⟩ → call SP 47 [.ptr n0 t0 0, .int .u8 ((x1.toNat : Nat) : Int)] S = .ok (.v (.tup [])) (setArr (setBox S n0 t0 ([.sl 0 (.cell t0 0) 0 x0'.length x0'.length x0'_g0 false] ++ ((getBox S n0 t0).getD []).drop 1)) n0 (.cell t0 0) ⟨2, x0'.map ePart, x0'_z0, x0'_g0⟩)
end Go.Proofs.YtljgfdhlfjbafaaDoor.M

/- The machine's code of the functions, printed by a program of this session (sc2.py) out of the translation. Not trusted: Lean checks each by its own computation. -/
namespace Go.Proofs.YtljgfdhlfjbafaaDoor.M
open Go
set_option linter.unusedVariables false
/-- doorkeeper/lex.class -/
def c_lex_class_1 : SC := .seq (.reg [⟨(some 2), none, (.v (.mov (.c (.int .i64 0))))⟩]) .ret
def c_lex_class_2 : SC := .cond (.t 10) (.seq (.reg [⟨(some 2), none, (.v (.mov (.c (.int .i64 2))))⟩]) .ret) (.seq (.reg [⟨(some 22), none, (.v (.mov (.t 0)))⟩, ⟨(some 23), none, (.v (.bin .leq (.c (.int .u8 48)) (.t 22)))⟩, ⟨(some 24), none, (.v (.mov (.t 23)))⟩, ⟨(some 25), (some (24, true)), (.v (.mov (.t 0)))⟩, ⟨(some 26), (some (24, true)), (.v (.bin .leq (.t 25) (.c (.int .u8 57))))⟩, ⟨(some 27), none, (.v (.pick (.t 24) (.t 26) (.c (.bool false))))⟩, ⟨(some 21), none, (.v (.mov (.t 27)))⟩]) (.cond (.t 21) (.seq (.reg [⟨(some 2), none, (.v (.mov (.c (.int .i64 3))))⟩]) .ret) (.seq (.reg [⟨(some 29), none, (.v (.mov (.t 0)))⟩, ⟨(some 30), none, (.v (.bin .eql (.t 29) (.c (.int .u8 34))))⟩, ⟨(some 28), none, (.v (.mov (.t 30)))⟩]) (.cond (.t 28) (.seq (.reg [⟨(some 2), none, (.v (.mov (.c (.int .i64 4))))⟩]) .ret) (.seq (.reg [⟨(some 32), none, (.v (.mov (.t 0)))⟩, ⟨(some 33), none, (.v (.bin .eql (.t 32) (.c (.int .u8 35))))⟩, ⟨(some 31), none, (.v (.mov (.t 33)))⟩]) (.cond (.t 31) (.seq (.reg [⟨(some 2), none, (.v (.mov (.c (.int .i64 5))))⟩]) .ret) .skip))))))
def c_lex_class_3 : SC := .cond (.t 3) (.seq (.reg [⟨(some 2), none, (.v (.mov (.c (.int .i64 1))))⟩]) .ret) (.seq (.reg [⟨(some 11), none, (.v (.mov (.t 0)))⟩, ⟨(some 12), none, (.v (.bin .eql (.t 11) (.c (.int .u8 95))))⟩, ⟨(some 13), none, (.v (.mov (.t 12)))⟩, ⟨(some 14), (some (13, false)), (.v (.mov (.t 0)))⟩, ⟨(some 15), (some (13, false)), (.v (.bin .leq (.c (.int .u8 97)) (.t 14)))⟩, ⟨(some 16), (some (13, false)), (.v (.mov (.t 15)))⟩, ⟨(some 17), (some (16, true)), (.v (.mov (.t 0)))⟩, ⟨(some 18), (some (16, true)), (.v (.bin .leq (.t 17) (.c (.int .u8 122))))⟩, ⟨(some 19), (some (13, false)), (.v (.pick (.t 16) (.t 18) (.c (.bool false))))⟩, ⟨(some 20), none, (.v (.pick (.t 13) (.c (.bool true)) (.t 19)))⟩, ⟨(some 10), none, (.v (.mov (.t 20)))⟩]) c_lex_class_2)
def c_lex_class_4 : SC := .seq (.block 0 (.seq (.reg [⟨(some 4), none, (.v (.mov (.t 0)))⟩, ⟨(some 5), none, (.v (.bin .eql (.t 4) (.c (.int .u8 32))))⟩, ⟨(some 6), none, (.v (.mov (.t 5)))⟩, ⟨(some 7), (some (6, false)), (.v (.mov (.t 0)))⟩, ⟨(some 8), (some (6, false)), (.v (.bin .eql (.t 7) (.c (.int .u8 10))))⟩, ⟨(some 9), none, (.v (.pick (.t 6) (.c (.bool true)) (.t 8)))⟩, ⟨(some 3), none, (.v (.mov (.t 9)))⟩]) c_lex_class_3)) c_lex_class_1
def sc_lex_class : SFunc := ⟨1, 34, .seq (.reg [⟨(some 2), none, (.v (.mov (.c (.int .i64 0))))⟩]) c_lex_class_4, [(.t 2)]⟩
theorem U_lex_class : type_of% (And.intro (fun (SP : Prg) (ac : Ac) => congrFun (congrArg (E SP) c_lex_class_1.eq_1) ac) <| And.intro (fun (SP : Prg) (ac : Ac) => congrFun (congrArg (E SP) c_lex_class_2.eq_1) ac) <| And.intro (fun (SP : Prg) (ac : Ac) => congrFun (congrArg (E SP) c_lex_class_3.eq_1) ac) <| And.intro (fun (SP : Prg) (ac : Ac) => congrFun (congrArg (E SP) c_lex_class_4.eq_1) ac) <| sc_lex_class.eq_1) := And.intro (fun (SP : Prg) (ac : Ac) => congrFun (congrArg (E SP) c_lex_class_1.eq_1) ac) <| And.intro (fun (SP : Prg) (ac : Ac) => congrFun (congrArg (E SP) c_lex_class_2.eq_1) ac) <| And.intro (fun (SP : Prg) (ac : Ac) => congrFun (congrArg (E SP) c_lex_class_3.eq_1) ac) <| And.intro (fun (SP : Prg) (ac : Ac) => congrFun (congrArg (E SP) c_lex_class_4.eq_1) ac) <| sc_lex_class.eq_1
theorem comp_lex_class : comp Tryd.prog Tryd.f29 = some sc_lex_class := by kernel_rfl
/-- doorkeeper/lex.span -/
def c_lex_span_1 : SC := .seq (.reg [⟨(some 20), none, (.v (.mov (.t 0)))⟩, ⟨(some 21), none, (.v (.len true (.t 20)))⟩, ⟨(some 4), none, (.v (.mov (.t 21)))⟩]) .ret
def b_lex_span_1 : SC := .seq (.reg [⟨(some 9), none, (.v (.bin .lss (.t 8) (.t 7)))⟩]) (.seq (.cond (.t 9) .skip (.exit 0)) (.seq (.block 1 (.seq (.reg [⟨(some 10), none, (.v (.mov (.t 8)))⟩, ⟨(some 5), none, (.v (.mov (.t 10)))⟩]) (.seq (.reg [⟨(some 11), none, (.v (.mov (.t 1)))⟩, ⟨(some 12), none, (.v (.mov (.t 0)))⟩, ⟨(some 13), none, (.v (.mov (.t 5)))⟩, ⟨(some 14), none, (.v (.istr (.t 12) (.t 13)))⟩, ⟨(some 15), none, (.call (.c (.func 29 [])) [(.t 14)])⟩, ⟨(some 16), none, (.call (.c (.func 50 [])) [(.t 11), (.t 15)])⟩, ⟨(some 17), none, (.v (.un .not (.t 16)))⟩]) (.cond (.t 17) (.seq (.reg [⟨(some 18), none, (.v (.mov (.t 5)))⟩, ⟨(some 4), none, (.v (.mov (.t 18)))⟩]) .ret) .skip)))) (.reg [⟨(some 19), none, (.v (.bin .add (.t 8) (.c (.int .i64 1))))⟩, ⟨(some 8), none, (.v (.mov (.t 19)))⟩])))
def sc_lex_span : SFunc := ⟨2, 22, .seq (.reg [⟨(some 4), none, (.v (.mov (.c (.int .i64 0))))⟩]) (.seq (.seq (.reg [⟨(some 6), none, (.v (.mov (.t 0)))⟩, ⟨(some 7), none, (.v (.len true (.t 6)))⟩, ⟨(some 8), none, (.v (.mov (.c (.int .i64 0))))⟩]) (.block 0 (.loop b_lex_span_1))) c_lex_span_1), [(.t 4)]⟩
noncomputable def k_lex_span_1 (SP : Prg) (x : EO) : CO := fin [(.t 4)] (thC SP (inBlk 0 (x)) c_lex_span_1)
theorem U_lex_span : type_of% (And.intro (fun (SP : Prg) (ac : Ac) => congrFun (congrArg (E SP) c_lex_span_1.eq_1) ac) <| And.intro (fun (SP : Prg) (ac : Ac) => congrFun (congrArg (E SP) b_lex_span_1.eq_1) ac) <| sc_lex_span.eq_1) := And.intro (fun (SP : Prg) (ac : Ac) => congrFun (congrArg (E SP) c_lex_span_1.eq_1) ac) <| And.intro (fun (SP : Prg) (ac : Ac) => congrFun (congrArg (E SP) b_lex_span_1.eq_1) ac) <| sc_lex_span.eq_1
theorem comp_lex_span : comp Tryd.prog Tryd.f38 = some sc_lex_span := by kernel_rfl
/-- (doorkeeper/lex.text).take -/
def sc_lex_text_take : SFunc := ⟨2, 31, .seq (.reg [⟨(some 4), none, (.v (.mov (.c (.str []))))⟩]) (.seq (.reg [⟨(some 6), none, (.v (.mov (.t 0)))⟩, ⟨(some 7), none, (.v (.nchk (.t 6)))⟩, ⟨(some 8), none, (.v (.faddr 0 (.t 7)))⟩, ⟨(some 9), none, (.v (.load none (.t 8)))⟩, ⟨(some 10), none, (.v (.mov (.t 1)))⟩, ⟨(some 11), none, (.v (.sls (.t 9) none (some (.t 10))))⟩, ⟨(some 5), none, (.v (.mov (.t 11)))⟩]) (.seq (.dreg [⟨(some 12), none, (.v (.mov (.t 0)))⟩, ⟨(some 13), none, (.v (.mov (.t 0)))⟩, ⟨(some 14), none, (.v (.mov (.t 0)))⟩, ⟨(some 15), none, (.v (.nchk (.t 14)))⟩, ⟨(some 16), none, (.v (.faddr 0 (.t 15)))⟩, ⟨(some 17), none, (.v (.load none (.t 16)))⟩, ⟨(some 18), none, (.v (.mov (.t 1)))⟩, ⟨(some 19), none, (.v (.sls (.t 17) (some (.t 18)) none))⟩, ⟨(some 20), none, (.v (.mov (.t 0)))⟩, ⟨(some 21), none, (.v (.nchk (.t 20)))⟩, ⟨(some 22), none, (.v (.faddr 1 (.t 21)))⟩, ⟨(some 23), none, (.v (.load none (.t 22)))⟩, ⟨(some 24), none, (.v (.mov (.t 1)))⟩, ⟨(some 25), none, (.v (.bin .add (.t 23) (.t 24)))⟩, ⟨(some 26), none, (.v (.nchk (.t 12)))⟩, ⟨(some 27), none, (.v (.faddr 0 (.t 26)))⟩, ⟨none, none, (.store 1 (.t 27) (.t 19))⟩, ⟨(some 28), none, (.v (.nchk (.t 13)))⟩, ⟨(some 29), none, (.v (.faddr 1 (.t 28)))⟩, ⟨none, none, (.store 1 (.t 29) (.t 25))⟩] [false, false, false, false, false, false, false, false, false, false, false, false, false, false, true, true, true, true, true, true]) (.seq (.reg [⟨(some 30), none, (.v (.mov (.t 5)))⟩, ⟨(some 4), none, (.v (.mov (.t 30)))⟩]) .ret))), [(.t 4)]⟩
theorem U_lex_text_take : type_of% (sc_lex_text_take.eq_1) := sc_lex_text_take.eq_1
theorem comp_lex_text_take : comp Tryd.prog Tryd.f27 = some sc_lex_text_take := by kernel_rfl
/-- (doorkeeper/lex.text).word -/
def sc_lex_text_word : SFunc := ⟨2, 13, .seq (.reg [⟨(some 4), none, (.v (.mov (.c (.str []))))⟩]) (.seq (.reg [⟨(some 5), none, (.v (.mov (.t 0)))⟩, ⟨(some 6), none, (.v (.mov (.t 0)))⟩, ⟨(some 7), none, (.v (.nchk (.t 6)))⟩, ⟨(some 8), none, (.v (.faddr 0 (.t 7)))⟩, ⟨(some 9), none, (.v (.load none (.t 8)))⟩, ⟨(some 10), none, (.v (.mov (.t 1)))⟩, ⟨(some 11), none, (.call (.c (.func 38 [])) [(.t 9), (.t 10)])⟩, ⟨(some 12), none, (.call (.c (.func 27 [])) [(.t 5), (.t 11)])⟩, ⟨(some 4), none, (.v (.mov (.t 12)))⟩]) .ret), [(.t 4)]⟩
theorem U_lex_text_word : type_of% (sc_lex_text_word.eq_1) := sc_lex_text_word.eq_1
theorem comp_lex_text_word : comp Tryd.prog Tryd.f24 = some sc_lex_text_word := by kernel_rfl
/-- (doorkeeper/lex.parts).plain -/
def c_lex_parts_plain_1 : SC := .dreg [⟨(some 31), none, (.v (.mov (.t 0)))⟩, ⟨(some 32), none, (.v (.nchk (.t 31)))⟩, ⟨(some 33), none, (.v (.load none (.t 32)))⟩, ⟨(some 34), none, (.v (.mov (.t 4)))⟩, ⟨(some 35), none, (.v (.bin .sub (.t 34) (.c (.int .i64 1))))⟩, ⟨(some 36), none, (.v (.iaddr 2 (.t 33) (.t 35)))⟩, ⟨(some 37), none, (.v (.faddr 1 (.t 36)))⟩, ⟨(some 38), none, (.v (.load none (.t 37)))⟩, ⟨(some 39), none, (.v (.mov (.t 1)))⟩, ⟨(some 40), none, (.bslice 1 1 [(.int .u8 0)] [(0, (.t 39))])⟩, ⟨(some 41), none, (.v (.conv .bytes (.t 40)))⟩, ⟨(some 42), none, (.v (.bin .add (.t 38) (.t 41)))⟩, ⟨(some 43), none, (.v (.iaddr 2 (.t 33) (.t 35)))⟩, ⟨(some 44), none, (.v (.faddr 1 (.t 43)))⟩, ⟨none, none, (.store 1 (.t 44) (.t 42))⟩] [false, false, false, false, false, false, false, false, false, false, false, true, true, true, true]
def c_lex_parts_plain_2 : SC := .seq (.seq (.reg [⟨(some 9), none, (.v (.mov (.t 4)))⟩, ⟨(some 10), none, (.v (.bin .eql (.t 9) (.c (.int .i64 0))))⟩, ⟨(some 11), none, (.v (.mov (.t 10)))⟩, ⟨(some 12), (some (11, false)), (.v (.mov (.t 0)))⟩, ⟨(some 13), (some (11, false)), (.v (.nchk (.t 12)))⟩, ⟨(some 14), (some (11, false)), (.v (.load none (.t 13)))⟩, ⟨(some 15), (some (11, false)), (.v (.mov (.t 4)))⟩, ⟨(some 16), (some (11, false)), (.v (.bin .sub (.t 15) (.c (.int .i64 1))))⟩, ⟨(some 17), (some (11, false)), (.v (.iaddr 2 (.t 14) (.t 16)))⟩, ⟨(some 18), (some (11, false)), (.v (.faddr 0 (.t 17)))⟩, ⟨(some 19), (some (11, false)), (.v (.load none (.t 18)))⟩, ⟨(some 20), none, (.v (.pick (.t 11) (.c (.bool true)) (.t 19)))⟩]) (.cond (.t 20) (.seq (.reg [⟨(some 21), none, (.v (.mov (.t 0)))⟩, ⟨(some 22), none, (.v (.mov (.t 0)))⟩, ⟨(some 23), none, (.v (.nchk (.t 22)))⟩, ⟨(some 24), none, (.v (.load none (.t 23)))⟩, ⟨(some 25), none, (.v (.build [(.bool false), (.str [])] []))⟩, ⟨(some 26), none, (.bslice 2 1 [(.bool false), (.str [])] [(0, (.t 25))])⟩, ⟨(some 27), none, (.append 2 24 (.t 24) (.t 26))⟩, ⟨(some 28), none, (.v (.nchk (.t 21)))⟩, ⟨none, none, (.store 1 (.t 28) (.t 27))⟩]) (.reg [⟨(some 29), none, (.v (.mov (.t 4)))⟩, ⟨(some 30), none, (.v (.bin .add (.t 29) (.c (.int .i64 1))))⟩, ⟨(some 4), none, (.v (.mov (.t 30)))⟩])) .skip)) c_lex_parts_plain_1
def sc_lex_parts_plain : SFunc := ⟨2, 45, .seq (.reg [⟨(some 5), none, (.v (.mov (.t 0)))⟩, ⟨(some 6), none, (.v (.nchk (.t 5)))⟩, ⟨(some 7), none, (.v (.load none (.t 6)))⟩, ⟨(some 8), none, (.v (.len false (.t 7)))⟩, ⟨(some 4), none, (.v (.mov (.t 8)))⟩]) c_lex_parts_plain_2, []⟩
theorem U_lex_parts_plain : type_of% (And.intro (fun (SP : Prg) (ac : Ac) => congrFun (congrArg (E SP) c_lex_parts_plain_1.eq_1) ac) <| And.intro (fun (SP : Prg) (ac : Ac) => congrFun (congrArg (E SP) c_lex_parts_plain_2.eq_1) ac) <| sc_lex_parts_plain.eq_1) := And.intro (fun (SP : Prg) (ac : Ac) => congrFun (congrArg (E SP) c_lex_parts_plain_1.eq_1) ac) <| And.intro (fun (SP : Prg) (ac : Ac) => congrFun (congrArg (E SP) c_lex_parts_plain_2.eq_1) ac) <| sc_lex_parts_plain.eq_1
theorem comp_lex_parts_plain : comp Tryd.prog Tryd.f47 = some sc_lex_parts_plain := by kernel_rfl
/-- doorkeeper/lex.escaped -/
def sc_lex_escaped : SFunc := ⟨1, 15, .seq (.reg [⟨(some 2), none, (.v (.mov (.c (.int .u8 0))))⟩, ⟨(some 3), none, (.v (.mov (.c (.bool false))))⟩]) (.seq (.seq (.reg [⟨(some 5), none, (.v (.mov (.t 0)))⟩, ⟨(some 6), none, (.v (.len true (.t 5)))⟩, ⟨(some 7), none, (.v (.bin .lss (.t 6) (.c (.int .i64 2))))⟩]) (.cond (.t 7) (.seq (.reg [⟨(some 2), none, (.v (.mov (.c (.int .u8 0))))⟩, ⟨(some 3), none, (.v (.mov (.c (.bool false))))⟩]) .ret) .skip)) (.seq (.reg [⟨(some 8), none, (.v (.mov (.t 0)))⟩, ⟨(some 9), none, (.v (.istr (.t 8) (.c (.int .i64 1))))⟩, ⟨(some 10), none, (.call (.c (.func 62 [])) [(.c (.str [34, 92, 36, 110])), (.t 9)])⟩, ⟨(some 4), none, (.v (.mov (.t 10)))⟩]) (.seq (.seq (.reg [⟨(some 11), none, (.v (.mov (.t 4)))⟩, ⟨(some 12), none, (.v (.bin .lss (.t 11) (.c (.int .i64 0))))⟩]) (.cond (.t 12) (.seq (.reg [⟨(some 2), none, (.v (.mov (.c (.int .u8 0))))⟩, ⟨(some 3), none, (.v (.mov (.c (.bool false))))⟩]) .ret) .skip)) (.seq (.reg [⟨(some 13), none, (.v (.mov (.t 4)))⟩, ⟨(some 14), none, (.v (.istr (.c (.str [34, 92, 36, 10])) (.t 13)))⟩, ⟨(some 2), none, (.v (.mov (.t 14)))⟩, ⟨(some 3), none, (.v (.mov (.c (.bool true))))⟩]) .ret)))), [(.t 2), (.t 3)]⟩
theorem U_lex_escaped : type_of% (sc_lex_escaped.eq_1) := sc_lex_escaped.eq_1
theorem comp_lex_escaped : comp Tryd.prog Tryd.f46 = some sc_lex_escaped := by kernel_rfl
/-- doorkeeper/lex.reference -/
def c_lex_reference_1 : SC := .seq (.reg [⟨(some 18), none, (.v (.mov (.t 4)))⟩, ⟨(some 19), none, (.call (.c (.func 26 [])) [(.t 18), (.c (.str [46]))])⟩, ⟨(some 17), none, (.v (.mov (.t 19)))⟩, ⟨(some 20), none, (.v (.extract 0 (.t 17)))⟩, ⟨(some 21), none, (.v (.extract 1 (.t 17)))⟩, ⟨(some 22), none, (.v (.extract 2 (.t 17)))⟩, ⟨(some 7), none, (.v (.mov (.t 20)))⟩, ⟨(some 8), none, (.v (.mov (.t 21)))⟩, ⟨(some 9), none, (.v (.mov (.t 22)))⟩]) (.seq (.reg [⟨(some 23), none, (.v (.mov (.t 4)))⟩, ⟨(some 24), none, (.v (.mov (.t 6)))⟩, ⟨(some 25), none, (.v (.mov (.t 24)))⟩, ⟨(some 26), (some (25, true)), (.v (.mov (.t 9)))⟩, ⟨(some 27), none, (.v (.pick (.t 25) (.t 26) (.c (.bool false))))⟩, ⟨(some 28), none, (.v (.mov (.t 27)))⟩, ⟨(some 29), (some (28, true)), (.v (.mov (.t 7)))⟩, ⟨(some 30), (some (28, true)), (.call (.c (.func 21 [])) [(.t 29)])⟩, ⟨(some 31), none, (.v (.pick (.t 28) (.t 30) (.c (.bool false))))⟩, ⟨(some 32), none, (.v (.mov (.t 31)))⟩, ⟨(some 33), (some (32, true)), (.v (.mov (.t 8)))⟩, ⟨(some 34), (some (32, true)), (.call (.c (.func 21 [])) [(.t 33)])⟩, ⟨(some 35), none, (.v (.pick (.t 32) (.t 34) (.c (.bool false))))⟩, ⟨(some 2), none, (.v (.mov (.t 23)))⟩, ⟨(some 3), none, (.v (.mov (.t 35)))⟩]) .ret)
def c_lex_reference_2 : SC := .seq (.reg [⟨(some 11), none, (.v (.mov (.t 0)))⟩, ⟨(some 12), none, (.v (.sls (.t 11) (some (.c (.int .i64 2))) none))⟩, ⟨(some 13), none, (.call (.c (.func 26 [])) [(.t 12), (.c (.str [125]))])⟩, ⟨(some 10), none, (.v (.mov (.t 13)))⟩, ⟨(some 14), none, (.v (.extract 0 (.t 10)))⟩, ⟨(some 15), none, (.v (.extract 1 (.t 10)))⟩, ⟨(some 16), none, (.v (.extract 2 (.t 10)))⟩, ⟨(some 4), none, (.v (.mov (.t 14)))⟩, ⟨(some 5), none, (.v (.mov (.t 15)))⟩, ⟨(some 6), none, (.v (.mov (.t 16)))⟩]) c_lex_reference_1
def sc_lex_reference : SFunc := ⟨1, 36, .seq (.reg [⟨(some 2), none, (.v (.mov (.c (.str []))))⟩, ⟨(some 3), none, (.v (.mov (.c (.bool false))))⟩]) c_lex_reference_2, [(.t 2), (.t 3)]⟩
theorem U_lex_reference : type_of% (And.intro (fun (SP : Prg) (ac : Ac) => congrFun (congrArg (E SP) c_lex_reference_1.eq_1) ac) <| And.intro (fun (SP : Prg) (ac : Ac) => congrFun (congrArg (E SP) c_lex_reference_2.eq_1) ac) <| sc_lex_reference.eq_1) := And.intro (fun (SP : Prg) (ac : Ac) => congrFun (congrArg (E SP) c_lex_reference_1.eq_1) ac) <| And.intro (fun (SP : Prg) (ac : Ac) => congrFun (congrArg (E SP) c_lex_reference_2.eq_1) ac) <| sc_lex_reference.eq_1
theorem comp_lex_reference : comp Tryd.prog Tryd.f48 = some sc_lex_reference := by kernel_rfl
/-- doorkeeper/lex.Name -/
def sc_lex_Name : SFunc := ⟨1, 24, .seq (.reg [⟨(some 2), none, (.v (.mov (.c (.bool false))))⟩]) (.seq (.reg [⟨(some 3), none, (.v (.mov (.t 0)))⟩, ⟨(some 4), none, (.v (.bin .neq (.t 3) (.c (.str []))))⟩, ⟨(some 5), none, (.v (.mov (.t 4)))⟩, ⟨(some 6), (some (5, true)), (.v (.mov (.t 0)))⟩, ⟨(some 7), (some (5, true)), (.v (.len true (.t 6)))⟩, ⟨(some 8), (some (5, true)), (.v (.bin .leq (.t 7) (.c (.int .i64 24))))⟩, ⟨(some 9), none, (.v (.pick (.t 5) (.t 8) (.c (.bool false))))⟩, ⟨(some 10), none, (.v (.mov (.t 9)))⟩, ⟨(some 11), (some (10, true)), (.v (.mov (.t 0)))⟩, ⟨(some 12), (some (10, true)), (.v (.istr (.t 11) (.c (.int .i64 0))))⟩, ⟨(some 13), (some (10, true)), (.call (.c (.func 29 [])) [(.t 12)])⟩, ⟨(some 14), (some (10, true)), (.v (.bin .eql (.t 13) (.c (.int .i64 2))))⟩, ⟨(some 15), none, (.v (.pick (.t 10) (.t 14) (.c (.bool false))))⟩, ⟨(some 16), none, (.v (.mov (.t 15)))⟩, ⟨(some 17), (some (16, true)), (.v (.mov (.t 0)))⟩, ⟨(some 18), (some (16, true)), (.bslice 1 2 [(.int .i64 0)] [(0, (.c (.int .i64 2))), (1, (.c (.int .i64 3)))])⟩, ⟨(some 19), (some (16, true)), (.call (.c (.func 38 [])) [(.t 17), (.t 18)])⟩, ⟨(some 20), (some (16, true)), (.v (.mov (.t 0)))⟩, ⟨(some 21), (some (16, true)), (.v (.len true (.t 20)))⟩, ⟨(some 22), (some (16, true)), (.v (.bin .eql (.t 19) (.t 21)))⟩, ⟨(some 23), none, (.v (.pick (.t 16) (.t 22) (.c (.bool false))))⟩, ⟨(some 2), none, (.v (.mov (.t 23)))⟩]) .ret), [(.t 2)]⟩
theorem U_lex_Name : type_of% (sc_lex_Name.eq_1) := sc_lex_Name.eq_1
theorem comp_lex_Name : comp Tryd.prog Tryd.f21 = some sc_lex_Name := by kernel_rfl
/-- doorkeeper/doorkeeperref1.digit -/
def sc_ref1_digit : SFunc := ⟨1, 9, .seq (.reg [⟨(some 2), none, (.v (.mov (.c (.bool false))))⟩]) (.seq (.reg [⟨(some 3), none, (.v (.mov (.t 0)))⟩, ⟨(some 4), none, (.v (.bin .geq (.t 3) (.c (.int .u8 48))))⟩, ⟨(some 5), none, (.v (.mov (.t 4)))⟩, ⟨(some 6), (some (5, true)), (.v (.mov (.t 0)))⟩, ⟨(some 7), (some (5, true)), (.v (.bin .leq (.t 6) (.c (.int .u8 57))))⟩, ⟨(some 8), none, (.v (.pick (.t 5) (.t 7) (.c (.bool false))))⟩, ⟨(some 2), none, (.v (.mov (.t 8)))⟩]) .ret), [(.t 2)]⟩
theorem U_ref1_digit : type_of% (sc_ref1_digit.eq_1) := sc_ref1_digit.eq_1
theorem comp_ref1_digit : comp Tryd.prog Tryd.f23 = some sc_ref1_digit := by kernel_rfl
/-- doorkeeper/doorkeeperref1.begins -/
def sc_ref1_begins : SFunc := ⟨1, 13, .seq (.reg [⟨(some 2), none, (.v (.mov (.c (.bool false))))⟩]) (.seq (.reg [⟨(some 3), none, (.v (.mov (.t 0)))⟩, ⟨(some 4), none, (.v (.bin .geq (.t 3) (.c (.int .u8 97))))⟩, ⟨(some 5), none, (.v (.mov (.t 4)))⟩, ⟨(some 6), (some (5, true)), (.v (.mov (.t 0)))⟩, ⟨(some 7), (some (5, true)), (.v (.bin .leq (.t 6) (.c (.int .u8 122))))⟩, ⟨(some 8), none, (.v (.pick (.t 5) (.t 7) (.c (.bool false))))⟩, ⟨(some 9), none, (.v (.mov (.t 8)))⟩, ⟨(some 10), (some (9, false)), (.v (.mov (.t 0)))⟩, ⟨(some 11), (some (9, false)), (.v (.bin .eql (.t 10) (.c (.int .u8 95))))⟩, ⟨(some 12), none, (.v (.pick (.t 9) (.c (.bool true)) (.t 11)))⟩, ⟨(some 2), none, (.v (.mov (.t 12)))⟩]) .ret), [(.t 2)]⟩
theorem U_ref1_begins : type_of% (sc_ref1_begins.eq_1) := sc_ref1_begins.eq_1
theorem comp_ref1_begins : comp Tryd.prog Tryd.f35 = some sc_ref1_begins := by kernel_rfl
/-- doorkeeper/doorkeeperref1.nameEnd -/
def c_ref1_nameEnd_1 : SC := .seq (.reg [⟨(some 37), none, (.v (.mov (.t 5)))⟩, ⟨(some 4), none, (.v (.mov (.t 37)))⟩]) .ret
def b_ref1_nameEnd_1 : SC := .seq (.seq (.reg [⟨(some 19), none, (.v (.mov (.t 5)))⟩, ⟨(some 20), none, (.v (.mov (.t 0)))⟩, ⟨(some 21), none, (.v (.len true (.t 20)))⟩, ⟨(some 22), none, (.v (.bin .lss (.t 19) (.t 21)))⟩, ⟨(some 23), none, (.v (.mov (.t 22)))⟩, ⟨(some 24), (some (23, true)), (.v (.mov (.t 0)))⟩, ⟨(some 25), (some (23, true)), (.v (.mov (.t 5)))⟩, ⟨(some 26), (some (23, true)), (.v (.istr (.t 24) (.t 25)))⟩, ⟨(some 27), (some (23, true)), (.call (.c (.func 35 [])) [(.t 26)])⟩, ⟨(some 28), (some (23, true)), (.v (.mov (.t 27)))⟩, ⟨(some 29), (some (28, false)), (.v (.mov (.t 0)))⟩, ⟨(some 30), (some (28, false)), (.v (.mov (.t 5)))⟩, ⟨(some 31), (some (28, false)), (.v (.istr (.t 29) (.t 30)))⟩, ⟨(some 32), (some (28, false)), (.call (.c (.func 23 [])) [(.t 31)])⟩, ⟨(some 33), (some (23, true)), (.v (.pick (.t 28) (.c (.bool true)) (.t 32)))⟩, ⟨(some 34), none, (.v (.pick (.t 23) (.t 33) (.c (.bool false))))⟩]) (.cond (.t 34) .skip (.exit 0))) (.block 1 (.reg [⟨(some 35), none, (.v (.mov (.t 5)))⟩, ⟨(some 36), none, (.v (.bin .add (.t 35) (.c (.int .i64 1))))⟩, ⟨(some 5), none, (.v (.mov (.t 36)))⟩]))
def c_ref1_nameEnd_2 : SC := .seq (.reg [⟨(some 18), none, (.v (.mov (.t 1)))⟩, ⟨(some 5), none, (.v (.mov (.t 18)))⟩]) (.seq (.block 0 (.loop b_ref1_nameEnd_1)) c_ref1_nameEnd_1)
def c_ref1_nameEnd_3 : SC := .seq (.seq (.reg [⟨(some 6), none, (.v (.mov (.t 1)))⟩, ⟨(some 7), none, (.v (.mov (.t 0)))⟩, ⟨(some 8), none, (.v (.len true (.t 7)))⟩, ⟨(some 9), none, (.v (.bin .geq (.t 6) (.t 8)))⟩, ⟨(some 10), none, (.v (.mov (.t 9)))⟩, ⟨(some 11), (some (10, false)), (.v (.mov (.t 0)))⟩, ⟨(some 12), (some (10, false)), (.v (.mov (.t 1)))⟩, ⟨(some 13), (some (10, false)), (.v (.istr (.t 11) (.t 12)))⟩, ⟨(some 14), (some (10, false)), (.call (.c (.func 35 [])) [(.t 13)])⟩, ⟨(some 15), (some (10, false)), (.v (.un .not (.t 14)))⟩, ⟨(some 16), none, (.v (.pick (.t 10) (.c (.bool true)) (.t 15)))⟩]) (.cond (.t 16) (.seq (.reg [⟨(some 17), none, (.v (.mov (.t 1)))⟩, ⟨(some 4), none, (.v (.mov (.t 17)))⟩]) .ret) .skip)) c_ref1_nameEnd_2
def sc_ref1_nameEnd : SFunc := ⟨2, 38, .seq (.reg [⟨(some 4), none, (.v (.mov (.c (.int .i64 0))))⟩]) c_ref1_nameEnd_3, [(.t 4)]⟩
noncomputable def k_ref1_nameEnd_1 (SP : Prg) (x : EO) : CO := fin [(.t 4)] (thC SP (inBlk 0 (x)) c_ref1_nameEnd_1)
theorem U_ref1_nameEnd : type_of% (And.intro (fun (SP : Prg) (ac : Ac) => congrFun (congrArg (E SP) c_ref1_nameEnd_1.eq_1) ac) <| And.intro (fun (SP : Prg) (ac : Ac) => congrFun (congrArg (E SP) b_ref1_nameEnd_1.eq_1) ac) <| And.intro (fun (SP : Prg) (ac : Ac) => congrFun (congrArg (E SP) c_ref1_nameEnd_2.eq_1) ac) <| And.intro (fun (SP : Prg) (ac : Ac) => congrFun (congrArg (E SP) c_ref1_nameEnd_3.eq_1) ac) <| sc_ref1_nameEnd.eq_1) := And.intro (fun (SP : Prg) (ac : Ac) => congrFun (congrArg (E SP) c_ref1_nameEnd_1.eq_1) ac) <| And.intro (fun (SP : Prg) (ac : Ac) => congrFun (congrArg (E SP) b_ref1_nameEnd_1.eq_1) ac) <| And.intro (fun (SP : Prg) (ac : Ac) => congrFun (congrArg (E SP) c_ref1_nameEnd_2.eq_1) ac) <| And.intro (fun (SP : Prg) (ac : Ac) => congrFun (congrArg (E SP) c_ref1_nameEnd_3.eq_1) ac) <| sc_ref1_nameEnd.eq_1
theorem comp_ref1_nameEnd : comp Tryd.prog Tryd.f36 = some sc_ref1_nameEnd := by kernel_rfl
/-- doorkeeper/doorkeeperref1.Name -/
def sc_ref1_Name : SFunc := ⟨1, 17, .seq (.reg [⟨(some 2), none, (.v (.mov (.c (.bool false))))⟩]) (.seq (.reg [⟨(some 3), none, (.v (.mov (.t 0)))⟩, ⟨(some 4), none, (.v (.bin .neq (.t 3) (.c (.str []))))⟩, ⟨(some 5), none, (.v (.mov (.t 4)))⟩, ⟨(some 6), (some (5, true)), (.v (.mov (.t 0)))⟩, ⟨(some 7), (some (5, true)), (.v (.len true (.t 6)))⟩, ⟨(some 8), (some (5, true)), (.v (.bin .leq (.t 7) (.c (.int .i64 24))))⟩, ⟨(some 9), none, (.v (.pick (.t 5) (.t 8) (.c (.bool false))))⟩, ⟨(some 10), none, (.v (.mov (.t 9)))⟩, ⟨(some 11), (some (10, true)), (.v (.mov (.t 0)))⟩, ⟨(some 12), (some (10, true)), (.call (.c (.func 36 [])) [(.t 11), (.c (.int .i64 0))])⟩, ⟨(some 13), (some (10, true)), (.v (.mov (.t 0)))⟩, ⟨(some 14), (some (10, true)), (.v (.len true (.t 13)))⟩, ⟨(some 15), (some (10, true)), (.v (.bin .eql (.t 12) (.t 14)))⟩, ⟨(some 16), none, (.v (.pick (.t 10) (.t 15) (.c (.bool false))))⟩, ⟨(some 2), none, (.v (.mov (.t 16)))⟩]) .ret), [(.t 2)]⟩
theorem U_ref1_Name : type_of% (sc_ref1_Name.eq_1) := sc_ref1_Name.eq_1
theorem comp_ref1_Name : comp Tryd.prog Tryd.f80 = some sc_ref1_Name := by kernel_rfl
/-- doorkeeper/doorkeeperref1.Dotted -/
def c_ref1_Dotted_1 : SC := .seq (.reg [⟨(some 6), none, (.v (.mov (.t 3)))⟩, ⟨(some 7), none, (.v (.bin .gtr (.t 6) (.c (.int .i64 0))))⟩, ⟨(some 8), none, (.v (.mov (.t 7)))⟩, ⟨(some 9), (some (8, true)), (.v (.mov (.t 3)))⟩, ⟨(some 10), (some (8, true)), (.v (.mov (.t 0)))⟩, ⟨(some 11), (some (8, true)), (.v (.len true (.t 10)))⟩, ⟨(some 12), (some (8, true)), (.v (.bin .lss (.t 9) (.t 11)))⟩, ⟨(some 13), none, (.v (.pick (.t 8) (.t 12) (.c (.bool false))))⟩, ⟨(some 14), none, (.v (.mov (.t 13)))⟩, ⟨(some 15), (some (14, true)), (.v (.mov (.t 0)))⟩, ⟨(some 16), (some (14, true)), (.v (.mov (.t 3)))⟩, ⟨(some 17), (some (14, true)), (.v (.istr (.t 15) (.t 16)))⟩, ⟨(some 18), (some (14, true)), (.v (.bin .eql (.t 17) (.c (.int .u8 46))))⟩, ⟨(some 19), none, (.v (.pick (.t 14) (.t 18) (.c (.bool false))))⟩, ⟨(some 20), none, (.v (.mov (.t 19)))⟩, ⟨(some 21), (some (20, true)), (.v (.mov (.t 0)))⟩, ⟨(some 22), (some (20, true)), (.v (.mov (.t 3)))⟩, ⟨(some 23), (some (20, true)), (.v (.sls (.t 21) none (some (.t 22))))⟩, ⟨(some 24), (some (20, true)), (.call (.c (.func 80 [])) [(.t 23)])⟩, ⟨(some 25), none, (.v (.pick (.t 20) (.t 24) (.c (.bool false))))⟩, ⟨(some 26), none, (.v (.mov (.t 25)))⟩, ⟨(some 27), (some (26, true)), (.v (.mov (.t 0)))⟩, ⟨(some 28), (some (26, true)), (.v (.mov (.t 3)))⟩, ⟨(some 29), (some (26, true)), (.v (.bin .add (.t 28) (.c (.int .i64 1))))⟩, ⟨(some 30), (some (26, true)), (.v (.sls (.t 27) (some (.t 29)) none))⟩, ⟨(some 31), (some (26, true)), (.call (.c (.func 80 [])) [(.t 30)])⟩, ⟨(some 32), none, (.v (.pick (.t 26) (.t 31) (.c (.bool false))))⟩, ⟨(some 2), none, (.v (.mov (.t 32)))⟩]) .ret
def c_ref1_Dotted_2 : SC := .seq (.reg [⟨(some 4), none, (.v (.mov (.t 0)))⟩, ⟨(some 5), none, (.call (.c (.func 36 [])) [(.t 4), (.c (.int .i64 0))])⟩, ⟨(some 3), none, (.v (.mov (.t 5)))⟩]) c_ref1_Dotted_1
def sc_ref1_Dotted : SFunc := ⟨1, 33, .seq (.reg [⟨(some 2), none, (.v (.mov (.c (.bool false))))⟩]) c_ref1_Dotted_2, [(.t 2)]⟩
theorem U_ref1_Dotted : type_of% (And.intro (fun (SP : Prg) (ac : Ac) => congrFun (congrArg (E SP) c_ref1_Dotted_1.eq_1) ac) <| And.intro (fun (SP : Prg) (ac : Ac) => congrFun (congrArg (E SP) c_ref1_Dotted_2.eq_1) ac) <| sc_ref1_Dotted.eq_1) := And.intro (fun (SP : Prg) (ac : Ac) => congrFun (congrArg (E SP) c_ref1_Dotted_1.eq_1) ac) <| And.intro (fun (SP : Prg) (ac : Ac) => congrFun (congrArg (E SP) c_ref1_Dotted_2.eq_1) ac) <| sc_ref1_Dotted.eq_1
theorem comp_ref1_Dotted : comp Tryd.prog Tryd.f63 = some sc_ref1_Dotted := by kernel_rfl
/-- doorkeeper/doorkeeperref1.sign -/
def c_ref1_sign_1 : SC := .seq (.reg [⟨(some 4), none, (.v (.mov (.c (.str []))))⟩]) .ret
def c_ref1_sign_2 : SC := .cond (.t 30) (.seq (.reg [⟨(some 50), none, (.v (.mov (.t 0)))⟩, ⟨(some 51), none, (.v (.mov (.t 1)))⟩, ⟨(some 52), none, (.v (.mov (.t 1)))⟩, ⟨(some 53), none, (.v (.bin .add (.t 52) (.c (.int .i64 1))))⟩, ⟨(some 54), none, (.v (.sls (.t 50) (some (.t 51)) (some (.t 53))))⟩, ⟨(some 4), none, (.v (.mov (.t 54)))⟩]) .ret) .skip
def c_ref1_sign_3 : SC := .cond (.t 30) .skip (.seq (.reg [⟨(some 40), none, (.v (.bin .eql (.t 29) (.c (.int .u8 43))))⟩, ⟨(some 30), none, (.v (.mov (.t 40)))⟩]) (.cond (.t 30) .skip (.seq (.reg [⟨(some 41), none, (.v (.bin .eql (.t 29) (.c (.int .u8 45))))⟩, ⟨(some 30), none, (.v (.mov (.t 41)))⟩]) (.cond (.t 30) .skip (.seq (.reg [⟨(some 42), none, (.v (.bin .eql (.t 29) (.c (.int .u8 42))))⟩, ⟨(some 30), none, (.v (.mov (.t 42)))⟩]) (.cond (.t 30) .skip (.seq (.reg [⟨(some 43), none, (.v (.bin .eql (.t 29) (.c (.int .u8 47))))⟩, ⟨(some 30), none, (.v (.mov (.t 43)))⟩]) (.cond (.t 30) .skip (.seq (.reg [⟨(some 44), none, (.v (.bin .eql (.t 29) (.c (.int .u8 37))))⟩, ⟨(some 30), none, (.v (.mov (.t 44)))⟩]) (.cond (.t 30) .skip (.seq (.reg [⟨(some 45), none, (.v (.bin .eql (.t 29) (.c (.int .u8 60))))⟩, ⟨(some 30), none, (.v (.mov (.t 45)))⟩]) (.cond (.t 30) .skip (.seq (.reg [⟨(some 46), none, (.v (.bin .eql (.t 29) (.c (.int .u8 62))))⟩, ⟨(some 30), none, (.v (.mov (.t 46)))⟩]) (.cond (.t 30) .skip (.seq (.reg [⟨(some 47), none, (.v (.bin .eql (.t 29) (.c (.int .u8 33))))⟩, ⟨(some 30), none, (.v (.mov (.t 47)))⟩]) (.cond (.t 30) .skip (.seq (.reg [⟨(some 48), none, (.v (.bin .eql (.t 29) (.c (.int .u8 63))))⟩, ⟨(some 30), none, (.v (.mov (.t 48)))⟩]) (.cond (.t 30) .skip (.reg [⟨(some 49), none, (.v (.bin .eql (.t 29) (.c (.int .u8 58))))⟩, ⟨(some 30), none, (.v (.mov (.t 49)))⟩])))))))))))))))))))
def c_ref1_sign_4 : SC := .cond (.t 30) .skip (.seq (.reg [⟨(some 39), none, (.v (.bin .eql (.t 29) (.c (.int .u8 46))))⟩, ⟨(some 30), none, (.v (.mov (.t 39)))⟩]) c_ref1_sign_3)
def c_ref1_sign_5 : SC := .cond (.t 30) .skip (.seq (.reg [⟨(some 38), none, (.v (.bin .eql (.t 29) (.c (.int .u8 44))))⟩, ⟨(some 30), none, (.v (.mov (.t 38)))⟩]) c_ref1_sign_4)
def c_ref1_sign_6 : SC := .cond (.t 30) .skip (.seq (.reg [⟨(some 37), none, (.v (.bin .eql (.t 29) (.c (.int .u8 61))))⟩, ⟨(some 30), none, (.v (.mov (.t 37)))⟩]) c_ref1_sign_5)
def c_ref1_sign_7 : SC := .cond (.t 30) .skip (.seq (.reg [⟨(some 36), none, (.v (.bin .eql (.t 29) (.c (.int .u8 41))))⟩, ⟨(some 30), none, (.v (.mov (.t 36)))⟩]) c_ref1_sign_6)
def c_ref1_sign_8 : SC := .cond (.t 30) .skip (.seq (.reg [⟨(some 35), none, (.v (.bin .eql (.t 29) (.c (.int .u8 40))))⟩, ⟨(some 30), none, (.v (.mov (.t 35)))⟩]) c_ref1_sign_7)
def c_ref1_sign_9 : SC := .cond (.t 30) .skip (.seq (.reg [⟨(some 34), none, (.v (.bin .eql (.t 29) (.c (.int .u8 93))))⟩, ⟨(some 30), none, (.v (.mov (.t 34)))⟩]) c_ref1_sign_8)
def c_ref1_sign_10 : SC := .cond (.t 30) .skip (.seq (.reg [⟨(some 33), none, (.v (.bin .eql (.t 29) (.c (.int .u8 91))))⟩, ⟨(some 30), none, (.v (.mov (.t 33)))⟩]) c_ref1_sign_9)
def c_ref1_sign_11 : SC := .cond (.t 30) .skip (.seq (.reg [⟨(some 32), none, (.v (.bin .eql (.t 29) (.c (.int .u8 125))))⟩, ⟨(some 30), none, (.v (.mov (.t 32)))⟩]) c_ref1_sign_10)
def c_ref1_sign_12 : SC := .block 1 (.seq (.seq (.reg [⟨(some 31), none, (.v (.bin .eql (.t 29) (.c (.int .u8 123))))⟩, ⟨(some 30), none, (.v (.mov (.t 31)))⟩]) c_ref1_sign_11) c_ref1_sign_2)
def c_ref1_sign_13 : SC := .seq (.seq (.reg [⟨(some 27), none, (.v (.mov (.t 0)))⟩, ⟨(some 28), none, (.v (.mov (.t 1)))⟩, ⟨(some 29), none, (.v (.istr (.t 27) (.t 28)))⟩]) c_ref1_sign_12) c_ref1_sign_1
def c_ref1_sign_14 : SC := .cond (.t 9) (.seq (.reg [⟨(some 10), none, (.v (.mov (.t 0)))⟩, ⟨(some 11), none, (.v (.mov (.t 1)))⟩, ⟨(some 12), none, (.v (.mov (.t 1)))⟩, ⟨(some 13), none, (.v (.bin .add (.t 12) (.c (.int .i64 2))))⟩, ⟨(some 14), none, (.v (.sls (.t 10) (some (.t 11)) (some (.t 13))))⟩]) (.block 0 (.seq (.seq (.reg [⟨(some 16), none, (.v (.bin .eql (.t 14) (.c (.str [61, 61]))))⟩, ⟨(some 15), none, (.v (.mov (.t 16)))⟩]) (.cond (.t 15) .skip (.seq (.reg [⟨(some 17), none, (.v (.bin .eql (.t 14) (.c (.str [33, 61]))))⟩, ⟨(some 15), none, (.v (.mov (.t 17)))⟩]) (.cond (.t 15) .skip (.seq (.reg [⟨(some 18), none, (.v (.bin .eql (.t 14) (.c (.str [60, 61]))))⟩, ⟨(some 15), none, (.v (.mov (.t 18)))⟩]) (.cond (.t 15) .skip (.seq (.reg [⟨(some 19), none, (.v (.bin .eql (.t 14) (.c (.str [62, 61]))))⟩, ⟨(some 15), none, (.v (.mov (.t 19)))⟩]) (.cond (.t 15) .skip (.seq (.reg [⟨(some 20), none, (.v (.bin .eql (.t 14) (.c (.str [38, 38]))))⟩, ⟨(some 15), none, (.v (.mov (.t 20)))⟩]) (.cond (.t 15) .skip (.reg [⟨(some 21), none, (.v (.bin .eql (.t 14) (.c (.str [124, 124]))))⟩, ⟨(some 15), none, (.v (.mov (.t 21)))⟩]))))))))))) (.cond (.t 15) (.seq (.reg [⟨(some 22), none, (.v (.mov (.t 0)))⟩, ⟨(some 23), none, (.v (.mov (.t 1)))⟩, ⟨(some 24), none, (.v (.mov (.t 1)))⟩, ⟨(some 25), none, (.v (.bin .add (.t 24) (.c (.int .i64 2))))⟩, ⟨(some 26), none, (.v (.sls (.t 22) (some (.t 23)) (some (.t 25))))⟩, ⟨(some 4), none, (.v (.mov (.t 26)))⟩]) .ret) .skip)))) .skip
def c_ref1_sign_15 : SC := .seq (.seq (.reg [⟨(some 5), none, (.v (.mov (.t 1)))⟩, ⟨(some 6), none, (.v (.bin .add (.t 5) (.c (.int .i64 1))))⟩, ⟨(some 7), none, (.v (.mov (.t 0)))⟩, ⟨(some 8), none, (.v (.len true (.t 7)))⟩, ⟨(some 9), none, (.v (.bin .lss (.t 6) (.t 8)))⟩]) c_ref1_sign_14) c_ref1_sign_13
def sc_ref1_sign : SFunc := ⟨2, 55, .seq (.reg [⟨(some 4), none, (.v (.mov (.c (.str []))))⟩]) c_ref1_sign_15, [(.t 4)]⟩
theorem U_ref1_sign : type_of% (And.intro (fun (SP : Prg) (ac : Ac) => congrFun (congrArg (E SP) c_ref1_sign_1.eq_1) ac) <| And.intro (fun (SP : Prg) (ac : Ac) => congrFun (congrArg (E SP) c_ref1_sign_2.eq_1) ac) <| And.intro (fun (SP : Prg) (ac : Ac) => congrFun (congrArg (E SP) c_ref1_sign_3.eq_1) ac) <| And.intro (fun (SP : Prg) (ac : Ac) => congrFun (congrArg (E SP) c_ref1_sign_4.eq_1) ac) <| And.intro (fun (SP : Prg) (ac : Ac) => congrFun (congrArg (E SP) c_ref1_sign_5.eq_1) ac) <| And.intro (fun (SP : Prg) (ac : Ac) => congrFun (congrArg (E SP) c_ref1_sign_6.eq_1) ac) <| And.intro (fun (SP : Prg) (ac : Ac) => congrFun (congrArg (E SP) c_ref1_sign_7.eq_1) ac) <| And.intro (fun (SP : Prg) (ac : Ac) => congrFun (congrArg (E SP) c_ref1_sign_8.eq_1) ac) <| And.intro (fun (SP : Prg) (ac : Ac) => congrFun (congrArg (E SP) c_ref1_sign_9.eq_1) ac) <| And.intro (fun (SP : Prg) (ac : Ac) => congrFun (congrArg (E SP) c_ref1_sign_10.eq_1) ac) <| And.intro (fun (SP : Prg) (ac : Ac) => congrFun (congrArg (E SP) c_ref1_sign_11.eq_1) ac) <| And.intro (fun (SP : Prg) (ac : Ac) => congrFun (congrArg (E SP) c_ref1_sign_12.eq_1) ac) <| And.intro (fun (SP : Prg) (ac : Ac) => congrFun (congrArg (E SP) c_ref1_sign_13.eq_1) ac) <| And.intro (fun (SP : Prg) (ac : Ac) => congrFun (congrArg (E SP) c_ref1_sign_14.eq_1) ac) <| And.intro (fun (SP : Prg) (ac : Ac) => congrFun (congrArg (E SP) c_ref1_sign_15.eq_1) ac) <| sc_ref1_sign.eq_1) := And.intro (fun (SP : Prg) (ac : Ac) => congrFun (congrArg (E SP) c_ref1_sign_1.eq_1) ac) <| And.intro (fun (SP : Prg) (ac : Ac) => congrFun (congrArg (E SP) c_ref1_sign_2.eq_1) ac) <| And.intro (fun (SP : Prg) (ac : Ac) => congrFun (congrArg (E SP) c_ref1_sign_3.eq_1) ac) <| And.intro (fun (SP : Prg) (ac : Ac) => congrFun (congrArg (E SP) c_ref1_sign_4.eq_1) ac) <| And.intro (fun (SP : Prg) (ac : Ac) => congrFun (congrArg (E SP) c_ref1_sign_5.eq_1) ac) <| And.intro (fun (SP : Prg) (ac : Ac) => congrFun (congrArg (E SP) c_ref1_sign_6.eq_1) ac) <| And.intro (fun (SP : Prg) (ac : Ac) => congrFun (congrArg (E SP) c_ref1_sign_7.eq_1) ac) <| And.intro (fun (SP : Prg) (ac : Ac) => congrFun (congrArg (E SP) c_ref1_sign_8.eq_1) ac) <| And.intro (fun (SP : Prg) (ac : Ac) => congrFun (congrArg (E SP) c_ref1_sign_9.eq_1) ac) <| And.intro (fun (SP : Prg) (ac : Ac) => congrFun (congrArg (E SP) c_ref1_sign_10.eq_1) ac) <| And.intro (fun (SP : Prg) (ac : Ac) => congrFun (congrArg (E SP) c_ref1_sign_11.eq_1) ac) <| And.intro (fun (SP : Prg) (ac : Ac) => congrFun (congrArg (E SP) c_ref1_sign_12.eq_1) ac) <| And.intro (fun (SP : Prg) (ac : Ac) => congrFun (congrArg (E SP) c_ref1_sign_13.eq_1) ac) <| And.intro (fun (SP : Prg) (ac : Ac) => congrFun (congrArg (E SP) c_ref1_sign_14.eq_1) ac) <| And.intro (fun (SP : Prg) (ac : Ac) => congrFun (congrArg (E SP) c_ref1_sign_15.eq_1) ac) <| sc_ref1_sign.eq_1
theorem comp_ref1_sign : comp Tryd.prog Tryd.f37 = some sc_ref1_sign := by kernel_rfl
/-- doorkeeper/doorkeeperref1.number -/
def c_ref1_number_1 : SC := .seq (.reg [⟨(some 46), none, (.v (.mov (.t 6)))⟩, ⟨(some 47), none, (.v (.mov (.t 1)))⟩, ⟨(some 48), none, (.v (.build [(.int .i64 0), (.str []), (.int .i64 0), (.nils 2), (.int .i64 0)] [(0, 1, (.c (.int .i64 1))), (2, 1, (.t 46)), (4, 1, (.t 47))]))⟩, ⟨(some 49), none, (.v (.mov (.t 7)))⟩, ⟨(some 50), none, (.v (.mov (.t 1)))⟩, ⟨(some 51), none, (.v (.bin .sub (.t 49) (.t 50)))⟩, ⟨none, none, (.store 5 (.t 4) (.t 48))⟩, ⟨(some 5), none, (.v (.mov (.t 51)))⟩]) .ret
def c_ref1_number_2 : SC := .seq (.seq (.reg [⟨(some 25), none, (.v (.mov (.t 6)))⟩, ⟨(some 26), none, (.v (.mov (.t 8)))⟩, ⟨(some 27), none, (.v (.bin .sub (.c (.int .i64 9223372036854775807)) (.t 26)))⟩, ⟨(some 28), none, (.v (.bin .quo (.t 27) (.c (.int .i64 10))))⟩, ⟨(some 29), none, (.v (.bin .gtr (.t 25) (.t 28)))⟩, ⟨(some 30), none, (.v (.mov (.t 29)))⟩, ⟨(some 31), (some (30, false)), (.v (.mov (.t 7)))⟩, ⟨(some 32), (some (30, false)), (.v (.mov (.t 1)))⟩, ⟨(some 33), (some (30, false)), (.v (.bin .gtr (.t 31) (.t 32)))⟩, ⟨(some 34), (some (30, false)), (.v (.mov (.t 33)))⟩, ⟨(some 35), (some (34, true)), (.v (.mov (.t 6)))⟩, ⟨(some 36), (some (34, true)), (.v (.bin .eql (.t 35) (.c (.int .i64 0))))⟩, ⟨(some 37), (some (30, false)), (.v (.pick (.t 34) (.t 36) (.c (.bool false))))⟩, ⟨(some 38), none, (.v (.pick (.t 30) (.c (.bool true)) (.t 37)))⟩]) (.cond (.t 38) (.seq (.reg [⟨(some 39), none, (.v (.build [(.int .i64 0), (.str []), (.int .i64 0), (.nils 2), (.int .i64 0)] []))⟩, ⟨none, none, (.store 5 (.t 4) (.t 39))⟩, ⟨(some 5), none, (.v (.mov (.c (.int .i64 0))))⟩]) .ret) .skip)) (.seq (.reg [⟨(some 40), none, (.v (.mov (.t 6)))⟩, ⟨(some 41), none, (.v (.bin .mul (.c (.int .i64 10)) (.t 40)))⟩, ⟨(some 42), none, (.v (.mov (.t 8)))⟩, ⟨(some 43), none, (.v (.bin .add (.t 41) (.t 42)))⟩, ⟨(some 6), none, (.v (.mov (.t 43)))⟩]) (.reg [⟨(some 44), none, (.v (.mov (.t 7)))⟩, ⟨(some 45), none, (.v (.bin .add (.t 44) (.c (.int .i64 1))))⟩, ⟨(some 7), none, (.v (.mov (.t 45)))⟩]))
def c_ref1_number_3 : SC := .block 1 (.seq (.reg [⟨(some 20), none, (.v (.mov (.t 0)))⟩, ⟨(some 21), none, (.v (.mov (.t 7)))⟩, ⟨(some 22), none, (.v (.istr (.t 20) (.t 21)))⟩, ⟨(some 23), none, (.v (.bin .sub (.t 22) (.c (.int .u8 48))))⟩, ⟨(some 24), none, (.v (.conv (.int .i64) (.t 23)))⟩, ⟨(some 8), none, (.v (.mov (.t 24)))⟩]) c_ref1_number_2)
def b_ref1_number_1 : SC := .seq (.seq (.reg [⟨(some 10), none, (.v (.mov (.t 7)))⟩, ⟨(some 11), none, (.v (.mov (.t 0)))⟩, ⟨(some 12), none, (.v (.len true (.t 11)))⟩, ⟨(some 13), none, (.v (.bin .lss (.t 10) (.t 12)))⟩, ⟨(some 14), none, (.v (.mov (.t 13)))⟩, ⟨(some 15), (some (14, true)), (.v (.mov (.t 0)))⟩, ⟨(some 16), (some (14, true)), (.v (.mov (.t 7)))⟩, ⟨(some 17), (some (14, true)), (.v (.istr (.t 15) (.t 16)))⟩, ⟨(some 18), (some (14, true)), (.call (.c (.func 23 [])) [(.t 17)])⟩, ⟨(some 19), none, (.v (.pick (.t 14) (.t 18) (.c (.bool false))))⟩]) (.cond (.t 19) .skip (.exit 0))) c_ref1_number_3
def c_ref1_number_4 : SC := .seq (.block 0 (.loop b_ref1_number_1)) c_ref1_number_1
def c_ref1_number_5 : SC := .seq (.reg [⟨(some 9), none, (.v (.mov (.t 1)))⟩, ⟨(some 6), none, (.v (.mov (.c (.int .i64 0))))⟩, ⟨(some 7), none, (.v (.mov (.t 9)))⟩]) c_ref1_number_4
def sc_ref1_number : SFunc := ⟨2, 52, .seq (.reg [⟨(some 4), none, (.alloc [(.int .i64 0), (.str []), (.int .i64 0), (.nils 2), (.int .i64 0)])⟩, ⟨(some 5), none, (.v (.mov (.c (.int .i64 0))))⟩]) c_ref1_number_5, [(.cell 4 (some 5)), (.t 5)]⟩
noncomputable def k_ref1_number_1 (SP : Prg) (x : EO) : CO := fin [(.cell 4 (some 5)), (.t 5)] (thC SP (inBlk 0 (x)) c_ref1_number_1)
theorem U_ref1_number : type_of% (And.intro (fun (SP : Prg) (ac : Ac) => congrFun (congrArg (E SP) c_ref1_number_1.eq_1) ac) <| And.intro (fun (SP : Prg) (ac : Ac) => congrFun (congrArg (E SP) c_ref1_number_2.eq_1) ac) <| And.intro (fun (SP : Prg) (ac : Ac) => congrFun (congrArg (E SP) c_ref1_number_3.eq_1) ac) <| And.intro (fun (SP : Prg) (ac : Ac) => congrFun (congrArg (E SP) b_ref1_number_1.eq_1) ac) <| And.intro (fun (SP : Prg) (ac : Ac) => congrFun (congrArg (E SP) c_ref1_number_4.eq_1) ac) <| And.intro (fun (SP : Prg) (ac : Ac) => congrFun (congrArg (E SP) c_ref1_number_5.eq_1) ac) <| sc_ref1_number.eq_1) := And.intro (fun (SP : Prg) (ac : Ac) => congrFun (congrArg (E SP) c_ref1_number_1.eq_1) ac) <| And.intro (fun (SP : Prg) (ac : Ac) => congrFun (congrArg (E SP) c_ref1_number_2.eq_1) ac) <| And.intro (fun (SP : Prg) (ac : Ac) => congrFun (congrArg (E SP) c_ref1_number_3.eq_1) ac) <| And.intro (fun (SP : Prg) (ac : Ac) => congrFun (congrArg (E SP) b_ref1_number_1.eq_1) ac) <| And.intro (fun (SP : Prg) (ac : Ac) => congrFun (congrArg (E SP) c_ref1_number_4.eq_1) ac) <| And.intro (fun (SP : Prg) (ac : Ac) => congrFun (congrArg (E SP) c_ref1_number_5.eq_1) ac) <| sc_ref1_number.eq_1
theorem comp_ref1_number : comp Tryd.prog Tryd.f33 = some sc_ref1_number := by kernel_rfl
/-- doorkeeper/doorkeeperref1.reference -/
def c_ref1_reference_1 : SC := .seq (.reg [⟨(some 56), none, (.v (.mov (.t 6)))⟩, ⟨(some 57), none, (.v (.bin .add (.t 56) (.c (.int .i64 1))))⟩, ⟨(some 58), none, (.v (.mov (.t 1)))⟩, ⟨(some 59), none, (.v (.bin .sub (.t 57) (.t 58)))⟩, ⟨(some 4), none, (.v (.mov (.t 59)))⟩]) .ret
def c_ref1_reference_2 : SC := .cond (.t 55) (.seq (.reg [⟨(some 4), none, (.v (.mov (.c (.int .i64 0))))⟩]) .ret) .skip
def c_ref1_reference_3 : SC := .seq (.seq (.reg [⟨(some 31), none, (.v (.mov (.t 6)))⟩, ⟨(some 32), none, (.v (.mov (.t 5)))⟩, ⟨(some 33), none, (.v (.bin .add (.t 32) (.c (.int .i64 1))))⟩, ⟨(some 34), none, (.v (.bin .eql (.t 31) (.t 33)))⟩, ⟨(some 35), none, (.v (.mov (.t 34)))⟩, ⟨(some 36), (some (35, false)), (.v (.mov (.t 6)))⟩, ⟨(some 37), (some (35, false)), (.v (.mov (.t 0)))⟩, ⟨(some 38), (some (35, false)), (.v (.len true (.t 37)))⟩, ⟨(some 39), (some (35, false)), (.v (.bin .geq (.t 36) (.t 38)))⟩, ⟨(some 40), none, (.v (.pick (.t 35) (.c (.bool true)) (.t 39)))⟩, ⟨(some 41), none, (.v (.mov (.t 40)))⟩, ⟨(some 42), (some (41, false)), (.v (.mov (.t 0)))⟩, ⟨(some 43), (some (41, false)), (.v (.mov (.t 6)))⟩, ⟨(some 44), (some (41, false)), (.v (.istr (.t 42) (.t 43)))⟩, ⟨(some 45), (some (41, false)), (.v (.bin .neq (.t 44) (.c (.int .u8 125))))⟩, ⟨(some 46), none, (.v (.pick (.t 41) (.c (.bool true)) (.t 45)))⟩, ⟨(some 47), none, (.v (.mov (.t 46)))⟩, ⟨(some 48), (some (47, false)), (.v (.mov (.t 0)))⟩, ⟨(some 49), (some (47, false)), (.v (.mov (.t 1)))⟩, ⟨(some 50), (some (47, false)), (.v (.bin .add (.t 49) (.c (.int .i64 2))))⟩, ⟨(some 51), (some (47, false)), (.v (.mov (.t 6)))⟩, ⟨(some 52), (some (47, false)), (.v (.sls (.t 48) (some (.t 50)) (some (.t 51))))⟩, ⟨(some 53), (some (47, false)), (.call (.c (.func 63 [])) [(.t 52)])⟩, ⟨(some 54), (some (47, false)), (.v (.un .not (.t 53)))⟩, ⟨(some 55), none, (.v (.pick (.t 47) (.c (.bool true)) (.t 54)))⟩]) c_ref1_reference_2) c_ref1_reference_1
def c_ref1_reference_4 : SC := .seq (.reg [⟨(some 27), none, (.v (.mov (.t 0)))⟩, ⟨(some 28), none, (.v (.mov (.t 5)))⟩, ⟨(some 29), none, (.v (.bin .add (.t 28) (.c (.int .i64 1))))⟩, ⟨(some 30), none, (.call (.c (.func 36 [])) [(.t 27), (.t 29)])⟩, ⟨(some 6), none, (.v (.mov (.t 30)))⟩]) c_ref1_reference_3
def c_ref1_reference_5 : SC := .seq (.seq (.reg [⟨(some 11), none, (.v (.mov (.t 5)))⟩, ⟨(some 12), none, (.v (.mov (.t 1)))⟩, ⟨(some 13), none, (.v (.bin .add (.t 12) (.c (.int .i64 2))))⟩, ⟨(some 14), none, (.v (.bin .eql (.t 11) (.t 13)))⟩, ⟨(some 15), none, (.v (.mov (.t 14)))⟩, ⟨(some 16), (some (15, false)), (.v (.mov (.t 5)))⟩, ⟨(some 17), (some (15, false)), (.v (.mov (.t 0)))⟩, ⟨(some 18), (some (15, false)), (.v (.len true (.t 17)))⟩, ⟨(some 19), (some (15, false)), (.v (.bin .geq (.t 16) (.t 18)))⟩, ⟨(some 20), none, (.v (.pick (.t 15) (.c (.bool true)) (.t 19)))⟩, ⟨(some 21), none, (.v (.mov (.t 20)))⟩, ⟨(some 22), (some (21, false)), (.v (.mov (.t 0)))⟩, ⟨(some 23), (some (21, false)), (.v (.mov (.t 5)))⟩, ⟨(some 24), (some (21, false)), (.v (.istr (.t 22) (.t 23)))⟩, ⟨(some 25), (some (21, false)), (.v (.bin .neq (.t 24) (.c (.int .u8 46))))⟩, ⟨(some 26), none, (.v (.pick (.t 21) (.c (.bool true)) (.t 25)))⟩]) (.cond (.t 26) (.seq (.reg [⟨(some 4), none, (.v (.mov (.c (.int .i64 0))))⟩]) .ret) .skip)) c_ref1_reference_4
def c_ref1_reference_6 : SC := .seq (.reg [⟨(some 7), none, (.v (.mov (.t 0)))⟩, ⟨(some 8), none, (.v (.mov (.t 1)))⟩, ⟨(some 9), none, (.v (.bin .add (.t 8) (.c (.int .i64 2))))⟩, ⟨(some 10), none, (.call (.c (.func 36 [])) [(.t 7), (.t 9)])⟩, ⟨(some 5), none, (.v (.mov (.t 10)))⟩]) c_ref1_reference_5
def sc_ref1_reference : SFunc := ⟨2, 60, .seq (.reg [⟨(some 4), none, (.v (.mov (.c (.int .i64 0))))⟩]) c_ref1_reference_6, [(.t 4)]⟩
theorem U_ref1_reference : type_of% (And.intro (fun (SP : Prg) (ac : Ac) => congrFun (congrArg (E SP) c_ref1_reference_1.eq_1) ac) <| And.intro (fun (SP : Prg) (ac : Ac) => congrFun (congrArg (E SP) c_ref1_reference_2.eq_1) ac) <| And.intro (fun (SP : Prg) (ac : Ac) => congrFun (congrArg (E SP) c_ref1_reference_3.eq_1) ac) <| And.intro (fun (SP : Prg) (ac : Ac) => congrFun (congrArg (E SP) c_ref1_reference_4.eq_1) ac) <| And.intro (fun (SP : Prg) (ac : Ac) => congrFun (congrArg (E SP) c_ref1_reference_5.eq_1) ac) <| And.intro (fun (SP : Prg) (ac : Ac) => congrFun (congrArg (E SP) c_ref1_reference_6.eq_1) ac) <| sc_ref1_reference.eq_1) := And.intro (fun (SP : Prg) (ac : Ac) => congrFun (congrArg (E SP) c_ref1_reference_1.eq_1) ac) <| And.intro (fun (SP : Prg) (ac : Ac) => congrFun (congrArg (E SP) c_ref1_reference_2.eq_1) ac) <| And.intro (fun (SP : Prg) (ac : Ac) => congrFun (congrArg (E SP) c_ref1_reference_3.eq_1) ac) <| And.intro (fun (SP : Prg) (ac : Ac) => congrFun (congrArg (E SP) c_ref1_reference_4.eq_1) ac) <| And.intro (fun (SP : Prg) (ac : Ac) => congrFun (congrArg (E SP) c_ref1_reference_5.eq_1) ac) <| And.intro (fun (SP : Prg) (ac : Ac) => congrFun (congrArg (E SP) c_ref1_reference_6.eq_1) ac) <| sc_ref1_reference.eq_1
theorem comp_ref1_reference : comp Tryd.prog Tryd.f49 = some sc_ref1_reference := by kernel_rfl
/-- doorkeeper/doorkeeperref1.text -/
def c_ref1_text_1 : SC := .seq (.reg [⟨(some 126), none, (.v (.build [(.int .i64 0), (.str []), (.int .i64 0), (.nils 2), (.int .i64 0)] []))⟩, ⟨none, none, (.store 5 (.t 4) (.t 126))⟩, ⟨(some 5), none, (.v (.mov (.c (.int .i64 0))))⟩]) .ret
def c_ref1_text_2 : SC := .reg [⟨(some 17), none, (.v (.mov (.t 8)))⟩, ⟨(some 18), none, (.v (.bin .add (.t 17) (.c (.int .i64 1))))⟩, ⟨(some 8), none, (.v (.mov (.t 18)))⟩]
def c_ref1_text_3 : SC := .seq (.reg [⟨(some 59), none, (.v (.mov (.t 0)))⟩, ⟨(some 60), none, (.v (.mov (.t 8)))⟩, ⟨(some 61), none, (.v (.istr (.t 59) (.t 60)))⟩]) (.block 3 (.seq (.seq (.reg [⟨(some 64), none, (.v (.bin .eql (.t 61) (.c (.int .u8 34))))⟩, ⟨(some 63), none, (.v (.mov (.t 64)))⟩]) (.cond (.t 63) .skip (.seq (.reg [⟨(some 65), none, (.v (.bin .eql (.t 61) (.c (.int .u8 92))))⟩, ⟨(some 63), none, (.v (.mov (.t 65)))⟩]) (.cond (.t 63) .skip (.reg [⟨(some 66), none, (.v (.bin .eql (.t 61) (.c (.int .u8 36))))⟩, ⟨(some 63), none, (.v (.mov (.t 66)))⟩]))))) (.cond (.t 63) (.reg [⟨(some 67), none, (.v (.mov (.t 7)))⟩, ⟨(some 68), none, (.v (.mov (.t 0)))⟩, ⟨(some 69), none, (.v (.mov (.t 8)))⟩, ⟨(some 70), none, (.v (.istr (.t 68) (.t 69)))⟩, ⟨(some 71), none, (.bslice 1 1 [(.int .u8 0)] [(0, (.t 70))])⟩, ⟨(some 72), none, (.append 1 1 (.t 67) (.t 71))⟩, ⟨(some 7), none, (.v (.mov (.t 72)))⟩]) (.seq (.reg [⟨(some 74), none, (.v (.bin .eql (.t 61) (.c (.int .u8 110))))⟩, ⟨(some 73), none, (.v (.mov (.t 74)))⟩]) (.cond (.t 73) (.reg [⟨(some 75), none, (.v (.mov (.t 7)))⟩, ⟨(some 76), none, (.bslice 1 1 [(.int .u8 0)] [(0, (.c (.int .u8 10)))])⟩, ⟨(some 77), none, (.append 1 1 (.t 75) (.t 76))⟩, ⟨(some 7), none, (.v (.mov (.t 77)))⟩]) (.seq (.reg [⟨(some 62), none, (.v (.build [(.int .i64 0), (.str []), (.int .i64 0), (.nils 2), (.int .i64 0)] []))⟩, ⟨none, none, (.store 5 (.t 4) (.t 62))⟩, ⟨(some 5), none, (.v (.mov (.c (.int .i64 0))))⟩]) .ret))))))
def c_ref1_text_4 : SC := .seq (.seq (.reg [⟨(some 54), none, (.v (.mov (.t 8)))⟩, ⟨(some 55), none, (.v (.mov (.t 0)))⟩, ⟨(some 56), none, (.v (.len true (.t 55)))⟩, ⟨(some 57), none, (.v (.bin .geq (.t 54) (.t 56)))⟩]) (.cond (.t 57) (.seq (.reg [⟨(some 58), none, (.v (.build [(.int .i64 0), (.str []), (.int .i64 0), (.nils 2), (.int .i64 0)] []))⟩, ⟨none, none, (.store 5 (.t 4) (.t 58))⟩, ⟨(some 5), none, (.v (.mov (.c (.int .i64 0))))⟩]) .ret) .skip)) c_ref1_text_3
def c_ref1_text_5 : SC := .seq (.reg [⟨(some 110), none, (.v (.mov (.t 6)))⟩, ⟨(some 111), none, (.v (.mov (.t 0)))⟩, ⟨(some 112), none, (.v (.mov (.t 8)))⟩, ⟨(some 113), none, (.v (.bin .add (.t 112) (.c (.int .i64 2))))⟩, ⟨(some 114), none, (.v (.mov (.t 8)))⟩, ⟨(some 115), none, (.v (.mov (.t 10)))⟩, ⟨(some 116), none, (.v (.bin .add (.t 114) (.t 115)))⟩, ⟨(some 117), none, (.v (.bin .sub (.t 116) (.c (.int .i64 1))))⟩, ⟨(some 118), none, (.v (.sls (.t 111) (some (.t 113)) (some (.t 117))))⟩, ⟨(some 119), none, (.v (.build [(.bool false), (.str [])] [(0, 1, (.c (.bool true))), (1, 1, (.t 118))]))⟩, ⟨(some 120), none, (.bslice 2 1 [(.bool false), (.str [])] [(0, (.t 119))])⟩, ⟨(some 121), none, (.append 2 24 (.t 110) (.t 120))⟩, ⟨(some 6), none, (.v (.mov (.t 121)))⟩]) (.reg [⟨(some 122), none, (.v (.mov (.t 8)))⟩, ⟨(some 123), none, (.v (.mov (.t 10)))⟩, ⟨(some 124), none, (.v (.bin .add (.t 122) (.t 123)))⟩, ⟨(some 125), none, (.v (.bin .sub (.t 124) (.c (.int .i64 1))))⟩, ⟨(some 8), none, (.v (.mov (.t 125)))⟩])
def c_ref1_text_6 : SC := .seq (.seq (.reg [⟨(some 101), none, (.v (.mov (.t 7)))⟩, ⟨(some 102), none, (.v (.len false (.t 101)))⟩, ⟨(some 103), none, (.v (.bin .gtr (.t 102) (.c (.int .i64 0))))⟩]) (.cond (.t 103) (.seq (.reg [⟨(some 104), none, (.v (.mov (.t 6)))⟩, ⟨(some 105), none, (.v (.mov (.t 7)))⟩, ⟨(some 106), none, (.v (.conv .bytes (.t 105)))⟩, ⟨(some 107), none, (.v (.build [(.bool false), (.str [])] [(1, 1, (.t 106))]))⟩, ⟨(some 108), none, (.bslice 2 1 [(.bool false), (.str [])] [(0, (.t 107))])⟩, ⟨(some 109), none, (.append 2 24 (.t 104) (.t 108))⟩, ⟨(some 6), none, (.v (.mov (.t 109)))⟩]) (.reg [⟨(some 7), none, (.nilv 1)⟩])) .skip)) c_ref1_text_5
def c_ref1_text_7 : SC := .seq (.seq (.reg [⟨(some 98), none, (.v (.mov (.t 10)))⟩, ⟨(some 99), none, (.v (.bin .eql (.t 98) (.c (.int .i64 0))))⟩]) (.cond (.t 99) (.seq (.reg [⟨(some 100), none, (.v (.build [(.int .i64 0), (.str []), (.int .i64 0), (.nils 2), (.int .i64 0)] []))⟩, ⟨none, none, (.store 5 (.t 4) (.t 100))⟩, ⟨(some 5), none, (.v (.mov (.c (.int .i64 0))))⟩]) .ret) .skip)) c_ref1_text_6
def c_ref1_text_8 : SC := .cond (.t 78) (.seq (.reg [⟨(some 95), none, (.v (.mov (.t 0)))⟩, ⟨(some 96), none, (.v (.mov (.t 8)))⟩, ⟨(some 97), none, (.call (.c (.func 49 [])) [(.t 95), (.t 96)])⟩, ⟨(some 10), none, (.v (.mov (.t 97)))⟩]) c_ref1_text_7) (.reg [⟨(some 22), none, (.v (.mov (.t 7)))⟩, ⟨(some 23), none, (.v (.mov (.t 9)))⟩, ⟨(some 24), none, (.bslice 1 1 [(.int .u8 0)] [(0, (.t 23))])⟩, ⟨(some 25), none, (.append 1 1 (.t 22) (.t 24))⟩, ⟨(some 7), none, (.v (.mov (.t 25)))⟩])
def c_ref1_text_9 : SC := .cond (.t 49) (.seq (.reg [⟨(some 52), none, (.v (.mov (.t 8)))⟩, ⟨(some 53), none, (.v (.bin .add (.t 52) (.c (.int .i64 1))))⟩, ⟨(some 8), none, (.v (.mov (.t 53)))⟩]) c_ref1_text_4) (.seq (.reg [⟨(some 79), none, (.v (.mov (.t 9)))⟩, ⟨(some 80), none, (.v (.bin .eql (.t 79) (.c (.int .u8 36))))⟩, ⟨(some 81), none, (.v (.mov (.t 80)))⟩, ⟨(some 82), (some (81, true)), (.v (.mov (.t 8)))⟩, ⟨(some 83), (some (81, true)), (.v (.bin .add (.t 82) (.c (.int .i64 1))))⟩, ⟨(some 84), (some (81, true)), (.v (.mov (.t 0)))⟩, ⟨(some 85), (some (81, true)), (.v (.len true (.t 84)))⟩, ⟨(some 86), (some (81, true)), (.v (.bin .lss (.t 83) (.t 85)))⟩, ⟨(some 87), none, (.v (.pick (.t 81) (.t 86) (.c (.bool false))))⟩, ⟨(some 88), none, (.v (.mov (.t 87)))⟩, ⟨(some 89), (some (88, true)), (.v (.mov (.t 0)))⟩, ⟨(some 90), (some (88, true)), (.v (.mov (.t 8)))⟩, ⟨(some 91), (some (88, true)), (.v (.bin .add (.t 90) (.c (.int .i64 1))))⟩, ⟨(some 92), (some (88, true)), (.v (.istr (.t 89) (.t 91)))⟩, ⟨(some 93), (some (88, true)), (.v (.bin .eql (.t 92) (.c (.int .u8 123))))⟩, ⟨(some 94), none, (.v (.pick (.t 88) (.t 93) (.c (.bool false))))⟩, ⟨(some 78), none, (.v (.mov (.t 94)))⟩]) c_ref1_text_8)
def c_ref1_text_10 : SC := .cond (.t 45) (.seq (.reg [⟨(some 48), none, (.v (.build [(.int .i64 0), (.str []), (.int .i64 0), (.nils 2), (.int .i64 0)] []))⟩, ⟨none, none, (.store 5 (.t 4) (.t 48))⟩, ⟨(some 5), none, (.v (.mov (.c (.int .i64 0))))⟩]) .ret) (.seq (.reg [⟨(some 50), none, (.v (.mov (.t 9)))⟩, ⟨(some 51), none, (.v (.bin .eql (.t 50) (.c (.int .u8 92))))⟩, ⟨(some 49), none, (.v (.mov (.t 51)))⟩]) c_ref1_text_9)
def c_ref1_text_11 : SC := .cond (.t 26) (.seq (.seq (.reg [⟨(some 29), none, (.v (.mov (.t 7)))⟩, ⟨(some 30), none, (.v (.len false (.t 29)))⟩, ⟨(some 31), none, (.v (.bin .gtr (.t 30) (.c (.int .i64 0))))⟩]) (.cond (.t 31) (.reg [⟨(some 32), none, (.v (.mov (.t 6)))⟩, ⟨(some 33), none, (.v (.mov (.t 7)))⟩, ⟨(some 34), none, (.v (.conv .bytes (.t 33)))⟩, ⟨(some 35), none, (.v (.build [(.bool false), (.str [])] [(1, 1, (.t 34))]))⟩, ⟨(some 36), none, (.bslice 2 1 [(.bool false), (.str [])] [(0, (.t 35))])⟩, ⟨(some 37), none, (.append 2 24 (.t 32) (.t 36))⟩, ⟨(some 6), none, (.v (.mov (.t 37)))⟩]) .skip)) (.seq (.reg [⟨(some 38), none, (.v (.mov (.t 6)))⟩, ⟨(some 39), none, (.v (.mov (.t 1)))⟩, ⟨(some 40), none, (.v (.build [(.int .i64 0), (.str []), (.int .i64 0), (.nils 2), (.int .i64 0)] [(0, 1, (.c (.int .i64 2))), (3, 1, (.t 38)), (4, 1, (.t 39))]))⟩, ⟨(some 41), none, (.v (.mov (.t 8)))⟩, ⟨(some 42), none, (.v (.bin .add (.t 41) (.c (.int .i64 1))))⟩, ⟨(some 43), none, (.v (.mov (.t 1)))⟩, ⟨(some 44), none, (.v (.bin .sub (.t 42) (.t 43)))⟩, ⟨none, none, (.store 5 (.t 4) (.t 40))⟩, ⟨(some 5), none, (.v (.mov (.t 44)))⟩]) .ret)) (.seq (.reg [⟨(some 46), none, (.v (.mov (.t 9)))⟩, ⟨(some 47), none, (.v (.bin .lss (.t 46) (.c (.int .u8 32))))⟩, ⟨(some 45), none, (.v (.mov (.t 47)))⟩]) c_ref1_text_10)
def c_ref1_text_12 : SC := .block 2 (.seq (.reg [⟨(some 27), none, (.v (.mov (.t 9)))⟩, ⟨(some 28), none, (.v (.bin .eql (.t 27) (.c (.int .u8 34))))⟩, ⟨(some 26), none, (.v (.mov (.t 28)))⟩]) c_ref1_text_11)
def c_ref1_text_13 : SC := .seq (.block 1 (.seq (.reg [⟨(some 19), none, (.v (.mov (.t 0)))⟩, ⟨(some 20), none, (.v (.mov (.t 8)))⟩, ⟨(some 21), none, (.v (.istr (.t 19) (.t 20)))⟩, ⟨(some 9), none, (.v (.mov (.t 21)))⟩]) c_ref1_text_12)) c_ref1_text_2
def b_ref1_text_1 : SC := .seq (.seq (.reg [⟨(some 13), none, (.v (.mov (.t 8)))⟩, ⟨(some 14), none, (.v (.mov (.t 0)))⟩, ⟨(some 15), none, (.v (.len true (.t 14)))⟩, ⟨(some 16), none, (.v (.bin .lss (.t 13) (.t 15)))⟩]) (.cond (.t 16) .skip (.exit 0))) c_ref1_text_13
def c_ref1_text_14 : SC := .block 0 (.loop b_ref1_text_1)
def c_ref1_text_15 : SC := .seq (.seq (.reg [⟨(some 11), none, (.v (.mov (.t 1)))⟩, ⟨(some 12), none, (.v (.bin .add (.t 11) (.c (.int .i64 1))))⟩, ⟨(some 8), none, (.v (.mov (.t 12)))⟩]) c_ref1_text_14) c_ref1_text_1
def c_ref1_text_16 : SC := .seq (.reg [⟨(some 7), none, (.nilv 1)⟩]) c_ref1_text_15
def c_ref1_text_17 : SC := .seq (.reg [⟨(some 6), none, (.nilv 2)⟩]) c_ref1_text_16
def sc_ref1_text : SFunc := ⟨2, 127, .seq (.reg [⟨(some 4), none, (.alloc [(.int .i64 0), (.str []), (.int .i64 0), (.nils 2), (.int .i64 0)])⟩, ⟨(some 5), none, (.v (.mov (.c (.int .i64 0))))⟩]) c_ref1_text_17, [(.cell 4 (some 5)), (.t 5)]⟩
noncomputable def k_ref1_text_1 (SP : Prg) (x : EO) : CO := fin [(.cell 4 (some 5)), (.t 5)] (thC SP (inBlk 0 (x)) c_ref1_text_1)
theorem U_ref1_text : type_of% (And.intro (fun (SP : Prg) (ac : Ac) => congrFun (congrArg (E SP) c_ref1_text_1.eq_1) ac) <| And.intro (fun (SP : Prg) (ac : Ac) => congrFun (congrArg (E SP) c_ref1_text_2.eq_1) ac) <| And.intro (fun (SP : Prg) (ac : Ac) => congrFun (congrArg (E SP) c_ref1_text_3.eq_1) ac) <| And.intro (fun (SP : Prg) (ac : Ac) => congrFun (congrArg (E SP) c_ref1_text_4.eq_1) ac) <| And.intro (fun (SP : Prg) (ac : Ac) => congrFun (congrArg (E SP) c_ref1_text_5.eq_1) ac) <| And.intro (fun (SP : Prg) (ac : Ac) => congrFun (congrArg (E SP) c_ref1_text_6.eq_1) ac) <| And.intro (fun (SP : Prg) (ac : Ac) => congrFun (congrArg (E SP) c_ref1_text_7.eq_1) ac) <| And.intro (fun (SP : Prg) (ac : Ac) => congrFun (congrArg (E SP) c_ref1_text_8.eq_1) ac) <| And.intro (fun (SP : Prg) (ac : Ac) => congrFun (congrArg (E SP) c_ref1_text_9.eq_1) ac) <| And.intro (fun (SP : Prg) (ac : Ac) => congrFun (congrArg (E SP) c_ref1_text_10.eq_1) ac) <| And.intro (fun (SP : Prg) (ac : Ac) => congrFun (congrArg (E SP) c_ref1_text_11.eq_1) ac) <| And.intro (fun (SP : Prg) (ac : Ac) => congrFun (congrArg (E SP) c_ref1_text_12.eq_1) ac) <| And.intro (fun (SP : Prg) (ac : Ac) => congrFun (congrArg (E SP) c_ref1_text_13.eq_1) ac) <| And.intro (fun (SP : Prg) (ac : Ac) => congrFun (congrArg (E SP) b_ref1_text_1.eq_1) ac) <| And.intro (fun (SP : Prg) (ac : Ac) => congrFun (congrArg (E SP) c_ref1_text_14.eq_1) ac) <| And.intro (fun (SP : Prg) (ac : Ac) => congrFun (congrArg (E SP) c_ref1_text_15.eq_1) ac) <| And.intro (fun (SP : Prg) (ac : Ac) => congrFun (congrArg (E SP) c_ref1_text_16.eq_1) ac) <| And.intro (fun (SP : Prg) (ac : Ac) => congrFun (congrArg (E SP) c_ref1_text_17.eq_1) ac) <| sc_ref1_text.eq_1) := And.intro (fun (SP : Prg) (ac : Ac) => congrFun (congrArg (E SP) c_ref1_text_1.eq_1) ac) <| And.intro (fun (SP : Prg) (ac : Ac) => congrFun (congrArg (E SP) c_ref1_text_2.eq_1) ac) <| And.intro (fun (SP : Prg) (ac : Ac) => congrFun (congrArg (E SP) c_ref1_text_3.eq_1) ac) <| And.intro (fun (SP : Prg) (ac : Ac) => congrFun (congrArg (E SP) c_ref1_text_4.eq_1) ac) <| And.intro (fun (SP : Prg) (ac : Ac) => congrFun (congrArg (E SP) c_ref1_text_5.eq_1) ac) <| And.intro (fun (SP : Prg) (ac : Ac) => congrFun (congrArg (E SP) c_ref1_text_6.eq_1) ac) <| And.intro (fun (SP : Prg) (ac : Ac) => congrFun (congrArg (E SP) c_ref1_text_7.eq_1) ac) <| And.intro (fun (SP : Prg) (ac : Ac) => congrFun (congrArg (E SP) c_ref1_text_8.eq_1) ac) <| And.intro (fun (SP : Prg) (ac : Ac) => congrFun (congrArg (E SP) c_ref1_text_9.eq_1) ac) <| And.intro (fun (SP : Prg) (ac : Ac) => congrFun (congrArg (E SP) c_ref1_text_10.eq_1) ac) <| And.intro (fun (SP : Prg) (ac : Ac) => congrFun (congrArg (E SP) c_ref1_text_11.eq_1) ac) <| And.intro (fun (SP : Prg) (ac : Ac) => congrFun (congrArg (E SP) c_ref1_text_12.eq_1) ac) <| And.intro (fun (SP : Prg) (ac : Ac) => congrFun (congrArg (E SP) c_ref1_text_13.eq_1) ac) <| And.intro (fun (SP : Prg) (ac : Ac) => congrFun (congrArg (E SP) b_ref1_text_1.eq_1) ac) <| And.intro (fun (SP : Prg) (ac : Ac) => congrFun (congrArg (E SP) c_ref1_text_14.eq_1) ac) <| And.intro (fun (SP : Prg) (ac : Ac) => congrFun (congrArg (E SP) c_ref1_text_15.eq_1) ac) <| And.intro (fun (SP : Prg) (ac : Ac) => congrFun (congrArg (E SP) c_ref1_text_16.eq_1) ac) <| And.intro (fun (SP : Prg) (ac : Ac) => congrFun (congrArg (E SP) c_ref1_text_17.eq_1) ac) <| sc_ref1_text.eq_1
theorem comp_ref1_text : comp Tryd.prog Tryd.f34 = some sc_ref1_text := by kernel_rfl
/-- doorkeeper/doorkeeperref1.token -/
def c_ref1_token_1 : SC := .seq (.reg [⟨(some 50), none, (.v (.mov (.t 0)))⟩, ⟨(some 51), none, (.v (.mov (.t 1)))⟩, ⟨(some 52), none, (.call (.c (.func 37 [])) [(.t 50), (.t 51)])⟩, ⟨(some 7), none, (.v (.mov (.t 52)))⟩]) (.seq (.reg [⟨(some 53), none, (.v (.mov (.t 7)))⟩, ⟨(some 54), none, (.v (.mov (.t 1)))⟩, ⟨(some 55), none, (.v (.build [(.int .i64 0), (.str []), (.int .i64 0), (.nils 2), (.int .i64 0)] [(0, 1, (.c (.int .i64 4))), (1, 1, (.t 53)), (4, 1, (.t 54))]))⟩, ⟨(some 56), none, (.v (.mov (.t 7)))⟩, ⟨(some 57), none, (.v (.len true (.t 56)))⟩, ⟨none, none, (.store 5 (.t 4) (.t 55))⟩, ⟨(some 5), none, (.v (.mov (.t 57)))⟩]) .ret)
def c_ref1_token_2 : SC := .cond (.t 28) (.seq (.reg [⟨(some 33), none, (.v (.mov (.t 0)))⟩, ⟨(some 34), none, (.v (.mov (.t 1)))⟩, ⟨(some 35), none, (.call (.c (.func 36 [])) [(.t 33), (.t 34)])⟩, ⟨(some 6), none, (.v (.mov (.t 35)))⟩]) (.seq (.seq (.reg [⟨(some 36), none, (.v (.mov (.t 6)))⟩, ⟨(some 37), none, (.v (.mov (.t 1)))⟩, ⟨(some 38), none, (.v (.bin .sub (.t 36) (.t 37)))⟩, ⟨(some 39), none, (.v (.bin .gtr (.t 38) (.c (.int .i64 24))))⟩]) (.cond (.t 39) (.seq (.reg [⟨(some 40), none, (.v (.build [(.int .i64 0), (.str []), (.int .i64 0), (.nils 2), (.int .i64 0)] []))⟩, ⟨none, none, (.store 5 (.t 4) (.t 40))⟩, ⟨(some 5), none, (.v (.mov (.c (.int .i64 0))))⟩]) .ret) .skip)) (.seq (.reg [⟨(some 41), none, (.v (.mov (.t 0)))⟩, ⟨(some 42), none, (.v (.mov (.t 1)))⟩, ⟨(some 43), none, (.v (.mov (.t 6)))⟩, ⟨(some 44), none, (.v (.sls (.t 41) (some (.t 42)) (some (.t 43))))⟩, ⟨(some 45), none, (.v (.mov (.t 1)))⟩, ⟨(some 46), none, (.v (.build [(.int .i64 0), (.str []), (.int .i64 0), (.nils 2), (.int .i64 0)] [(0, 1, (.c (.int .i64 3))), (1, 1, (.t 44)), (4, 1, (.t 45))]))⟩, ⟨(some 47), none, (.v (.mov (.t 6)))⟩, ⟨(some 48), none, (.v (.mov (.t 1)))⟩, ⟨(some 49), none, (.v (.bin .sub (.t 47) (.t 48)))⟩, ⟨none, none, (.store 5 (.t 4) (.t 46))⟩, ⟨(some 5), none, (.v (.mov (.t 49)))⟩]) .ret))) .skip
def c_ref1_token_3 : SC := .cond (.t 18) (.seq (.reg [⟨(some 23), none, (.v (.mov (.t 0)))⟩, ⟨(some 24), none, (.v (.mov (.t 1)))⟩, ⟨(some 25), none, (.call (.c (.func 34 [])) [(.t 23), (.t 24)])⟩, ⟨(some 26), none, (.v (.extract 0 (.t 25)))⟩, ⟨(some 27), none, (.v (.extract 1 (.t 25)))⟩, ⟨none, none, (.store 5 (.t 4) (.t 26))⟩, ⟨(some 5), none, (.v (.mov (.t 27)))⟩]) .ret) (.seq (.reg [⟨(some 29), none, (.v (.mov (.t 0)))⟩, ⟨(some 30), none, (.v (.mov (.t 1)))⟩, ⟨(some 31), none, (.v (.istr (.t 29) (.t 30)))⟩, ⟨(some 32), none, (.call (.c (.func 35 [])) [(.t 31)])⟩, ⟨(some 28), none, (.v (.mov (.t 32)))⟩]) c_ref1_token_2)
def c_ref1_token_4 : SC := .cond (.t 8) (.seq (.reg [⟨(some 13), none, (.v (.mov (.t 0)))⟩, ⟨(some 14), none, (.v (.mov (.t 1)))⟩, ⟨(some 15), none, (.call (.c (.func 33 [])) [(.t 13), (.t 14)])⟩, ⟨(some 16), none, (.v (.extract 0 (.t 15)))⟩, ⟨(some 17), none, (.v (.extract 1 (.t 15)))⟩, ⟨none, none, (.store 5 (.t 4) (.t 16))⟩, ⟨(some 5), none, (.v (.mov (.t 17)))⟩]) .ret) (.seq (.reg [⟨(some 19), none, (.v (.mov (.t 0)))⟩, ⟨(some 20), none, (.v (.mov (.t 1)))⟩, ⟨(some 21), none, (.v (.istr (.t 19) (.t 20)))⟩, ⟨(some 22), none, (.v (.bin .eql (.t 21) (.c (.int .u8 34))))⟩, ⟨(some 18), none, (.v (.mov (.t 22)))⟩]) c_ref1_token_3)
def c_ref1_token_5 : SC := .seq (.block 0 (.seq (.reg [⟨(some 9), none, (.v (.mov (.t 0)))⟩, ⟨(some 10), none, (.v (.mov (.t 1)))⟩, ⟨(some 11), none, (.v (.istr (.t 9) (.t 10)))⟩, ⟨(some 12), none, (.call (.c (.func 23 [])) [(.t 11)])⟩, ⟨(some 8), none, (.v (.mov (.t 12)))⟩]) c_ref1_token_4)) c_ref1_token_1
def sc_ref1_token : SFunc := ⟨2, 58, .seq (.reg [⟨(some 4), none, (.alloc [(.int .i64 0), (.str []), (.int .i64 0), (.nils 2), (.int .i64 0)])⟩, ⟨(some 5), none, (.v (.mov (.c (.int .i64 0))))⟩]) c_ref1_token_5, [(.cell 4 (some 5)), (.t 5)]⟩
theorem U_ref1_token : type_of% (And.intro (fun (SP : Prg) (ac : Ac) => congrFun (congrArg (E SP) c_ref1_token_1.eq_1) ac) <| And.intro (fun (SP : Prg) (ac : Ac) => congrFun (congrArg (E SP) c_ref1_token_2.eq_1) ac) <| And.intro (fun (SP : Prg) (ac : Ac) => congrFun (congrArg (E SP) c_ref1_token_3.eq_1) ac) <| And.intro (fun (SP : Prg) (ac : Ac) => congrFun (congrArg (E SP) c_ref1_token_4.eq_1) ac) <| And.intro (fun (SP : Prg) (ac : Ac) => congrFun (congrArg (E SP) c_ref1_token_5.eq_1) ac) <| sc_ref1_token.eq_1) := And.intro (fun (SP : Prg) (ac : Ac) => congrFun (congrArg (E SP) c_ref1_token_1.eq_1) ac) <| And.intro (fun (SP : Prg) (ac : Ac) => congrFun (congrArg (E SP) c_ref1_token_2.eq_1) ac) <| And.intro (fun (SP : Prg) (ac : Ac) => congrFun (congrArg (E SP) c_ref1_token_3.eq_1) ac) <| And.intro (fun (SP : Prg) (ac : Ac) => congrFun (congrArg (E SP) c_ref1_token_4.eq_1) ac) <| And.intro (fun (SP : Prg) (ac : Ac) => congrFun (congrArg (E SP) c_ref1_token_5.eq_1) ac) <| sc_ref1_token.eq_1
theorem comp_ref1_token : comp Tryd.prog Tryd.f20 = some sc_ref1_token := by kernel_rfl
/-- doorkeeper/doorkeeperref1.SameParts -/
def c_ref1_SameParts_1 : SC := .seq (.reg [⟨(some 4), none, (.v (.mov (.c (.bool true))))⟩]) .ret
def b_ref1_SameParts_1 : SC := .seq (.seq (.reg [⟨(some 11), none, (.v (.mov (.t 5)))⟩, ⟨(some 12), none, (.v (.mov (.t 0)))⟩, ⟨(some 13), none, (.v (.len false (.t 12)))⟩, ⟨(some 14), none, (.v (.bin .lss (.t 11) (.t 13)))⟩]) (.cond (.t 14) .skip (.exit 0))) (.seq (.block 1 (.seq (.dreg [⟨(some 17), none, (.v (.mov (.t 0)))⟩, ⟨(some 18), none, (.v (.mov (.t 5)))⟩, ⟨(some 19), none, (.v (.iaddr 2 (.t 17) (.t 18)))⟩, ⟨(some 20), none, (.v (.load (some 2) (.t 19)))⟩, ⟨(some 21), none, (.v (.mov (.t 1)))⟩, ⟨(some 22), none, (.v (.mov (.t 5)))⟩, ⟨(some 23), none, (.v (.iaddr 2 (.t 21) (.t 22)))⟩, ⟨(some 24), none, (.v (.load (some 2) (.t 23)))⟩, ⟨(some 25), none, (.v (.eqs true [.b, .s] (.t 20) (.t 24)))⟩] [false, false, false, false, false, false, false, false, true]) (.cond (.t 25) (.seq (.reg [⟨(some 4), none, (.v (.mov (.c (.bool false))))⟩]) .ret) .skip))) (.reg [⟨(some 15), none, (.v (.mov (.t 5)))⟩, ⟨(some 16), none, (.v (.bin .add (.t 15) (.c (.int .i64 1))))⟩, ⟨(some 5), none, (.v (.mov (.t 16)))⟩]))
def c_ref1_SameParts_2 : SC := .seq (.seq (.reg [⟨(some 6), none, (.v (.mov (.t 0)))⟩, ⟨(some 7), none, (.v (.len false (.t 6)))⟩, ⟨(some 8), none, (.v (.mov (.t 1)))⟩, ⟨(some 9), none, (.v (.len false (.t 8)))⟩, ⟨(some 10), none, (.v (.bin .neq (.t 7) (.t 9)))⟩]) (.cond (.t 10) (.seq (.reg [⟨(some 4), none, (.v (.mov (.c (.bool false))))⟩]) .ret) .skip)) (.seq (.seq (.reg [⟨(some 5), none, (.v (.mov (.c (.int .i64 0))))⟩]) (.block 0 (.loop b_ref1_SameParts_1))) c_ref1_SameParts_1)
def sc_ref1_SameParts : SFunc := ⟨2, 26, .seq (.reg [⟨(some 4), none, (.v (.mov (.c (.bool false))))⟩]) c_ref1_SameParts_2, [(.t 4)]⟩
noncomputable def k_ref1_SameParts_1 (SP : Prg) (x : EO) : CO := fin [(.t 4)] (thC SP (inBlk 0 (x)) c_ref1_SameParts_1)
theorem U_ref1_SameParts : type_of% (And.intro (fun (SP : Prg) (ac : Ac) => congrFun (congrArg (E SP) c_ref1_SameParts_1.eq_1) ac) <| And.intro (fun (SP : Prg) (ac : Ac) => congrFun (congrArg (E SP) b_ref1_SameParts_1.eq_1) ac) <| And.intro (fun (SP : Prg) (ac : Ac) => congrFun (congrArg (E SP) c_ref1_SameParts_2.eq_1) ac) <| sc_ref1_SameParts.eq_1) := And.intro (fun (SP : Prg) (ac : Ac) => congrFun (congrArg (E SP) c_ref1_SameParts_1.eq_1) ac) <| And.intro (fun (SP : Prg) (ac : Ac) => congrFun (congrArg (E SP) b_ref1_SameParts_1.eq_1) ac) <| And.intro (fun (SP : Prg) (ac : Ac) => congrFun (congrArg (E SP) c_ref1_SameParts_2.eq_1) ac) <| sc_ref1_SameParts.eq_1
theorem comp_ref1_SameParts : comp Tryd.prog Tryd.f14 = some sc_ref1_SameParts := by kernel_rfl
/-- doorkeeper/doorkeeperref1.SameTokens -/
def c_ref1_SameTokens_1 : SC := .seq (.reg [⟨(some 4), none, (.v (.mov (.c (.bool true))))⟩]) .ret
def c_ref1_SameTokens_2 : SC := .reg [⟨(some 15), none, (.v (.mov (.t 5)))⟩, ⟨(some 16), none, (.v (.bin .add (.t 15) (.c (.int .i64 1))))⟩, ⟨(some 5), none, (.v (.mov (.t 16)))⟩]
def c_ref1_SameTokens_3 : SC := .cond (.t 80) (.seq (.reg [⟨(some 4), none, (.v (.mov (.c (.bool false))))⟩]) .ret) .skip
def c_ref1_SameTokens_4 : SC := .seq (.block 1 (.seq (.dreg [⟨(some 17), none, (.v (.mov (.t 0)))⟩, ⟨(some 18), none, (.v (.mov (.t 5)))⟩, ⟨(some 19), none, (.v (.iaddr 5 (.t 17) (.t 18)))⟩, ⟨(some 20), none, (.v (.faddr 0 (.t 19)))⟩, ⟨(some 21), none, (.v (.load none (.t 20)))⟩, ⟨(some 22), none, (.v (.mov (.t 1)))⟩, ⟨(some 23), none, (.v (.mov (.t 5)))⟩, ⟨(some 24), none, (.v (.iaddr 5 (.t 22) (.t 23)))⟩, ⟨(some 25), none, (.v (.faddr 0 (.t 24)))⟩, ⟨(some 26), none, (.v (.load none (.t 25)))⟩, ⟨(some 27), none, (.v (.bin .neq (.t 21) (.t 26)))⟩, ⟨(some 28), none, (.v (.mov (.t 27)))⟩, ⟨(some 29), (some (28, false)), (.v (.mov (.t 0)))⟩, ⟨(some 30), (some (28, false)), (.v (.mov (.t 5)))⟩, ⟨(some 31), (some (28, false)), (.v (.iaddr 5 (.t 29) (.t 30)))⟩, ⟨(some 32), (some (28, false)), (.v (.faddr 1 (.t 31)))⟩, ⟨(some 33), (some (28, false)), (.v (.load none (.t 32)))⟩, ⟨(some 34), (some (28, false)), (.v (.mov (.t 1)))⟩, ⟨(some 35), (some (28, false)), (.v (.mov (.t 5)))⟩, ⟨(some 36), (some (28, false)), (.v (.iaddr 5 (.t 34) (.t 35)))⟩, ⟨(some 37), (some (28, false)), (.v (.faddr 1 (.t 36)))⟩, ⟨(some 38), (some (28, false)), (.v (.load none (.t 37)))⟩, ⟨(some 39), (some (28, false)), (.v (.bin .neq (.t 33) (.t 38)))⟩, ⟨(some 40), none, (.v (.pick (.t 28) (.c (.bool true)) (.t 39)))⟩, ⟨(some 41), none, (.v (.mov (.t 40)))⟩, ⟨(some 42), (some (41, false)), (.v (.mov (.t 0)))⟩, ⟨(some 43), (some (41, false)), (.v (.mov (.t 5)))⟩, ⟨(some 44), (some (41, false)), (.v (.iaddr 5 (.t 42) (.t 43)))⟩, ⟨(some 45), (some (41, false)), (.v (.faddr 2 (.t 44)))⟩, ⟨(some 46), (some (41, false)), (.v (.load none (.t 45)))⟩, ⟨(some 47), (some (41, false)), (.v (.mov (.t 1)))⟩, ⟨(some 48), (some (41, false)), (.v (.mov (.t 5)))⟩, ⟨(some 49), (some (41, false)), (.v (.iaddr 5 (.t 47) (.t 48)))⟩, ⟨(some 50), (some (41, false)), (.v (.faddr 2 (.t 49)))⟩, ⟨(some 51), (some (41, false)), (.v (.load none (.t 50)))⟩, ⟨(some 52), (some (41, false)), (.v (.bin .neq (.t 46) (.t 51)))⟩, ⟨(some 53), none, (.v (.pick (.t 41) (.c (.bool true)) (.t 52)))⟩, ⟨(some 54), none, (.v (.mov (.t 53)))⟩, ⟨(some 55), (some (54, false)), (.v (.mov (.t 0)))⟩, ⟨(some 56), (some (54, false)), (.v (.mov (.t 5)))⟩, ⟨(some 57), (some (54, false)), (.v (.iaddr 5 (.t 55) (.t 56)))⟩, ⟨(some 58), (some (54, false)), (.v (.faddr 4 (.t 57)))⟩, ⟨(some 59), (some (54, false)), (.v (.load none (.t 58)))⟩, ⟨(some 60), (some (54, false)), (.v (.mov (.t 1)))⟩, ⟨(some 61), (some (54, false)), (.v (.mov (.t 5)))⟩, ⟨(some 62), (some (54, false)), (.v (.iaddr 5 (.t 60) (.t 61)))⟩, ⟨(some 63), (some (54, false)), (.v (.faddr 4 (.t 62)))⟩, ⟨(some 64), (some (54, false)), (.v (.load none (.t 63)))⟩, ⟨(some 65), (some (54, false)), (.v (.bin .neq (.t 59) (.t 64)))⟩, ⟨(some 66), none, (.v (.pick (.t 54) (.c (.bool true)) (.t 65)))⟩, ⟨(some 67), none, (.v (.mov (.t 66)))⟩, ⟨(some 68), (some (67, false)), (.v (.mov (.t 0)))⟩, ⟨(some 69), (some (67, false)), (.v (.mov (.t 5)))⟩, ⟨(some 70), (some (67, false)), (.v (.iaddr 5 (.t 68) (.t 69)))⟩, ⟨(some 71), (some (67, false)), (.v (.faddr 3 (.t 70)))⟩, ⟨(some 72), (some (67, false)), (.v (.load none (.t 71)))⟩, ⟨(some 73), (some (67, false)), (.v (.mov (.t 1)))⟩, ⟨(some 74), (some (67, false)), (.v (.mov (.t 5)))⟩, ⟨(some 75), (some (67, false)), (.v (.iaddr 5 (.t 73) (.t 74)))⟩, ⟨(some 76), (some (67, false)), (.v (.faddr 3 (.t 75)))⟩, ⟨(some 77), (some (67, false)), (.v (.load none (.t 76)))⟩, ⟨(some 78), (some (67, false)), (.call (.c (.func 14 [])) [(.t 72), (.t 77)])⟩, ⟨(some 79), (some (67, false)), (.v (.un .not (.t 78)))⟩, ⟨(some 80), none, (.v (.pick (.t 67) (.c (.bool true)) (.t 79)))⟩] [false, false, false, false, false, false, false, false, false, false, true, true, false, false, false, false, false, false, false, false, false, false, true, true, true, false, false, false, false, false, false, false, false, false, false, true, true, true, false, false, false, false, false, false, false, false, false, false, true, true, true, false, false, false, false, false, false, false, false, false, false, true, true, true]) c_ref1_SameTokens_3)) c_ref1_SameTokens_2
def b_ref1_SameTokens_1 : SC := .seq (.seq (.reg [⟨(some 11), none, (.v (.mov (.t 5)))⟩, ⟨(some 12), none, (.v (.mov (.t 0)))⟩, ⟨(some 13), none, (.v (.len false (.t 12)))⟩, ⟨(some 14), none, (.v (.bin .lss (.t 11) (.t 13)))⟩]) (.cond (.t 14) .skip (.exit 0))) c_ref1_SameTokens_4
def c_ref1_SameTokens_5 : SC := .block 0 (.loop b_ref1_SameTokens_1)
def c_ref1_SameTokens_6 : SC := .seq (.seq (.reg [⟨(some 5), none, (.v (.mov (.c (.int .i64 0))))⟩]) c_ref1_SameTokens_5) c_ref1_SameTokens_1
def c_ref1_SameTokens_7 : SC := .seq (.seq (.reg [⟨(some 6), none, (.v (.mov (.t 0)))⟩, ⟨(some 7), none, (.v (.len false (.t 6)))⟩, ⟨(some 8), none, (.v (.mov (.t 1)))⟩, ⟨(some 9), none, (.v (.len false (.t 8)))⟩, ⟨(some 10), none, (.v (.bin .neq (.t 7) (.t 9)))⟩]) (.cond (.t 10) (.seq (.reg [⟨(some 4), none, (.v (.mov (.c (.bool false))))⟩]) .ret) .skip)) c_ref1_SameTokens_6
def sc_ref1_SameTokens : SFunc := ⟨2, 81, .seq (.reg [⟨(some 4), none, (.v (.mov (.c (.bool false))))⟩]) c_ref1_SameTokens_7, [(.t 4)]⟩
noncomputable def k_ref1_SameTokens_1 (SP : Prg) (x : EO) : CO := fin [(.t 4)] (thC SP (inBlk 0 (x)) c_ref1_SameTokens_1)
theorem U_ref1_SameTokens : type_of% (And.intro (fun (SP : Prg) (ac : Ac) => congrFun (congrArg (E SP) c_ref1_SameTokens_1.eq_1) ac) <| And.intro (fun (SP : Prg) (ac : Ac) => congrFun (congrArg (E SP) c_ref1_SameTokens_2.eq_1) ac) <| And.intro (fun (SP : Prg) (ac : Ac) => congrFun (congrArg (E SP) c_ref1_SameTokens_3.eq_1) ac) <| And.intro (fun (SP : Prg) (ac : Ac) => congrFun (congrArg (E SP) c_ref1_SameTokens_4.eq_1) ac) <| And.intro (fun (SP : Prg) (ac : Ac) => congrFun (congrArg (E SP) b_ref1_SameTokens_1.eq_1) ac) <| And.intro (fun (SP : Prg) (ac : Ac) => congrFun (congrArg (E SP) c_ref1_SameTokens_5.eq_1) ac) <| And.intro (fun (SP : Prg) (ac : Ac) => congrFun (congrArg (E SP) c_ref1_SameTokens_6.eq_1) ac) <| And.intro (fun (SP : Prg) (ac : Ac) => congrFun (congrArg (E SP) c_ref1_SameTokens_7.eq_1) ac) <| sc_ref1_SameTokens.eq_1) := And.intro (fun (SP : Prg) (ac : Ac) => congrFun (congrArg (E SP) c_ref1_SameTokens_1.eq_1) ac) <| And.intro (fun (SP : Prg) (ac : Ac) => congrFun (congrArg (E SP) c_ref1_SameTokens_2.eq_1) ac) <| And.intro (fun (SP : Prg) (ac : Ac) => congrFun (congrArg (E SP) c_ref1_SameTokens_3.eq_1) ac) <| And.intro (fun (SP : Prg) (ac : Ac) => congrFun (congrArg (E SP) c_ref1_SameTokens_4.eq_1) ac) <| And.intro (fun (SP : Prg) (ac : Ac) => congrFun (congrArg (E SP) b_ref1_SameTokens_1.eq_1) ac) <| And.intro (fun (SP : Prg) (ac : Ac) => congrFun (congrArg (E SP) c_ref1_SameTokens_5.eq_1) ac) <| And.intro (fun (SP : Prg) (ac : Ac) => congrFun (congrArg (E SP) c_ref1_SameTokens_6.eq_1) ac) <| And.intro (fun (SP : Prg) (ac : Ac) => congrFun (congrArg (E SP) c_ref1_SameTokens_7.eq_1) ac) <| sc_ref1_SameTokens.eq_1
theorem comp_ref1_SameTokens : comp Tryd.prog Tryd.f12 = some sc_ref1_SameTokens := by kernel_rfl
/-- doorkeeper/doorkeeperref1.Lex -/
def c_ref1_Lex_1 : SC := .seq (.reg [⟨(some 59), none, (.v (.mov (.t 3)))⟩, ⟨(some 60), none, (.v (.mov (.t 0)))⟩, ⟨(some 61), none, (.v (.len true (.t 60)))⟩, ⟨(some 62), none, (.v (.build [(.int .i64 0), (.str []), (.int .i64 0), (.nils 2), (.int .i64 0)] [(4, 1, (.t 61))]))⟩, ⟨(some 63), none, (.bslice 5 1 [(.int .i64 0), (.str []), (.int .i64 0), (.nils 2), (.int .i64 0)] [(0, (.t 62))])⟩, ⟨(some 64), none, (.append 5 64 (.t 59) (.t 63))⟩, ⟨(some 65), none, (.v (.build [(.nils 5), (.int .i64 0)] [(0, 1, (.t 64))]))⟩, ⟨none, none, (.store 2 (.t 2) (.t 65))⟩]) .ret
def c_ref1_Lex_2 : SC := .seq (.reg [⟨(some 44), none, (.v (.mov (.t 0)))⟩, ⟨(some 45), none, (.v (.mov (.t 4)))⟩, ⟨(some 46), none, (.call (.c (.func 20 [])) [(.t 44), (.t 45)])⟩, ⟨(some 43), none, (.v (.mov (.t 46)))⟩, ⟨(some 47), none, (.v (.extract 0 (.t 43)))⟩, ⟨(some 48), none, (.v (.extract 1 (.t 43)))⟩, ⟨(some 5), none, (.alloc [(.int .i64 0), (.str []), (.int .i64 0), (.nils 2), (.int .i64 0)])⟩, ⟨none, none, (.store 5 (.t 5) (.t 47))⟩, ⟨(some 6), none, (.v (.mov (.t 48)))⟩]) (.seq (.seq (.reg [⟨(some 49), none, (.v (.mov (.t 6)))⟩, ⟨(some 50), none, (.v (.bin .eql (.t 49) (.c (.int .i64 0))))⟩]) (.cond (.t 50) (.seq (.reg [⟨(some 51), none, (.v (.build [(.nils 5), (.int .i64 0)] [(1, 1, (.c (.int .i64 5)))]))⟩, ⟨none, none, (.store 2 (.t 2) (.t 51))⟩]) .ret) .skip)) (.seq (.reg [⟨(some 52), none, (.v (.mov (.t 3)))⟩, ⟨(some 53), none, (.v (.load (some 5) (.t 5)))⟩, ⟨(some 54), none, (.bslice 5 1 [(.int .i64 0), (.str []), (.int .i64 0), (.nils 2), (.int .i64 0)] [(0, (.t 53))])⟩, ⟨(some 55), none, (.append 5 64 (.t 52) (.t 54))⟩, ⟨(some 3), none, (.v (.mov (.t 55)))⟩]) (.reg [⟨(some 56), none, (.v (.mov (.t 4)))⟩, ⟨(some 57), none, (.v (.mov (.t 6)))⟩, ⟨(some 58), none, (.v (.bin .add (.t 56) (.t 57)))⟩, ⟨(some 4), none, (.v (.mov (.t 58)))⟩])))
def b_ref1_Lex_2 : SC := .seq (.seq (.reg [⟨(some 31), none, (.v (.mov (.t 4)))⟩, ⟨(some 32), none, (.v (.mov (.t 0)))⟩, ⟨(some 33), none, (.v (.len true (.t 32)))⟩, ⟨(some 34), none, (.v (.bin .lss (.t 31) (.t 33)))⟩, ⟨(some 35), none, (.v (.mov (.t 34)))⟩, ⟨(some 36), (some (35, true)), (.v (.mov (.t 0)))⟩, ⟨(some 37), (some (35, true)), (.v (.mov (.t 4)))⟩, ⟨(some 38), (some (35, true)), (.v (.istr (.t 36) (.t 37)))⟩, ⟨(some 39), (some (35, true)), (.v (.bin .neq (.t 38) (.c (.int .u8 10))))⟩, ⟨(some 40), none, (.v (.pick (.t 35) (.t 39) (.c (.bool false))))⟩]) (.cond (.t 40) .skip (.exit 2))) (.block 3 (.reg [⟨(some 41), none, (.v (.mov (.t 4)))⟩, ⟨(some 42), none, (.v (.bin .add (.t 41) (.c (.int .i64 1))))⟩, ⟨(some 4), none, (.v (.mov (.t 42)))⟩]))
def c_ref1_Lex_3 : SC := .seq (.seq (.reg [⟨(some 27), none, (.v (.mov (.t 0)))⟩, ⟨(some 28), none, (.v (.mov (.t 4)))⟩, ⟨(some 29), none, (.v (.istr (.t 27) (.t 28)))⟩, ⟨(some 30), none, (.v (.bin .eql (.t 29) (.c (.int .u8 35))))⟩]) (.cond (.t 30) (.seq (.block 2 (.loop b_ref1_Lex_2)) (.exit 1)) .skip)) c_ref1_Lex_2
def c_ref1_Lex_4 : SC := .block 1 (.seq (.seq (.reg [⟨(some 15), none, (.v (.mov (.t 0)))⟩, ⟨(some 16), none, (.v (.mov (.t 4)))⟩, ⟨(some 17), none, (.v (.istr (.t 15) (.t 16)))⟩, ⟨(some 18), none, (.v (.bin .eql (.t 17) (.c (.int .u8 32))))⟩, ⟨(some 19), none, (.v (.mov (.t 18)))⟩, ⟨(some 20), (some (19, false)), (.v (.mov (.t 0)))⟩, ⟨(some 21), (some (19, false)), (.v (.mov (.t 4)))⟩, ⟨(some 22), (some (19, false)), (.v (.istr (.t 20) (.t 21)))⟩, ⟨(some 23), (some (19, false)), (.v (.bin .eql (.t 22) (.c (.int .u8 10))))⟩, ⟨(some 24), none, (.v (.pick (.t 19) (.c (.bool true)) (.t 23)))⟩]) (.cond (.t 24) (.seq (.reg [⟨(some 25), none, (.v (.mov (.t 4)))⟩, ⟨(some 26), none, (.v (.bin .add (.t 25) (.c (.int .i64 1))))⟩, ⟨(some 4), none, (.v (.mov (.t 26)))⟩]) (.exit 1)) .skip)) c_ref1_Lex_3)
def b_ref1_Lex_1 : SC := .seq (.seq (.reg [⟨(some 11), none, (.v (.mov (.t 4)))⟩, ⟨(some 12), none, (.v (.mov (.t 0)))⟩, ⟨(some 13), none, (.v (.len true (.t 12)))⟩, ⟨(some 14), none, (.v (.bin .lss (.t 11) (.t 13)))⟩]) (.cond (.t 14) .skip (.exit 0))) c_ref1_Lex_4
def c_ref1_Lex_5 : SC := .block 0 (.loop b_ref1_Lex_1)
def c_ref1_Lex_6 : SC := .seq (.seq (.reg [⟨(some 4), none, (.v (.mov (.c (.int .i64 0))))⟩]) c_ref1_Lex_5) c_ref1_Lex_1
def c_ref1_Lex_7 : SC := .seq (.reg [⟨(some 3), none, (.nilv 5)⟩]) c_ref1_Lex_6
def c_ref1_Lex_8 : SC := .seq (.seq (.reg [⟨(some 7), none, (.v (.mov (.t 0)))⟩, ⟨(some 8), none, (.v (.len true (.t 7)))⟩, ⟨(some 9), none, (.v (.bin .gtr (.t 8) (.c (.int .i64 6000))))⟩]) (.cond (.t 9) (.seq (.reg [⟨(some 10), none, (.v (.build [(.nils 5), (.int .i64 0)] [(1, 1, (.c (.int .i64 4)))]))⟩, ⟨none, none, (.store 2 (.t 2) (.t 10))⟩]) .ret) .skip)) c_ref1_Lex_7
def sc_ref1_Lex : SFunc := ⟨1, 66, .seq (.reg [⟨(some 2), none, (.alloc [(.nils 5), (.int .i64 0)])⟩]) c_ref1_Lex_8, [(.cell 2 (some 2))]⟩
noncomputable def k_ref1_Lex_2 (SP : Prg) (x : EO) : CO := fin [(.cell 2 (some 2))] (thC SP (inBlk 0 (thC SP (inBlk 1 (thC SP (thC SP (inBlk 2 (x)) (.exit 1)) c_ref1_Lex_2)) (.loop b_ref1_Lex_1))) c_ref1_Lex_1)
noncomputable def k_ref1_Lex_1 (SP : Prg) (x : EO) : CO := fin [(.cell 2 (some 2))] (thC SP (inBlk 0 (x)) c_ref1_Lex_1)
theorem U_ref1_Lex : type_of% (And.intro (fun (SP : Prg) (ac : Ac) => congrFun (congrArg (E SP) c_ref1_Lex_1.eq_1) ac) <| And.intro (fun (SP : Prg) (ac : Ac) => congrFun (congrArg (E SP) c_ref1_Lex_2.eq_1) ac) <| And.intro (fun (SP : Prg) (ac : Ac) => congrFun (congrArg (E SP) b_ref1_Lex_2.eq_1) ac) <| And.intro (fun (SP : Prg) (ac : Ac) => congrFun (congrArg (E SP) c_ref1_Lex_3.eq_1) ac) <| And.intro (fun (SP : Prg) (ac : Ac) => congrFun (congrArg (E SP) c_ref1_Lex_4.eq_1) ac) <| And.intro (fun (SP : Prg) (ac : Ac) => congrFun (congrArg (E SP) b_ref1_Lex_1.eq_1) ac) <| And.intro (fun (SP : Prg) (ac : Ac) => congrFun (congrArg (E SP) c_ref1_Lex_5.eq_1) ac) <| And.intro (fun (SP : Prg) (ac : Ac) => congrFun (congrArg (E SP) c_ref1_Lex_6.eq_1) ac) <| And.intro (fun (SP : Prg) (ac : Ac) => congrFun (congrArg (E SP) c_ref1_Lex_7.eq_1) ac) <| And.intro (fun (SP : Prg) (ac : Ac) => congrFun (congrArg (E SP) c_ref1_Lex_8.eq_1) ac) <| sc_ref1_Lex.eq_1) := And.intro (fun (SP : Prg) (ac : Ac) => congrFun (congrArg (E SP) c_ref1_Lex_1.eq_1) ac) <| And.intro (fun (SP : Prg) (ac : Ac) => congrFun (congrArg (E SP) c_ref1_Lex_2.eq_1) ac) <| And.intro (fun (SP : Prg) (ac : Ac) => congrFun (congrArg (E SP) b_ref1_Lex_2.eq_1) ac) <| And.intro (fun (SP : Prg) (ac : Ac) => congrFun (congrArg (E SP) c_ref1_Lex_3.eq_1) ac) <| And.intro (fun (SP : Prg) (ac : Ac) => congrFun (congrArg (E SP) c_ref1_Lex_4.eq_1) ac) <| And.intro (fun (SP : Prg) (ac : Ac) => congrFun (congrArg (E SP) b_ref1_Lex_1.eq_1) ac) <| And.intro (fun (SP : Prg) (ac : Ac) => congrFun (congrArg (E SP) c_ref1_Lex_5.eq_1) ac) <| And.intro (fun (SP : Prg) (ac : Ac) => congrFun (congrArg (E SP) c_ref1_Lex_6.eq_1) ac) <| And.intro (fun (SP : Prg) (ac : Ac) => congrFun (congrArg (E SP) c_ref1_Lex_7.eq_1) ac) <| And.intro (fun (SP : Prg) (ac : Ac) => congrFun (congrArg (E SP) c_ref1_Lex_8.eq_1) ac) <| sc_ref1_Lex.eq_1
theorem comp_ref1_Lex : comp Tryd.prog Tryd.f11 = some sc_ref1_Lex := by kernel_rfl
/-- doorkeeper/doorkeeperref1.Digits -/
def c_ref1_Digits_1 : SC := .seq (.reg [⟨(some 23), none, (.v (.mov (.t 3)))⟩, ⟨(some 24), none, (.v (.bin .add (.c (.int .u64 48)) (.t 23)))⟩, ⟨(some 25), none, (.v (.conv (.int .u8) (.t 24)))⟩, ⟨(some 26), none, (.bslice 1 1 [(.int .u8 0)] [(0, (.t 25))])⟩, ⟨(some 27), none, (.v (.conv .bytes (.t 26)))⟩, ⟨(some 28), none, (.v (.mov (.t 4)))⟩, ⟨(some 29), none, (.v (.bin .add (.t 27) (.t 28)))⟩, ⟨(some 4), none, (.v (.mov (.t 29)))⟩]) (.seq (.seq (.reg [⟨(some 30), none, (.v (.mov (.t 0)))⟩, ⟨(some 31), none, (.v (.bin .lss (.t 30) (.c (.int .i64 0))))⟩]) (.cond (.t 31) (.seq (.reg [⟨(some 32), none, (.v (.mov (.t 4)))⟩, ⟨(some 33), none, (.v (.bin .add (.c (.str [45])) (.t 32)))⟩, ⟨(some 2), none, (.v (.mov (.t 33)))⟩]) .ret) .skip)) (.seq (.reg [⟨(some 34), none, (.v (.mov (.t 4)))⟩, ⟨(some 2), none, (.v (.mov (.t 34)))⟩]) .ret))
def b_ref1_Digits_1 : SC := .seq (.seq (.reg [⟨(some 11), none, (.v (.mov (.t 3)))⟩, ⟨(some 12), none, (.v (.bin .geq (.t 11) (.c (.int .u64 10))))⟩]) (.cond (.t 12) .skip (.exit 0))) (.block 1 (.seq (.reg [⟨(some 13), none, (.v (.mov (.t 3)))⟩, ⟨(some 14), none, (.v (.bin .rem (.t 13) (.c (.int .u64 10))))⟩, ⟨(some 15), none, (.v (.bin .add (.c (.int .u64 48)) (.t 14)))⟩, ⟨(some 16), none, (.v (.conv (.int .u8) (.t 15)))⟩, ⟨(some 17), none, (.bslice 1 1 [(.int .u8 0)] [(0, (.t 16))])⟩, ⟨(some 18), none, (.v (.conv .bytes (.t 17)))⟩, ⟨(some 19), none, (.v (.mov (.t 4)))⟩, ⟨(some 20), none, (.v (.bin .add (.t 18) (.t 19)))⟩, ⟨(some 4), none, (.v (.mov (.t 20)))⟩]) (.reg [⟨(some 21), none, (.v (.mov (.t 3)))⟩, ⟨(some 22), none, (.v (.bin .quo (.t 21) (.c (.int .u64 10))))⟩, ⟨(some 3), none, (.v (.mov (.t 22)))⟩])))
def c_ref1_Digits_2 : SC := .seq (.block 0 (.loop b_ref1_Digits_1)) c_ref1_Digits_1
def c_ref1_Digits_3 : SC := .seq (.seq (.reg [⟨(some 7), none, (.v (.mov (.t 0)))⟩, ⟨(some 8), none, (.v (.bin .lss (.t 7) (.c (.int .i64 0))))⟩]) (.cond (.t 8) (.reg [⟨(some 9), none, (.v (.mov (.t 3)))⟩, ⟨(some 10), none, (.v (.un .neg (.t 9)))⟩, ⟨(some 3), none, (.v (.mov (.t 10)))⟩]) .skip)) c_ref1_Digits_2
def c_ref1_Digits_4 : SC := .seq (.reg [⟨(some 5), none, (.v (.mov (.t 0)))⟩, ⟨(some 6), none, (.v (.conv (.int .u64) (.t 5)))⟩, ⟨(some 3), none, (.v (.mov (.t 6)))⟩, ⟨(some 4), none, (.v (.mov (.c (.str []))))⟩]) c_ref1_Digits_3
def sc_ref1_Digits : SFunc := ⟨1, 35, .seq (.reg [⟨(some 2), none, (.v (.mov (.c (.str []))))⟩]) c_ref1_Digits_4, [(.t 2)]⟩
noncomputable def k_ref1_Digits_1 (SP : Prg) (x : EO) : CO := fin [(.t 2)] (thC SP (inBlk 0 (x)) c_ref1_Digits_1)
theorem U_ref1_Digits : type_of% (And.intro (fun (SP : Prg) (ac : Ac) => congrFun (congrArg (E SP) c_ref1_Digits_1.eq_1) ac) <| And.intro (fun (SP : Prg) (ac : Ac) => congrFun (congrArg (E SP) b_ref1_Digits_1.eq_1) ac) <| And.intro (fun (SP : Prg) (ac : Ac) => congrFun (congrArg (E SP) c_ref1_Digits_2.eq_1) ac) <| And.intro (fun (SP : Prg) (ac : Ac) => congrFun (congrArg (E SP) c_ref1_Digits_3.eq_1) ac) <| And.intro (fun (SP : Prg) (ac : Ac) => congrFun (congrArg (E SP) c_ref1_Digits_4.eq_1) ac) <| sc_ref1_Digits.eq_1) := And.intro (fun (SP : Prg) (ac : Ac) => congrFun (congrArg (E SP) c_ref1_Digits_1.eq_1) ac) <| And.intro (fun (SP : Prg) (ac : Ac) => congrFun (congrArg (E SP) b_ref1_Digits_1.eq_1) ac) <| And.intro (fun (SP : Prg) (ac : Ac) => congrFun (congrArg (E SP) c_ref1_Digits_2.eq_1) ac) <| And.intro (fun (SP : Prg) (ac : Ac) => congrFun (congrArg (E SP) c_ref1_Digits_3.eq_1) ac) <| And.intro (fun (SP : Prg) (ac : Ac) => congrFun (congrArg (E SP) c_ref1_Digits_4.eq_1) ac) <| sc_ref1_Digits.eq_1
theorem comp_ref1_Digits : comp Tryd.prog Tryd.f15 = some sc_ref1_Digits := by kernel_rfl
end Go.Proofs.YtljgfdhlfjbafaaDoor.M

/- Trees of functions, printed by a program of this session (lift.py): what a run asks, over plain data. Lean proves each. -/
namespace Go.Proofs.YtljgfdhlfjbafaaDoor.M
set_option linter.unusedSimpArgs false
set_option linter.unusedVariables false
open Go Classical
theorem sp_lex_class : SP 29 = some (.code sc_lex_class) := SPof_code rfl Tryd.func29 comp_lex_class
/-! doorkeeper/lex.class -/
set_option maxHeartbeats 4000000 in
theorem lex_class_tree (c : UInt8) (r : Int) (T :
  (((c.toNat : Int) = 32) →
  1 = r) ∧
 (¬ ((c.toNat : Int) = 32) →
  (((c.toNat : Int) = 10) →
   1 = r) ∧
  (¬ ((c.toNat : Int) = 10) →
   (((c.toNat : Int) = 95) →
    2 = r) ∧
   (¬ ((c.toNat : Int) = 95) →
    ((97 ≤ (c.toNat : Int)) →
     (((c.toNat : Int) ≤ 122) →
      2 = r) ∧
     (¬ ((c.toNat : Int) ≤ 122) →
      ((48 ≤ (c.toNat : Int)) →
       (((c.toNat : Int) ≤ 57) →
        3 = r) ∧
       (¬ ((c.toNat : Int) ≤ 57) →
        (((c.toNat : Int) = 34) →
         4 = r) ∧
        (¬ ((c.toNat : Int) = 34) →
         (((c.toNat : Int) = 35) →
          5 = r) ∧
         (¬ ((c.toNat : Int) = 35) →
          0 = r)))) ∧
      (¬ (48 ≤ (c.toNat : Int)) →
       (((c.toNat : Int) = 34) →
        4 = r) ∧
       (¬ ((c.toNat : Int) = 34) →
        (((c.toNat : Int) = 35) →
         5 = r) ∧
        (¬ ((c.toNat : Int) = 35) →
         0 = r))))) ∧
    (¬ (97 ≤ (c.toNat : Int)) →
     ((48 ≤ (c.toNat : Int)) →
      (((c.toNat : Int) ≤ 57) →
       3 = r) ∧
      (¬ ((c.toNat : Int) ≤ 57) →
       (((c.toNat : Int) = 34) →
        4 = r) ∧
       (¬ ((c.toNat : Int) = 34) →
        (((c.toNat : Int) = 35) →
         5 = r) ∧
        (¬ ((c.toNat : Int) = 35) →
         0 = r)))) ∧
     (¬ (48 ≤ (c.toNat : Int)) →
      (((c.toNat : Int) = 34) →
       4 = r) ∧
      (¬ ((c.toNat : Int) = 34) →
       (((c.toNat : Int) = 35) →
        5 = r) ∧
       (¬ ((c.toNat : Int) = 35) →
        0 = r)))))))) : R_lex_class c r := by
 intro S
 rw [call_code sp_lex_class _ _ rfl]
 have F := U_lex_class
 by_cases c1 : (c.toNat : Int) = 32
 · replace T := T.1 c1
   obtain rfl := T
   exact fi (aa (eq_true c1) <| F)
 · replace T := T.2 c1
   replace F := aa (eq_false c1) <| F
   by_cases c2 : (c.toNat : Int) = 10
   · replace T := T.1 c2
     obtain rfl := T
     exact fi (aa (eq_true c2) <| F)
   · replace T := T.2 c2
     replace F := aa (eq_false c2) <| F
     by_cases c3 : (c.toNat : Int) = 95
     · replace T := T.1 c3
       obtain rfl := T
       exact fi (aa (eq_true c3) <| F)
     · replace T := T.2 c3
       replace F := aa (eq_false c3) <| F
       by_cases c4 : 97 ≤ (c.toNat : Int)
       · replace T := T.1 c4
         replace F := aa (eq_true c4) <| F
         by_cases c5 : (c.toNat : Int) ≤ 122
         · replace T := T.1 c5
           obtain rfl := T
           exact fi (aa (eq_true c5) <| F)
         · replace T := T.2 c5
           replace F := aa (eq_false c5) <| F
           by_cases c6 : 48 ≤ (c.toNat : Int)
           · replace T := T.1 c6
             replace F := aa (eq_true c6) <| F
             by_cases c7 : (c.toNat : Int) ≤ 57
             · replace T := T.1 c7
               obtain rfl := T
               exact fi (aa (eq_true c7) <| F)
             · replace T := T.2 c7
               replace F := aa (eq_false c7) <| F
               by_cases c8 : (c.toNat : Int) = 34
               · replace T := T.1 c8
                 obtain rfl := T
                 exact fi (aa (eq_true c8) <| F)
               · replace T := T.2 c8
                 replace F := aa (eq_false c8) <| F
                 by_cases c9 : (c.toNat : Int) = 35
                 · replace T := T.1 c9
                   obtain rfl := T
                   exact fi (aa (eq_true c9) <| F)
                 · replace T := T.2 c9
                   obtain rfl := T
                   exact fi (aa (eq_false c9) <| F)
           · replace T := T.2 c6
             replace F := aa (eq_false c6) <| F
             by_cases c10 : (c.toNat : Int) = 34
             · replace T := T.1 c10
               obtain rfl := T
               exact fi (aa (eq_true c10) <| F)
             · replace T := T.2 c10
               replace F := aa (eq_false c10) <| F
               by_cases c11 : (c.toNat : Int) = 35
               · replace T := T.1 c11
                 obtain rfl := T
                 exact fi (aa (eq_true c11) <| F)
               · replace T := T.2 c11
                 obtain rfl := T
                 exact fi (aa (eq_false c11) <| F)
       · replace T := T.2 c4
         replace F := aa (eq_false c4) <| F
         by_cases c12 : 48 ≤ (c.toNat : Int)
         · replace T := T.1 c12
           replace F := aa (eq_true c12) <| F
           by_cases c13 : (c.toNat : Int) ≤ 57
           · replace T := T.1 c13
             obtain rfl := T
             exact fi (aa (eq_true c13) <| F)
           · replace T := T.2 c13
             replace F := aa (eq_false c13) <| F
             by_cases c14 : (c.toNat : Int) = 34
             · replace T := T.1 c14
               obtain rfl := T
               exact fi (aa (eq_true c14) <| F)
             · replace T := T.2 c14
               replace F := aa (eq_false c14) <| F
               by_cases c15 : (c.toNat : Int) = 35
               · replace T := T.1 c15
                 obtain rfl := T
                 exact fi (aa (eq_true c15) <| F)
               · replace T := T.2 c15
                 obtain rfl := T
                 exact fi (aa (eq_false c15) <| F)
         · replace T := T.2 c12
           replace F := aa (eq_false c12) <| F
           by_cases c16 : (c.toNat : Int) = 34
           · replace T := T.1 c16
             obtain rfl := T
             exact fi (aa (eq_true c16) <| F)
           · replace T := T.2 c16
             replace F := aa (eq_false c16) <| F
             by_cases c17 : (c.toNat : Int) = 35
             · replace T := T.1 c17
               obtain rfl := T
               exact fi (aa (eq_true c17) <| F)
             · replace T := T.2 c17
               obtain rfl := T
               exact fi (aa (eq_false c17) <| F)
theorem sp_lex_span : SP 38 = some (.code sc_lex_span) := SPof_code rfl Tryd.func38 comp_lex_span
/-! doorkeeper/lex.span -/
def At_lex_span_1 (s : List UInt8) (classes : List Int) (i1 : Int) (r : Int) : Prop := ∀ (S : Sto) (e : Nat → PV) (f : Fr), e 0 = .str s ∧ e 1 = .list 1 (classes.map eI) false ∧ e 7 = .int .i64 (s.length : Int) ∧ e 8 = .int .i64 i1 → k_lex_span_1 SP (E SP (.loop b_lex_span_1) ⟨e, f :: S⟩) = .ok (.v (.int .i64 r)) S
set_option maxHeartbeats 4000000 in
theorem At_lex_span_1_step (s : List UInt8) (classes : List Int) (i1 : Int) (r : Int) (T :
  ((i1 < (s.length : Int)) →
  (0 ≤ i1) ∧
  ∃ (b2 : UInt8), (s[i1.toNat]? = some b2) ∧
  ∃ (r3 : Int), (R_lex_class b2 r3) ∧
  ∃ (r4 : Bool), (R_slices_Contains_int_int classes r3 r4) ∧
  ((r4 = true) →
   (I64 (i1 + 1)) ∧
   At_lex_span_1 s classes (i1 + 1) r) ∧
  (¬ (r4 = true) →
   i1 = r)) ∧
 (¬ (i1 < (s.length : Int)) →
  (s.length : Int) = r)) : At_lex_span_1 s classes i1 r := by
 intro S e f h
 unfold k_lex_span_1
 rw [E_loop]
 have F := U_lex_span
 replace F := aa h <| F
 by_cases c1 : i1 < (s.length : Int)
 · replace T := T.1 c1
   obtain ⟨p2, b2, q3, r3, q4, r4, q5, T⟩ := T
   simp only [R_lex_class, le, List.cons_append, List.nil_append] at q4
   simp only [R_slices_Contains_int_int, le, List.cons_append, List.nil_append] at q5
   replace F := aa (eq_true c1) <| aa p2 <| aa q3 <| aa q4 <| aa q5 <| F
   by_cases c6 : r4 = true
   · replace T := T.1 c6
     obtain ⟨p7, T⟩ := T
     replace F := aa c6 <| aa p7.wrap <| F
     try simp only [F, lw, lx, le, Nat.reduceMul, UInt8.reduceToNat, reduceIte, reduceCtorEq, Nat.reduceEqDiff, Nat.reduceAdd, Nat.reduceLeDiff, Nat.reduceSub, Nat.reduceLT, Int.reduceEq, Int.reduceLT, Int.reduceLE, Int.reduceToNat, Int.reduceAdd, Int.reduceSub, Int.reduceMul, Int.reduceNeg]
     refine T S _ _ ?_
     exact fi F
   · replace T := T.2 c6
     replace c6 := Bool.eq_false_iff.2 c6
     obtain rfl := T
     exact fi (aa c6 <| F)
 · replace T := T.2 c1
   obtain rfl := T
   exact fi (aa (eq_false c1) <| F)
set_option maxHeartbeats 4000000 in
theorem lex_span_tree (s : List UInt8) (classes : List Int) (r : Int) (T :
  At_lex_span_1 s classes 0 r) : R_lex_span s classes r := by
 intro S
 rw [call_code sp_lex_span _ _ rfl]
 have F := U_lex_span
 try simp only [F, lw, lx, le, Nat.reduceMul, UInt8.reduceToNat, reduceIte, reduceCtorEq, Nat.reduceEqDiff, Nat.reduceAdd, Nat.reduceLeDiff, Nat.reduceSub, Nat.reduceLT, Int.reduceEq, Int.reduceLT, Int.reduceLE, Int.reduceToNat, Int.reduceAdd, Int.reduceSub, Int.reduceMul, Int.reduceNeg]
 refine T S _ _ ?_
 exact fi F
theorem sp_lex_text_take : SP 27 = some (.code sc_lex_text_take) := SPof_code rfl Tryd.func27 comp_lex_text_take
/-! (*doorkeeper/lex.text).take -/
set_option maxHeartbeats 4000000 in
theorem lex_text_take_tree (t : LText) (n : Int) (r : List UInt8) (t' : LText) (T :
  (0 ≤ n) ∧ (n.toNat ≤ t.left.length) ∧
 (0 ≤ n) ∧ (n.toNat ≤ t.left.length) ∧
 (I64 (t.pos + n)) ∧
 (t.left.take (n.toNat)) = r ∧ (LText.mk ((t.left.drop n.toNat).take (t.left.length - n.toNat)) (t.pos + n)) = t') : R_lex_text_take t n r t' := by
 intro S n0 t0 H0
 have hb0 := H0
 obtain ⟨w0, hB0⟩ := take_some hb0
 have hn0 := o_getBox_lt hB0
 rw [call_code sp_lex_text_take _ _ rfl]
 have F := U_lex_text_take
 obtain ⟨p1, p2, p3, p4, p5, rfl, rfl⟩ := T
 exact fi (aa hB0 <| aa hn0 <| aa p1 <| aa p2 <| aa p3 <| aa p4 <| aa p5.wrap <| F)
theorem sp_lex_text_word : SP 24 = some (.code sc_lex_text_word) := SPof_code rfl Tryd.func24 comp_lex_text_word
/-! (*doorkeeper/lex.text).word -/
set_option maxHeartbeats 4000000 in
theorem lex_text_word_tree (t : LText) (classes : List Int) (r : List UInt8) (t' : LText) (T :
  ∃ (r1 : Int), (R_lex_span t.left classes r1) ∧
 ∃ (r2 : List UInt8) (y3 : LText), (R_lex_text_take t r1 r2 y3) ∧
 r2 = r ∧ y3 = t') : R_lex_text_word t classes r t' := by
 intro S n0 t0 H0
 have hb0 := H0
 obtain ⟨w0, hB0⟩ := take_some hb0
 have hn0 := o_getBox_lt hB0
 rw [call_code sp_lex_text_word _ _ rfl]
 have F := U_lex_text_word
 obtain ⟨r1, q1, r2, y3, q2, rfl, rfl⟩ := T
 simp only [R_lex_span, le, List.cons_append, List.nil_append] at q1
 simp only [R_lex_text_take, le, List.cons_append, List.nil_append] at q2
 exact fi (aa hB0 <| aa hn0 <| aa q1 <| aa q2 <| F)
theorem sp_lex_parts_plain : SP 47 = some (.code sc_lex_parts_plain) := SPof_code rfl Tryd.func47 comp_lex_parts_plain
/-! (*doorkeeper/lex.parts).plain -/
set_option maxHeartbeats 4000000 in
theorem lex_parts_plain_tree (p : List Part) (p_g0 : Nat) (p_z0 : Bool) (c : UInt8) (p' : List Part) (p'_g0 : Nat) (p'_z0 : Bool) (T :
  (((p.length : Int) = 0) →
  (bigRow (p.length + 1) 24) ∧
  (I64 ((p.length : Int) + 1)) ∧
  (I64 (((p.length : Int) + 1) - 1)) ∧
  (0 ≤ (((p.length : Int) + 1) - 1)) ∧ ((((p.length : Int) + 1) - 1).toNat < p.length + 1) ∧
  ∃ (v1 : Part), ((p ++ [(Part.mk false [])])[(((p.length : Int) + 1) - 1).toNat]? = some v1) ∧
  (v1.Text.length + 1 ≤ maxInt) ∧
  (0 ≤ (((p.length : Int) + 1) - 1)) ∧ ((((p.length : Int) + 1) - 1).toNat < p.length + 1) ∧
  (p_z0 = false) ∧
  ((p ++ [(Part.mk false [])]).set ((((p.length : Int) + 1) - 1).toNat) (Part.mk v1.Ref (v1.Text ++ [c]))) = p' ∧ p_g0 = p'_g0 ∧ p_z0 = p'_z0) ∧
 (¬ ((p.length : Int) = 0) →
  (I64 ((p.length : Int) - 1)) ∧
  (0 ≤ ((p.length : Int) - 1)) ∧ (((p.length : Int) - 1).toNat < p.length) ∧
  ∃ (v2 : Part), (p[((p.length : Int) - 1).toNat]? = some v2) ∧
  ((v2.Ref = true) →
   (bigRow (p.length + 1) 24) ∧
   (I64 ((p.length : Int) + 1)) ∧
   (I64 (((p.length : Int) + 1) - 1)) ∧
   (0 ≤ (((p.length : Int) + 1) - 1)) ∧ ((((p.length : Int) + 1) - 1).toNat < p.length + 1) ∧
   ∃ (v3 : Part), ((p ++ [(Part.mk false [])])[(((p.length : Int) + 1) - 1).toNat]? = some v3) ∧
   (v3.Text.length + 1 ≤ maxInt) ∧
   (0 ≤ (((p.length : Int) + 1) - 1)) ∧ ((((p.length : Int) + 1) - 1).toNat < p.length + 1) ∧
   (p_z0 = false) ∧
   ((p ++ [(Part.mk false [])]).set ((((p.length : Int) + 1) - 1).toNat) (Part.mk v3.Ref (v3.Text ++ [c]))) = p' ∧ p_g0 = p'_g0 ∧ p_z0 = p'_z0) ∧
  (¬ (v2.Ref = true) →
   (I64 ((p.length : Int) - 1)) ∧
   (0 ≤ ((p.length : Int) - 1)) ∧ (((p.length : Int) - 1).toNat < p.length) ∧
   (v2.Text.length + 1 ≤ maxInt) ∧
   (0 ≤ ((p.length : Int) - 1)) ∧ (((p.length : Int) - 1).toNat < p.length) ∧
   (p_z0 = false) ∧
   (p.set (((p.length : Int) - 1).toNat) (Part.mk v2.Ref (v2.Text ++ [c]))) = p' ∧ p_g0 = p'_g0 ∧ p_z0 = p'_z0))) : R_lex_parts_plain p p_g0 p_z0 c p' p'_g0 p'_z0 := by
 intro S n0 t0 H0
 obtain ⟨hb0, ha0⟩ := H0
 obtain ⟨w0, hB0⟩ := take_some hb0
 have hn0 := o_getBox_lt hB0
 rw [call_code sp_lex_parts_plain _ _ rfl]
 have F := U_lex_parts_plain
 replace F := aa ha0 <| aa hB0 <| aa hn0 <| F
 by_cases c1 : (p.length : Int) = 0
 · replace T := T.1 c1
   obtain ⟨p2, p3, p4, p5, p6, v1, q7, p8, p9, p10, p11, rfl, rfl, rfl⟩ := T
   simp only [bigRow] at p2
   replace q7 := congrArg (Option.map ePart) q7
   rw [← List.getElem?_map] at q7
   simp only [le, List.map_append, Option.map_some] at q7
   exact fi (aa (eq_true c1) <| aa p2 <| aa p3.wrap <| aa p4.wrap <| aa p5 <| aa p6 <| aa q7 <| aa p8 <| aa p9 <| aa p10 <| aa p11 <| F)
 · replace T := T.2 c1
   obtain ⟨p12, p13, p14, v2, q15, T⟩ := T
   replace F := aa (eq_false c1) <| aa p12.wrap <| aa p13 <| aa p14 <| aa q15 <| F
   by_cases c16 : v2.Ref = true
   · replace T := T.1 c16
     obtain ⟨p17, p18, p19, p20, p21, v3, q22, p23, p24, p25, p26, rfl, rfl, rfl⟩ := T
     simp only [bigRow] at p17
     replace q22 := congrArg (Option.map ePart) q22
     rw [← List.getElem?_map] at q22
     simp only [le, List.map_append, Option.map_some] at q22
     exact fi (aa c16 <| aa p17 <| aa p18.wrap <| aa p19.wrap <| aa p20 <| aa p21 <| aa q22 <| aa p23 <| aa p24 <| aa p25 <| aa p26 <| F)
   · replace T := T.2 c16
     replace c16 := Bool.eq_false_iff.2 c16
     obtain ⟨p27, p28, p29, p30, p31, p32, p33, rfl, rfl, rfl⟩ := T
     exact fi (aa c16 <| aa p27.wrap <| aa p28 <| aa p29 <| aa p30 <| aa p31 <| aa p32 <| aa p33 <| F)
theorem sp_lex_escaped : SP 46 = some (.code sc_lex_escaped) := SPof_code rfl Tryd.func46 comp_lex_escaped
/-! doorkeeper/lex.escaped -/
set_option maxHeartbeats 4000000 in
theorem lex_escaped_tree (s : List UInt8) (ra : UInt8) (rb : Bool) (T :
  (((s.length : Int) < 2) →
  (0 : UInt8) = ra ∧ false = rb) ∧
 (¬ ((s.length : Int) < 2) →
  ∃ (b1 : UInt8), (s[1]? = some b1) ∧
  ∃ (r2 : Int), (R_strings_IndexByte [34, 92, 36, 110] b1 r2) ∧
  ((r2 < 0) →
   (0 : UInt8) = ra ∧ false = rb) ∧
  (¬ (r2 < 0) →
   (0 ≤ r2) ∧
   ∃ (b3 : UInt8), ([34, 92, 36, 10][r2.toNat]? = some b3) ∧
   b3 = ra ∧ true = rb))) : R_lex_escaped s ra rb := by
 intro S
 rw [call_code sp_lex_escaped _ _ rfl]
 have F := U_lex_escaped
 by_cases c1 : (s.length : Int) < 2
 · replace T := T.1 c1
   obtain ⟨rfl, rfl⟩ := T
   exact fi (aa (eq_true c1) <| F)
 · replace T := T.2 c1
   obtain ⟨b1, q2, r2, q3, T⟩ := T
   simp only [R_strings_IndexByte, le, List.cons_append, List.nil_append] at q3
   replace F := aa (eq_false c1) <| aa q2 <| aa q3 <| F
   by_cases c4 : r2 < 0
   · replace T := T.1 c4
     obtain ⟨rfl, rfl⟩ := T
     exact fi (aa (eq_true c4) <| F)
   · replace T := T.2 c4
     obtain ⟨p5, b3, q6, rfl, rfl⟩ := T
     exact fi (aa (eq_false c4) <| aa p5 <| aa q6 <| F)
theorem sp_lex_reference : SP 48 = some (.code sc_lex_reference) := SPof_code rfl Tryd.func48 comp_lex_reference
/-! doorkeeper/lex.reference -/
set_option maxHeartbeats 4000000 in
theorem lex_reference_tree (s : List UInt8) (ra : List UInt8) (rb : Bool) (T :
  (2 ≤ s.length) ∧
 ∃ (r1 : List UInt8) (r2 : List UInt8) (r3 : Bool), (R_strings_Cut ((s.drop 2).take (s.length - 2)) [125] r1 r2 r3) ∧
 ∃ (r4 : List UInt8) (r5 : List UInt8) (r6 : Bool), (R_strings_Cut r1 [46] r4 r5 r6) ∧
 ((r3 = true) →
  ((r6 = true) →
   ∃ (r7 : Bool), (R_lex_Name r4 r7) ∧
   ((r7 = true) →
    ∃ (r8 : Bool), (R_lex_Name r5 r8) ∧
    r1 = ra ∧ r8 = rb) ∧
   (¬ (r7 = true) →
    r1 = ra ∧ false = rb)) ∧
  (¬ (r6 = true) →
   r1 = ra ∧ false = rb)) ∧
 (¬ (r3 = true) →
  r1 = ra ∧ false = rb)) : R_lex_reference s ra rb := by
 intro S
 rw [call_code sp_lex_reference _ _ rfl]
 have F := U_lex_reference
 obtain ⟨p1, r1, r2, r3, q2, r4, r5, r6, q3, T⟩ := T
 simp only [R_strings_Cut, le, List.cons_append, List.nil_append] at q2
 simp only [R_strings_Cut, le, List.cons_append, List.nil_append] at q3
 replace F := aa p1 <| aa q2 <| aa q3 <| F
 by_cases c4 : r3 = true
 · replace T := T.1 c4
   replace F := aa c4 <| F
   by_cases c5 : r6 = true
   · replace T := T.1 c5
     obtain ⟨r7, q6, T⟩ := T
     simp only [R_lex_Name, le, List.cons_append, List.nil_append] at q6
     replace F := aa c5 <| aa q6 <| F
     by_cases c7 : r7 = true
     · replace T := T.1 c7
       obtain ⟨r8, q8, rfl, rfl⟩ := T
       simp only [R_lex_Name, le, List.cons_append, List.nil_append] at q8
       exact fi (aa c7 <| aa q8 <| F)
     · replace T := T.2 c7
       replace c7 := Bool.eq_false_iff.2 c7
       obtain ⟨rfl, rfl⟩ := T
       exact fi (aa c7 <| F)
   · replace T := T.2 c5
     replace c5 := Bool.eq_false_iff.2 c5
     obtain ⟨rfl, rfl⟩ := T
     exact fi (aa c5 <| F)
 · replace T := T.2 c4
   replace c4 := Bool.eq_false_iff.2 c4
   obtain ⟨rfl, rfl⟩ := T
   exact fi (aa c4 <| F)
theorem sp_lex_Name : SP 21 = some (.code sc_lex_Name) := SPof_code rfl Tryd.func21 comp_lex_Name
/-! doorkeeper/lex.Name -/
set_option maxHeartbeats 4000000 in
theorem lex_Name_tree (s : List UInt8) (r : Bool) (T :
  ((s = []) →
  false = r) ∧
 (¬ (s = []) →
  (((s.length : Int) ≤ 24) →
   ∃ (b1 : UInt8), (s[0]? = some b1) ∧
   ∃ (r2 : Int), (R_lex_class b1 r2) ∧
   ((r2 = 2) →
    ∃ (r3 : Int), (R_lex_span s [2, 3] r3) ∧
    (decide (r3 = (s.length : Int))) = r) ∧
   (¬ (r2 = 2) →
    false = r)) ∧
  (¬ ((s.length : Int) ≤ 24) →
   false = r))) : R_lex_Name s r := by
 intro S
 rw [call_code sp_lex_Name _ _ rfl]
 have F := U_lex_Name
 by_cases c1 : s = []
 · replace T := T.1 c1
   obtain rfl := T
   exact fi (aa (eq_true c1) <| F)
 · replace T := T.2 c1
   replace F := aa (eq_false c1) <| F
   by_cases c2 : (s.length : Int) ≤ 24
   · replace T := T.1 c2
     obtain ⟨b1, q3, r2, q4, T⟩ := T
     simp only [R_lex_class, le, List.cons_append, List.nil_append] at q4
     replace F := aa (eq_true c2) <| aa q3 <| aa q4 <| F
     by_cases c5 : r2 = 2
     · replace T := T.1 c5
       obtain ⟨r3, q6, rfl⟩ := T
       simp only [R_lex_span, le, List.cons_append, List.nil_append] at q6
       exact fi (aa (eq_true c5) <| aa q6 <| F)
     · replace T := T.2 c5
       obtain rfl := T
       exact fi (aa (eq_false c5) <| F)
   · replace T := T.2 c2
     obtain rfl := T
     exact fi (aa (eq_false c2) <| F)
theorem sp_ref1_digit : SP 23 = some (.code sc_ref1_digit) := SPof_code rfl Tryd.func23 comp_ref1_digit
/-! doorkeeper/doorkeeperref1.digit -/
set_option maxHeartbeats 4000000 in
theorem ref1_digit_tree (c : UInt8) (r : Bool) (T :
  ((48 ≤ (c.toNat : Int)) →
  (decide ((c.toNat : Int) ≤ 57)) = r) ∧
 (¬ (48 ≤ (c.toNat : Int)) →
  false = r)) : R_ref1_digit c r := by
 intro S
 rw [call_code sp_ref1_digit _ _ rfl]
 have F := U_ref1_digit
 by_cases c1 : 48 ≤ (c.toNat : Int)
 · replace T := T.1 c1
   obtain rfl := T
   exact fi (aa (eq_true c1) <| F)
 · replace T := T.2 c1
   obtain rfl := T
   exact fi (aa (eq_false c1) <| F)
theorem sp_ref1_begins : SP 35 = some (.code sc_ref1_begins) := SPof_code rfl Tryd.func35 comp_ref1_begins
/-! doorkeeper/doorkeeperref1.begins -/
set_option maxHeartbeats 4000000 in
theorem ref1_begins_tree (c : UInt8) (r : Bool) (T :
  ((97 ≤ (c.toNat : Int)) →
  (((c.toNat : Int) ≤ 122) →
   true = r) ∧
  (¬ ((c.toNat : Int) ≤ 122) →
   (decide ((c.toNat : Int) = 95)) = r)) ∧
 (¬ (97 ≤ (c.toNat : Int)) →
  (decide ((c.toNat : Int) = 95)) = r)) : R_ref1_begins c r := by
 intro S
 rw [call_code sp_ref1_begins _ _ rfl]
 have F := U_ref1_begins
 by_cases c1 : 97 ≤ (c.toNat : Int)
 · replace T := T.1 c1
   replace F := aa (eq_true c1) <| F
   by_cases c2 : (c.toNat : Int) ≤ 122
   · replace T := T.1 c2
     obtain rfl := T
     exact fi (aa (eq_true c2) <| F)
   · replace T := T.2 c2
     obtain rfl := T
     exact fi (aa (eq_false c2) <| F)
 · replace T := T.2 c1
   obtain rfl := T
   exact fi (aa (eq_false c1) <| F)
theorem sp_ref1_nameEnd : SP 36 = some (.code sc_ref1_nameEnd) := SPof_code rfl Tryd.func36 comp_ref1_nameEnd
/-! doorkeeper/doorkeeperref1.nameEnd -/
def At_ref1_nameEnd_1 (s : List UInt8) (i3 : Int) (r : Int) : Prop := ∀ (S : Sto) (e : Nat → PV) (f : Fr), e 0 = .str s ∧ e 5 = .int .i64 i3 → k_ref1_nameEnd_1 SP (E SP (.loop b_ref1_nameEnd_1) ⟨e, f :: S⟩) = .ok (.v (.int .i64 r)) S
set_option maxHeartbeats 4000000 in
theorem At_ref1_nameEnd_1_step (s : List UInt8) (i3 : Int) (r : Int) (T :
  ((i3 < (s.length : Int)) →
  (0 ≤ i3) ∧
  ∃ (b4 : UInt8), (s[i3.toNat]? = some b4) ∧
  ∃ (r5 : Bool), (R_ref1_begins b4 r5) ∧
  ((r5 = true) →
   (I64 (i3 + 1)) ∧
   At_ref1_nameEnd_1 s (i3 + 1) r) ∧
  (¬ (r5 = true) →
   ∃ (r6 : Bool), (R_ref1_digit b4 r6) ∧
   ((r6 = true) →
    (I64 (i3 + 1)) ∧
    At_ref1_nameEnd_1 s (i3 + 1) r) ∧
   (¬ (r6 = true) →
    i3 = r))) ∧
 (¬ (i3 < (s.length : Int)) →
  i3 = r)) : At_ref1_nameEnd_1 s i3 r := by
 intro S e f h
 unfold k_ref1_nameEnd_1
 rw [E_loop]
 have F := U_ref1_nameEnd
 replace F := aa h <| F
 by_cases c1 : i3 < (s.length : Int)
 · replace T := T.1 c1
   obtain ⟨p2, b4, q3, r5, q4, T⟩ := T
   simp only [R_ref1_begins, le, List.cons_append, List.nil_append] at q4
   replace F := aa (eq_true c1) <| aa p2 <| aa q3 <| aa q4 <| F
   by_cases c5 : r5 = true
   · replace T := T.1 c5
     obtain ⟨p6, T⟩ := T
     replace F := aa c5 <| aa p6.wrap <| F
     try simp only [F, lw, lx, le, Nat.reduceMul, UInt8.reduceToNat, reduceIte, reduceCtorEq, Nat.reduceEqDiff, Nat.reduceAdd, Nat.reduceLeDiff, Nat.reduceSub, Nat.reduceLT, Int.reduceEq, Int.reduceLT, Int.reduceLE, Int.reduceToNat, Int.reduceAdd, Int.reduceSub, Int.reduceMul, Int.reduceNeg]
     refine T S _ _ ?_
     exact fi F
   · replace T := T.2 c5
     replace c5 := Bool.eq_false_iff.2 c5
     obtain ⟨r6, q7, T⟩ := T
     simp only [R_ref1_digit, le, List.cons_append, List.nil_append] at q7
     replace F := aa c5 <| aa q7 <| F
     by_cases c8 : r6 = true
     · replace T := T.1 c8
       obtain ⟨p9, T⟩ := T
       replace F := aa c8 <| aa p9.wrap <| F
       try simp only [F, lw, lx, le, Nat.reduceMul, UInt8.reduceToNat, reduceIte, reduceCtorEq, Nat.reduceEqDiff, Nat.reduceAdd, Nat.reduceLeDiff, Nat.reduceSub, Nat.reduceLT, Int.reduceEq, Int.reduceLT, Int.reduceLE, Int.reduceToNat, Int.reduceAdd, Int.reduceSub, Int.reduceMul, Int.reduceNeg]
       refine T S _ _ ?_
       exact fi F
     · replace T := T.2 c8
       replace c8 := Bool.eq_false_iff.2 c8
       obtain rfl := T
       exact fi (aa c8 <| F)
 · replace T := T.2 c1
   obtain rfl := T
   exact fi (aa (eq_false c1) <| F)
set_option maxHeartbeats 4000000 in
theorem ref1_nameEnd_tree (s : List UInt8) (i : Int) (r : Int) (T :
  (((s.length : Int) ≤ i) →
  i = r) ∧
 (¬ ((s.length : Int) ≤ i) →
  (0 ≤ i) ∧
  ∃ (b1 : UInt8), (s[i.toNat]? = some b1) ∧
  ∃ (r2 : Bool), (R_ref1_begins b1 r2) ∧
  ((r2 = true) →
   At_ref1_nameEnd_1 s i r) ∧
  (¬ (r2 = true) →
   i = r))) : R_ref1_nameEnd s i r := by
 intro S
 rw [call_code sp_ref1_nameEnd _ _ rfl]
 have F := U_ref1_nameEnd
 by_cases c1 : (s.length : Int) ≤ i
 · replace T := T.1 c1
   obtain rfl := T
   exact fi (aa (eq_true c1) <| F)
 · replace T := T.2 c1
   obtain ⟨p2, b1, q3, r2, q4, T⟩ := T
   simp only [R_ref1_begins, le, List.cons_append, List.nil_append] at q4
   replace F := aa (eq_false c1) <| aa p2 <| aa q3 <| aa q4 <| F
   by_cases c5 : r2 = true
   · replace T := T.1 c5
     replace F := aa c5 <| F
     try simp only [F, lw, lx, le, Nat.reduceMul, UInt8.reduceToNat, reduceIte, reduceCtorEq, Nat.reduceEqDiff, Nat.reduceAdd, Nat.reduceLeDiff, Nat.reduceSub, Nat.reduceLT, Int.reduceEq, Int.reduceLT, Int.reduceLE, Int.reduceToNat, Int.reduceAdd, Int.reduceSub, Int.reduceMul, Int.reduceNeg]
     refine T S _ _ ?_
     exact fi F
   · replace T := T.2 c5
     replace c5 := Bool.eq_false_iff.2 c5
     obtain rfl := T
     exact fi (aa c5 <| F)
theorem sp_ref1_Name : SP 80 = some (.code sc_ref1_Name) := SPof_code rfl Tryd.func80 comp_ref1_Name
/-! doorkeeper/doorkeeperref1.Name -/
set_option maxHeartbeats 4000000 in
theorem ref1_Name_tree (s : List UInt8) (r : Bool) (T :
  ((s = []) →
  false = r) ∧
 (¬ (s = []) →
  (((s.length : Int) ≤ 24) →
   ∃ (r1 : Int), (R_ref1_nameEnd s 0 r1) ∧
   (decide (r1 = (s.length : Int))) = r) ∧
  (¬ ((s.length : Int) ≤ 24) →
   false = r))) : R_ref1_Name s r := by
 intro S
 rw [call_code sp_ref1_Name _ _ rfl]
 have F := U_ref1_Name
 by_cases c1 : s = []
 · replace T := T.1 c1
   obtain rfl := T
   exact fi (aa (eq_true c1) <| F)
 · replace T := T.2 c1
   replace F := aa (eq_false c1) <| F
   by_cases c2 : (s.length : Int) ≤ 24
   · replace T := T.1 c2
     obtain ⟨r1, q3, rfl⟩ := T
     simp only [R_ref1_nameEnd, le, List.cons_append, List.nil_append] at q3
     exact fi (aa (eq_true c2) <| aa q3 <| F)
   · replace T := T.2 c2
     obtain rfl := T
     exact fi (aa (eq_false c2) <| F)
theorem sp_ref1_Dotted : SP 63 = some (.code sc_ref1_Dotted) := SPof_code rfl Tryd.func63 comp_ref1_Dotted
/-! doorkeeper/doorkeeperref1.Dotted -/
set_option maxHeartbeats 4000000 in
theorem ref1_Dotted_tree (s : List UInt8) (r : Bool) (T :
  ∃ (r1 : Int), (R_ref1_nameEnd s 0 r1) ∧
 ((0 < r1) →
  ((r1 < (s.length : Int)) →
   (0 ≤ r1) ∧
   ∃ (b2 : UInt8), (s[r1.toNat]? = some b2) ∧
   (((b2.toNat : Int) = 46) →
    (0 ≤ r1) ∧ (r1.toNat ≤ s.length) ∧
    ∃ (r3 : Bool), (R_ref1_Name (s.take (r1.toNat)) r3) ∧
    ((r3 = true) →
     (I64 (r1 + 1)) ∧
     (0 ≤ (r1 + 1)) ∧ ((r1 + 1).toNat ≤ s.length) ∧
     ∃ (r4 : Bool), (R_ref1_Name ((s.drop ((r1 + 1).toNat)).take (s.length - ((r1 + 1).toNat))) r4) ∧
     r4 = r) ∧
    (¬ (r3 = true) →
     false = r)) ∧
   (¬ ((b2.toNat : Int) = 46) →
    false = r)) ∧
  (¬ (r1 < (s.length : Int)) →
   false = r)) ∧
 (¬ (0 < r1) →
  false = r)) : R_ref1_Dotted s r := by
 intro S
 rw [call_code sp_ref1_Dotted _ _ rfl]
 have F := U_ref1_Dotted
 obtain ⟨r1, q1, T⟩ := T
 simp only [R_ref1_nameEnd, le, List.cons_append, List.nil_append] at q1
 replace F := aa q1 <| F
 by_cases c2 : 0 < r1
 · replace T := T.1 c2
   replace F := aa (eq_true c2) <| F
   by_cases c3 : r1 < (s.length : Int)
   · replace T := T.1 c3
     obtain ⟨p4, b2, q5, T⟩ := T
     replace F := aa (eq_true c3) <| aa p4 <| aa q5 <| F
     by_cases c6 : (b2.toNat : Int) = 46
     · replace T := T.1 c6
       obtain ⟨p7, p8, r3, q9, T⟩ := T
       simp only [R_ref1_Name, le, List.cons_append, List.nil_append] at q9
       replace F := aa (eq_true c6) <| aa p7 <| aa p8 <| aa q9 <| F
       by_cases c10 : r3 = true
       · replace T := T.1 c10
         obtain ⟨p11, p12, p13, r4, q14, rfl⟩ := T
         simp only [R_ref1_Name, le, List.cons_append, List.nil_append] at q14
         exact fi (aa c10 <| aa p11.wrap <| aa p12 <| aa p13 <| aa q14 <| F)
       · replace T := T.2 c10
         replace c10 := Bool.eq_false_iff.2 c10
         obtain rfl := T
         exact fi (aa c10 <| F)
     · replace T := T.2 c6
       obtain rfl := T
       exact fi (aa (eq_false c6) <| F)
   · replace T := T.2 c3
     obtain rfl := T
     exact fi (aa (eq_false c3) <| F)
 · replace T := T.2 c2
   obtain rfl := T
   exact fi (aa (eq_false c2) <| F)
theorem sp_ref1_sign : SP 37 = some (.code sc_ref1_sign) := SPof_code rfl Tryd.func37 comp_ref1_sign
/-! doorkeeper/doorkeeperref1.sign -/
set_option maxHeartbeats 4000000 in
theorem ref1_sign_tree (s : List UInt8) (i : Int) (r : List UInt8) (T :
  (I64 (i + 1)) ∧
 (((i + 1) < (s.length : Int)) →
  (I64 (i + 2)) ∧
  (0 ≤ i) ∧ (0 ≤ (i + 2)) ∧ (i.toNat ≤ (i + 2).toNat) ∧ ((i + 2).toNat ≤ s.length) ∧
  ((((s.drop i.toNat).take ((i + 2).toNat - i.toNat)) = [61, 61]) →
   (I64 (i + 2)) ∧
   (0 ≤ i) ∧ (0 ≤ (i + 2)) ∧ (i.toNat ≤ (i + 2).toNat) ∧ ((i + 2).toNat ≤ s.length) ∧
   ((s.drop i.toNat).take ((i + 2).toNat - i.toNat)) = r) ∧
  (¬ (((s.drop i.toNat).take ((i + 2).toNat - i.toNat)) = [61, 61]) →
   ((((s.drop i.toNat).take ((i + 2).toNat - i.toNat)) = [33, 61]) →
    (I64 (i + 2)) ∧
    (0 ≤ i) ∧ (0 ≤ (i + 2)) ∧ (i.toNat ≤ (i + 2).toNat) ∧ ((i + 2).toNat ≤ s.length) ∧
    ((s.drop i.toNat).take ((i + 2).toNat - i.toNat)) = r) ∧
   (¬ (((s.drop i.toNat).take ((i + 2).toNat - i.toNat)) = [33, 61]) →
    ((((s.drop i.toNat).take ((i + 2).toNat - i.toNat)) = [60, 61]) →
     (I64 (i + 2)) ∧
     (0 ≤ i) ∧ (0 ≤ (i + 2)) ∧ (i.toNat ≤ (i + 2).toNat) ∧ ((i + 2).toNat ≤ s.length) ∧
     ((s.drop i.toNat).take ((i + 2).toNat - i.toNat)) = r) ∧
    (¬ (((s.drop i.toNat).take ((i + 2).toNat - i.toNat)) = [60, 61]) →
     ((((s.drop i.toNat).take ((i + 2).toNat - i.toNat)) = [62, 61]) →
      (I64 (i + 2)) ∧
      (0 ≤ i) ∧ (0 ≤ (i + 2)) ∧ (i.toNat ≤ (i + 2).toNat) ∧ ((i + 2).toNat ≤ s.length) ∧
      ((s.drop i.toNat).take ((i + 2).toNat - i.toNat)) = r) ∧
     (¬ (((s.drop i.toNat).take ((i + 2).toNat - i.toNat)) = [62, 61]) →
      ((((s.drop i.toNat).take ((i + 2).toNat - i.toNat)) = [38, 38]) →
       (I64 (i + 2)) ∧
       (0 ≤ i) ∧ (0 ≤ (i + 2)) ∧ (i.toNat ≤ (i + 2).toNat) ∧ ((i + 2).toNat ≤ s.length) ∧
       ((s.drop i.toNat).take ((i + 2).toNat - i.toNat)) = r) ∧
      (¬ (((s.drop i.toNat).take ((i + 2).toNat - i.toNat)) = [38, 38]) →
       ((((s.drop i.toNat).take ((i + 2).toNat - i.toNat)) = [124, 124]) →
        (I64 (i + 2)) ∧
        (0 ≤ i) ∧ (0 ≤ (i + 2)) ∧ (i.toNat ≤ (i + 2).toNat) ∧ ((i + 2).toNat ≤ s.length) ∧
        ((s.drop i.toNat).take ((i + 2).toNat - i.toNat)) = r) ∧
       (¬ (((s.drop i.toNat).take ((i + 2).toNat - i.toNat)) = [124, 124]) →
        (0 ≤ i) ∧
        ∃ (b1 : UInt8), (s[i.toNat]? = some b1) ∧
        (((b1.toNat : Int) = 123) →
         (I64 (i + 1)) ∧
         (0 ≤ i) ∧ (0 ≤ (i + 1)) ∧ (i.toNat ≤ (i + 1).toNat) ∧ ((i + 1).toNat ≤ s.length) ∧
         ((s.drop i.toNat).take ((i + 1).toNat - i.toNat)) = r) ∧
        (¬ ((b1.toNat : Int) = 123) →
         (((b1.toNat : Int) = 125) →
          (I64 (i + 1)) ∧
          (0 ≤ i) ∧ (0 ≤ (i + 1)) ∧ (i.toNat ≤ (i + 1).toNat) ∧ ((i + 1).toNat ≤ s.length) ∧
          ((s.drop i.toNat).take ((i + 1).toNat - i.toNat)) = r) ∧
         (¬ ((b1.toNat : Int) = 125) →
          (((b1.toNat : Int) = 91) →
           (I64 (i + 1)) ∧
           (0 ≤ i) ∧ (0 ≤ (i + 1)) ∧ (i.toNat ≤ (i + 1).toNat) ∧ ((i + 1).toNat ≤ s.length) ∧
           ((s.drop i.toNat).take ((i + 1).toNat - i.toNat)) = r) ∧
          (¬ ((b1.toNat : Int) = 91) →
           (((b1.toNat : Int) = 93) →
            (I64 (i + 1)) ∧
            (0 ≤ i) ∧ (0 ≤ (i + 1)) ∧ (i.toNat ≤ (i + 1).toNat) ∧ ((i + 1).toNat ≤ s.length) ∧
            ((s.drop i.toNat).take ((i + 1).toNat - i.toNat)) = r) ∧
           (¬ ((b1.toNat : Int) = 93) →
            (((b1.toNat : Int) = 40) →
             (I64 (i + 1)) ∧
             (0 ≤ i) ∧ (0 ≤ (i + 1)) ∧ (i.toNat ≤ (i + 1).toNat) ∧ ((i + 1).toNat ≤ s.length) ∧
             ((s.drop i.toNat).take ((i + 1).toNat - i.toNat)) = r) ∧
            (¬ ((b1.toNat : Int) = 40) →
             (((b1.toNat : Int) = 41) →
              (I64 (i + 1)) ∧
              (0 ≤ i) ∧ (0 ≤ (i + 1)) ∧ (i.toNat ≤ (i + 1).toNat) ∧ ((i + 1).toNat ≤ s.length) ∧
              ((s.drop i.toNat).take ((i + 1).toNat - i.toNat)) = r) ∧
             (¬ ((b1.toNat : Int) = 41) →
              (((b1.toNat : Int) = 61) →
               (I64 (i + 1)) ∧
               (0 ≤ i) ∧ (0 ≤ (i + 1)) ∧ (i.toNat ≤ (i + 1).toNat) ∧ ((i + 1).toNat ≤ s.length) ∧
               ((s.drop i.toNat).take ((i + 1).toNat - i.toNat)) = r) ∧
              (¬ ((b1.toNat : Int) = 61) →
               (((b1.toNat : Int) = 44) →
                (I64 (i + 1)) ∧
                (0 ≤ i) ∧ (0 ≤ (i + 1)) ∧ (i.toNat ≤ (i + 1).toNat) ∧ ((i + 1).toNat ≤ s.length) ∧
                ((s.drop i.toNat).take ((i + 1).toNat - i.toNat)) = r) ∧
               (¬ ((b1.toNat : Int) = 44) →
                (((b1.toNat : Int) = 46) →
                 (I64 (i + 1)) ∧
                 (0 ≤ i) ∧ (0 ≤ (i + 1)) ∧ (i.toNat ≤ (i + 1).toNat) ∧ ((i + 1).toNat ≤ s.length) ∧
                 ((s.drop i.toNat).take ((i + 1).toNat - i.toNat)) = r) ∧
                (¬ ((b1.toNat : Int) = 46) →
                 (((b1.toNat : Int) = 43) →
                  (I64 (i + 1)) ∧
                  (0 ≤ i) ∧ (0 ≤ (i + 1)) ∧ (i.toNat ≤ (i + 1).toNat) ∧ ((i + 1).toNat ≤ s.length) ∧
                  ((s.drop i.toNat).take ((i + 1).toNat - i.toNat)) = r) ∧
                 (¬ ((b1.toNat : Int) = 43) →
                  (((b1.toNat : Int) = 45) →
                   (I64 (i + 1)) ∧
                   (0 ≤ i) ∧ (0 ≤ (i + 1)) ∧ (i.toNat ≤ (i + 1).toNat) ∧ ((i + 1).toNat ≤ s.length) ∧
                   ((s.drop i.toNat).take ((i + 1).toNat - i.toNat)) = r) ∧
                  (¬ ((b1.toNat : Int) = 45) →
                   (((b1.toNat : Int) = 42) →
                    (I64 (i + 1)) ∧
                    (0 ≤ i) ∧ (0 ≤ (i + 1)) ∧ (i.toNat ≤ (i + 1).toNat) ∧ ((i + 1).toNat ≤ s.length) ∧
                    ((s.drop i.toNat).take ((i + 1).toNat - i.toNat)) = r) ∧
                   (¬ ((b1.toNat : Int) = 42) →
                    (((b1.toNat : Int) = 47) →
                     (I64 (i + 1)) ∧
                     (0 ≤ i) ∧ (0 ≤ (i + 1)) ∧ (i.toNat ≤ (i + 1).toNat) ∧ ((i + 1).toNat ≤ s.length) ∧
                     ((s.drop i.toNat).take ((i + 1).toNat - i.toNat)) = r) ∧
                    (¬ ((b1.toNat : Int) = 47) →
                     (((b1.toNat : Int) = 37) →
                      (I64 (i + 1)) ∧
                      (0 ≤ i) ∧ (0 ≤ (i + 1)) ∧ (i.toNat ≤ (i + 1).toNat) ∧ ((i + 1).toNat ≤ s.length) ∧
                      ((s.drop i.toNat).take ((i + 1).toNat - i.toNat)) = r) ∧
                     (¬ ((b1.toNat : Int) = 37) →
                      (((b1.toNat : Int) = 60) →
                       (I64 (i + 1)) ∧
                       (0 ≤ i) ∧ (0 ≤ (i + 1)) ∧ (i.toNat ≤ (i + 1).toNat) ∧ ((i + 1).toNat ≤ s.length) ∧
                       ((s.drop i.toNat).take ((i + 1).toNat - i.toNat)) = r) ∧
                      (¬ ((b1.toNat : Int) = 60) →
                       (((b1.toNat : Int) = 62) →
                        (I64 (i + 1)) ∧
                        (0 ≤ i) ∧ (0 ≤ (i + 1)) ∧ (i.toNat ≤ (i + 1).toNat) ∧ ((i + 1).toNat ≤ s.length) ∧
                        ((s.drop i.toNat).take ((i + 1).toNat - i.toNat)) = r) ∧
                       (¬ ((b1.toNat : Int) = 62) →
                        (((b1.toNat : Int) = 33) →
                         (I64 (i + 1)) ∧
                         (0 ≤ i) ∧ (0 ≤ (i + 1)) ∧ (i.toNat ≤ (i + 1).toNat) ∧ ((i + 1).toNat ≤ s.length) ∧
                         ((s.drop i.toNat).take ((i + 1).toNat - i.toNat)) = r) ∧
                        (¬ ((b1.toNat : Int) = 33) →
                         (((b1.toNat : Int) = 63) →
                          (I64 (i + 1)) ∧
                          (0 ≤ i) ∧ (0 ≤ (i + 1)) ∧ (i.toNat ≤ (i + 1).toNat) ∧ ((i + 1).toNat ≤ s.length) ∧
                          ((s.drop i.toNat).take ((i + 1).toNat - i.toNat)) = r) ∧
                         (¬ ((b1.toNat : Int) = 63) →
                          (((b1.toNat : Int) = 58) →
                           (I64 (i + 1)) ∧
                           (0 ≤ i) ∧ (0 ≤ (i + 1)) ∧ (i.toNat ≤ (i + 1).toNat) ∧ ((i + 1).toNat ≤ s.length) ∧
                           ((s.drop i.toNat).take ((i + 1).toNat - i.toNat)) = r) ∧
                          (¬ ((b1.toNat : Int) = 58) →
                           [] = r)))))))))))))))))))))))))) ∧
 (¬ ((i + 1) < (s.length : Int)) →
  (0 ≤ i) ∧
  ∃ (b2 : UInt8), (s[i.toNat]? = some b2) ∧
  (((b2.toNat : Int) = 123) →
   (I64 (i + 1)) ∧
   (0 ≤ i) ∧ (0 ≤ (i + 1)) ∧ (i.toNat ≤ (i + 1).toNat) ∧ ((i + 1).toNat ≤ s.length) ∧
   ((s.drop i.toNat).take ((i + 1).toNat - i.toNat)) = r) ∧
  (¬ ((b2.toNat : Int) = 123) →
   (((b2.toNat : Int) = 125) →
    (I64 (i + 1)) ∧
    (0 ≤ i) ∧ (0 ≤ (i + 1)) ∧ (i.toNat ≤ (i + 1).toNat) ∧ ((i + 1).toNat ≤ s.length) ∧
    ((s.drop i.toNat).take ((i + 1).toNat - i.toNat)) = r) ∧
   (¬ ((b2.toNat : Int) = 125) →
    (((b2.toNat : Int) = 91) →
     (I64 (i + 1)) ∧
     (0 ≤ i) ∧ (0 ≤ (i + 1)) ∧ (i.toNat ≤ (i + 1).toNat) ∧ ((i + 1).toNat ≤ s.length) ∧
     ((s.drop i.toNat).take ((i + 1).toNat - i.toNat)) = r) ∧
    (¬ ((b2.toNat : Int) = 91) →
     (((b2.toNat : Int) = 93) →
      (I64 (i + 1)) ∧
      (0 ≤ i) ∧ (0 ≤ (i + 1)) ∧ (i.toNat ≤ (i + 1).toNat) ∧ ((i + 1).toNat ≤ s.length) ∧
      ((s.drop i.toNat).take ((i + 1).toNat - i.toNat)) = r) ∧
     (¬ ((b2.toNat : Int) = 93) →
      (((b2.toNat : Int) = 40) →
       (I64 (i + 1)) ∧
       (0 ≤ i) ∧ (0 ≤ (i + 1)) ∧ (i.toNat ≤ (i + 1).toNat) ∧ ((i + 1).toNat ≤ s.length) ∧
       ((s.drop i.toNat).take ((i + 1).toNat - i.toNat)) = r) ∧
      (¬ ((b2.toNat : Int) = 40) →
       (((b2.toNat : Int) = 41) →
        (I64 (i + 1)) ∧
        (0 ≤ i) ∧ (0 ≤ (i + 1)) ∧ (i.toNat ≤ (i + 1).toNat) ∧ ((i + 1).toNat ≤ s.length) ∧
        ((s.drop i.toNat).take ((i + 1).toNat - i.toNat)) = r) ∧
       (¬ ((b2.toNat : Int) = 41) →
        (((b2.toNat : Int) = 61) →
         (I64 (i + 1)) ∧
         (0 ≤ i) ∧ (0 ≤ (i + 1)) ∧ (i.toNat ≤ (i + 1).toNat) ∧ ((i + 1).toNat ≤ s.length) ∧
         ((s.drop i.toNat).take ((i + 1).toNat - i.toNat)) = r) ∧
        (¬ ((b2.toNat : Int) = 61) →
         (((b2.toNat : Int) = 44) →
          (I64 (i + 1)) ∧
          (0 ≤ i) ∧ (0 ≤ (i + 1)) ∧ (i.toNat ≤ (i + 1).toNat) ∧ ((i + 1).toNat ≤ s.length) ∧
          ((s.drop i.toNat).take ((i + 1).toNat - i.toNat)) = r) ∧
         (¬ ((b2.toNat : Int) = 44) →
          (((b2.toNat : Int) = 46) →
           (I64 (i + 1)) ∧
           (0 ≤ i) ∧ (0 ≤ (i + 1)) ∧ (i.toNat ≤ (i + 1).toNat) ∧ ((i + 1).toNat ≤ s.length) ∧
           ((s.drop i.toNat).take ((i + 1).toNat - i.toNat)) = r) ∧
          (¬ ((b2.toNat : Int) = 46) →
           (((b2.toNat : Int) = 43) →
            (I64 (i + 1)) ∧
            (0 ≤ i) ∧ (0 ≤ (i + 1)) ∧ (i.toNat ≤ (i + 1).toNat) ∧ ((i + 1).toNat ≤ s.length) ∧
            ((s.drop i.toNat).take ((i + 1).toNat - i.toNat)) = r) ∧
           (¬ ((b2.toNat : Int) = 43) →
            (((b2.toNat : Int) = 45) →
             (I64 (i + 1)) ∧
             (0 ≤ i) ∧ (0 ≤ (i + 1)) ∧ (i.toNat ≤ (i + 1).toNat) ∧ ((i + 1).toNat ≤ s.length) ∧
             ((s.drop i.toNat).take ((i + 1).toNat - i.toNat)) = r) ∧
            (¬ ((b2.toNat : Int) = 45) →
             (((b2.toNat : Int) = 42) →
              (I64 (i + 1)) ∧
              (0 ≤ i) ∧ (0 ≤ (i + 1)) ∧ (i.toNat ≤ (i + 1).toNat) ∧ ((i + 1).toNat ≤ s.length) ∧
              ((s.drop i.toNat).take ((i + 1).toNat - i.toNat)) = r) ∧
             (¬ ((b2.toNat : Int) = 42) →
              (((b2.toNat : Int) = 47) →
               (I64 (i + 1)) ∧
               (0 ≤ i) ∧ (0 ≤ (i + 1)) ∧ (i.toNat ≤ (i + 1).toNat) ∧ ((i + 1).toNat ≤ s.length) ∧
               ((s.drop i.toNat).take ((i + 1).toNat - i.toNat)) = r) ∧
              (¬ ((b2.toNat : Int) = 47) →
               (((b2.toNat : Int) = 37) →
                (I64 (i + 1)) ∧
                (0 ≤ i) ∧ (0 ≤ (i + 1)) ∧ (i.toNat ≤ (i + 1).toNat) ∧ ((i + 1).toNat ≤ s.length) ∧
                ((s.drop i.toNat).take ((i + 1).toNat - i.toNat)) = r) ∧
               (¬ ((b2.toNat : Int) = 37) →
                (((b2.toNat : Int) = 60) →
                 (I64 (i + 1)) ∧
                 (0 ≤ i) ∧ (0 ≤ (i + 1)) ∧ (i.toNat ≤ (i + 1).toNat) ∧ ((i + 1).toNat ≤ s.length) ∧
                 ((s.drop i.toNat).take ((i + 1).toNat - i.toNat)) = r) ∧
                (¬ ((b2.toNat : Int) = 60) →
                 (((b2.toNat : Int) = 62) →
                  (I64 (i + 1)) ∧
                  (0 ≤ i) ∧ (0 ≤ (i + 1)) ∧ (i.toNat ≤ (i + 1).toNat) ∧ ((i + 1).toNat ≤ s.length) ∧
                  ((s.drop i.toNat).take ((i + 1).toNat - i.toNat)) = r) ∧
                 (¬ ((b2.toNat : Int) = 62) →
                  (((b2.toNat : Int) = 33) →
                   (I64 (i + 1)) ∧
                   (0 ≤ i) ∧ (0 ≤ (i + 1)) ∧ (i.toNat ≤ (i + 1).toNat) ∧ ((i + 1).toNat ≤ s.length) ∧
                   ((s.drop i.toNat).take ((i + 1).toNat - i.toNat)) = r) ∧
                  (¬ ((b2.toNat : Int) = 33) →
                   (((b2.toNat : Int) = 63) →
                    (I64 (i + 1)) ∧
                    (0 ≤ i) ∧ (0 ≤ (i + 1)) ∧ (i.toNat ≤ (i + 1).toNat) ∧ ((i + 1).toNat ≤ s.length) ∧
                    ((s.drop i.toNat).take ((i + 1).toNat - i.toNat)) = r) ∧
                   (¬ ((b2.toNat : Int) = 63) →
                    (((b2.toNat : Int) = 58) →
                     (I64 (i + 1)) ∧
                     (0 ≤ i) ∧ (0 ≤ (i + 1)) ∧ (i.toNat ≤ (i + 1).toNat) ∧ ((i + 1).toNat ≤ s.length) ∧
                     ((s.drop i.toNat).take ((i + 1).toNat - i.toNat)) = r) ∧
                    (¬ ((b2.toNat : Int) = 58) →
                     [] = r))))))))))))))))))))) : R_ref1_sign s i r := by
 intro S
 rw [call_code sp_ref1_sign _ _ rfl]
 have F := U_ref1_sign
 obtain ⟨p1, T⟩ := T
 replace F := aa p1.wrap <| F
 by_cases c2 : (i + 1) < (s.length : Int)
 · replace T := T.1 c2
   obtain ⟨p3, p4, p5, p6, p7, T⟩ := T
   replace F := aa (eq_true c2) <| aa p3.wrap <| aa p4 <| aa p5 <| aa p6 <| aa p7 <| F
   by_cases c8 : ((s.drop i.toNat).take ((i + 2).toNat - i.toNat)) = [61, 61]
   · replace T := T.1 c8
     obtain ⟨p9, p10, p11, p12, p13, rfl⟩ := T
     exact fi (aa (eq_true c8) <| aa p9.wrap <| aa p10 <| aa p11 <| aa p12 <| aa p13 <| F)
   · replace T := T.2 c8
     replace F := aa (eq_false c8) <| F
     by_cases c14 : ((s.drop i.toNat).take ((i + 2).toNat - i.toNat)) = [33, 61]
     · replace T := T.1 c14
       obtain ⟨p15, p16, p17, p18, p19, rfl⟩ := T
       exact fi (aa (eq_true c14) <| aa p15.wrap <| aa p16 <| aa p17 <| aa p18 <| aa p19 <| F)
     · replace T := T.2 c14
       replace F := aa (eq_false c14) <| F
       by_cases c20 : ((s.drop i.toNat).take ((i + 2).toNat - i.toNat)) = [60, 61]
       · replace T := T.1 c20
         obtain ⟨p21, p22, p23, p24, p25, rfl⟩ := T
         exact fi (aa (eq_true c20) <| aa p21.wrap <| aa p22 <| aa p23 <| aa p24 <| aa p25 <| F)
       · replace T := T.2 c20
         replace F := aa (eq_false c20) <| F
         by_cases c26 : ((s.drop i.toNat).take ((i + 2).toNat - i.toNat)) = [62, 61]
         · replace T := T.1 c26
           obtain ⟨p27, p28, p29, p30, p31, rfl⟩ := T
           exact fi (aa (eq_true c26) <| aa p27.wrap <| aa p28 <| aa p29 <| aa p30 <| aa p31 <| F)
         · replace T := T.2 c26
           replace F := aa (eq_false c26) <| F
           by_cases c32 : ((s.drop i.toNat).take ((i + 2).toNat - i.toNat)) = [38, 38]
           · replace T := T.1 c32
             obtain ⟨p33, p34, p35, p36, p37, rfl⟩ := T
             exact fi (aa (eq_true c32) <| aa p33.wrap <| aa p34 <| aa p35 <| aa p36 <| aa p37 <| F)
           · replace T := T.2 c32
             replace F := aa (eq_false c32) <| F
             by_cases c38 : ((s.drop i.toNat).take ((i + 2).toNat - i.toNat)) = [124, 124]
             · replace T := T.1 c38
               obtain ⟨p39, p40, p41, p42, p43, rfl⟩ := T
               exact fi (aa (eq_true c38) <| aa p39.wrap <| aa p40 <| aa p41 <| aa p42 <| aa p43 <| F)
             · replace T := T.2 c38
               obtain ⟨p44, b1, q45, T⟩ := T
               replace F := aa (eq_false c38) <| aa p44 <| aa q45 <| F
               by_cases c46 : (b1.toNat : Int) = 123
               · replace T := T.1 c46
                 obtain ⟨p47, p48, p49, p50, p51, rfl⟩ := T
                 exact fi (aa (eq_true c46) <| aa p47.wrap <| aa p48 <| aa p49 <| aa p50 <| aa p51 <| F)
               · replace T := T.2 c46
                 replace F := aa (eq_false c46) <| F
                 by_cases c52 : (b1.toNat : Int) = 125
                 · replace T := T.1 c52
                   obtain ⟨p53, p54, p55, p56, p57, rfl⟩ := T
                   exact fi (aa (eq_true c52) <| aa p53.wrap <| aa p54 <| aa p55 <| aa p56 <| aa p57 <| F)
                 · replace T := T.2 c52
                   replace F := aa (eq_false c52) <| F
                   by_cases c58 : (b1.toNat : Int) = 91
                   · replace T := T.1 c58
                     obtain ⟨p59, p60, p61, p62, p63, rfl⟩ := T
                     exact fi (aa (eq_true c58) <| aa p59.wrap <| aa p60 <| aa p61 <| aa p62 <| aa p63 <| F)
                   · replace T := T.2 c58
                     replace F := aa (eq_false c58) <| F
                     by_cases c64 : (b1.toNat : Int) = 93
                     · replace T := T.1 c64
                       obtain ⟨p65, p66, p67, p68, p69, rfl⟩ := T
                       exact fi (aa (eq_true c64) <| aa p65.wrap <| aa p66 <| aa p67 <| aa p68 <| aa p69 <| F)
                     · replace T := T.2 c64
                       replace F := aa (eq_false c64) <| F
                       by_cases c70 : (b1.toNat : Int) = 40
                       · replace T := T.1 c70
                         obtain ⟨p71, p72, p73, p74, p75, rfl⟩ := T
                         exact fi (aa (eq_true c70) <| aa p71.wrap <| aa p72 <| aa p73 <| aa p74 <| aa p75 <| F)
                       · replace T := T.2 c70
                         replace F := aa (eq_false c70) <| F
                         by_cases c76 : (b1.toNat : Int) = 41
                         · replace T := T.1 c76
                           obtain ⟨p77, p78, p79, p80, p81, rfl⟩ := T
                           exact fi (aa (eq_true c76) <| aa p77.wrap <| aa p78 <| aa p79 <| aa p80 <| aa p81 <| F)
                         · replace T := T.2 c76
                           replace F := aa (eq_false c76) <| F
                           by_cases c82 : (b1.toNat : Int) = 61
                           · replace T := T.1 c82
                             obtain ⟨p83, p84, p85, p86, p87, rfl⟩ := T
                             exact fi (aa (eq_true c82) <| aa p83.wrap <| aa p84 <| aa p85 <| aa p86 <| aa p87 <| F)
                           · replace T := T.2 c82
                             replace F := aa (eq_false c82) <| F
                             by_cases c88 : (b1.toNat : Int) = 44
                             · replace T := T.1 c88
                               obtain ⟨p89, p90, p91, p92, p93, rfl⟩ := T
                               exact fi (aa (eq_true c88) <| aa p89.wrap <| aa p90 <| aa p91 <| aa p92 <| aa p93 <| F)
                             · replace T := T.2 c88
                               replace F := aa (eq_false c88) <| F
                               by_cases c94 : (b1.toNat : Int) = 46
                               · replace T := T.1 c94
                                 obtain ⟨p95, p96, p97, p98, p99, rfl⟩ := T
                                 exact fi (aa (eq_true c94) <| aa p95.wrap <| aa p96 <| aa p97 <| aa p98 <| aa p99 <| F)
                               · replace T := T.2 c94
                                 replace F := aa (eq_false c94) <| F
                                 by_cases c100 : (b1.toNat : Int) = 43
                                 · replace T := T.1 c100
                                   obtain ⟨p101, p102, p103, p104, p105, rfl⟩ := T
                                   exact fi (aa (eq_true c100) <| aa p101.wrap <| aa p102 <| aa p103 <| aa p104 <| aa p105 <| F)
                                 · replace T := T.2 c100
                                   replace F := aa (eq_false c100) <| F
                                   by_cases c106 : (b1.toNat : Int) = 45
                                   · replace T := T.1 c106
                                     obtain ⟨p107, p108, p109, p110, p111, rfl⟩ := T
                                     exact fi (aa (eq_true c106) <| aa p107.wrap <| aa p108 <| aa p109 <| aa p110 <| aa p111 <| F)
                                   · replace T := T.2 c106
                                     replace F := aa (eq_false c106) <| F
                                     by_cases c112 : (b1.toNat : Int) = 42
                                     · replace T := T.1 c112
                                       obtain ⟨p113, p114, p115, p116, p117, rfl⟩ := T
                                       exact fi (aa (eq_true c112) <| aa p113.wrap <| aa p114 <| aa p115 <| aa p116 <| aa p117 <| F)
                                     · replace T := T.2 c112
                                       replace F := aa (eq_false c112) <| F
                                       by_cases c118 : (b1.toNat : Int) = 47
                                       · replace T := T.1 c118
                                         obtain ⟨p119, p120, p121, p122, p123, rfl⟩ := T
                                         exact fi (aa (eq_true c118) <| aa p119.wrap <| aa p120 <| aa p121 <| aa p122 <| aa p123 <| F)
                                       · replace T := T.2 c118
                                         replace F := aa (eq_false c118) <| F
                                         by_cases c124 : (b1.toNat : Int) = 37
                                         · replace T := T.1 c124
                                           obtain ⟨p125, p126, p127, p128, p129, rfl⟩ := T
                                           exact fi (aa (eq_true c124) <| aa p125.wrap <| aa p126 <| aa p127 <| aa p128 <| aa p129 <| F)
                                         · replace T := T.2 c124
                                           replace F := aa (eq_false c124) <| F
                                           by_cases c130 : (b1.toNat : Int) = 60
                                           · replace T := T.1 c130
                                             obtain ⟨p131, p132, p133, p134, p135, rfl⟩ := T
                                             exact fi (aa (eq_true c130) <| aa p131.wrap <| aa p132 <| aa p133 <| aa p134 <| aa p135 <| F)
                                           · replace T := T.2 c130
                                             replace F := aa (eq_false c130) <| F
                                             by_cases c136 : (b1.toNat : Int) = 62
                                             · replace T := T.1 c136
                                               obtain ⟨p137, p138, p139, p140, p141, rfl⟩ := T
                                               exact fi (aa (eq_true c136) <| aa p137.wrap <| aa p138 <| aa p139 <| aa p140 <| aa p141 <| F)
                                             · replace T := T.2 c136
                                               replace F := aa (eq_false c136) <| F
                                               by_cases c142 : (b1.toNat : Int) = 33
                                               · replace T := T.1 c142
                                                 obtain ⟨p143, p144, p145, p146, p147, rfl⟩ := T
                                                 exact fi (aa (eq_true c142) <| aa p143.wrap <| aa p144 <| aa p145 <| aa p146 <| aa p147 <| F)
                                               · replace T := T.2 c142
                                                 replace F := aa (eq_false c142) <| F
                                                 by_cases c148 : (b1.toNat : Int) = 63
                                                 · replace T := T.1 c148
                                                   obtain ⟨p149, p150, p151, p152, p153, rfl⟩ := T
                                                   exact fi (aa (eq_true c148) <| aa p149.wrap <| aa p150 <| aa p151 <| aa p152 <| aa p153 <| F)
                                                 · replace T := T.2 c148
                                                   replace F := aa (eq_false c148) <| F
                                                   by_cases c154 : (b1.toNat : Int) = 58
                                                   · replace T := T.1 c154
                                                     obtain ⟨p155, p156, p157, p158, p159, rfl⟩ := T
                                                     exact fi (aa (eq_true c154) <| aa p155.wrap <| aa p156 <| aa p157 <| aa p158 <| aa p159 <| F)
                                                   · replace T := T.2 c154
                                                     obtain rfl := T
                                                     exact fi (aa (eq_false c154) <| F)
 · replace T := T.2 c2
   obtain ⟨p160, b2, q161, T⟩ := T
   replace F := aa (eq_false c2) <| aa p160 <| aa q161 <| F
   by_cases c162 : (b2.toNat : Int) = 123
   · replace T := T.1 c162
     obtain ⟨p163, p164, p165, p166, p167, rfl⟩ := T
     exact fi (aa (eq_true c162) <| aa p163.wrap <| aa p164 <| aa p165 <| aa p166 <| aa p167 <| F)
   · replace T := T.2 c162
     replace F := aa (eq_false c162) <| F
     by_cases c168 : (b2.toNat : Int) = 125
     · replace T := T.1 c168
       obtain ⟨p169, p170, p171, p172, p173, rfl⟩ := T
       exact fi (aa (eq_true c168) <| aa p169.wrap <| aa p170 <| aa p171 <| aa p172 <| aa p173 <| F)
     · replace T := T.2 c168
       replace F := aa (eq_false c168) <| F
       by_cases c174 : (b2.toNat : Int) = 91
       · replace T := T.1 c174
         obtain ⟨p175, p176, p177, p178, p179, rfl⟩ := T
         exact fi (aa (eq_true c174) <| aa p175.wrap <| aa p176 <| aa p177 <| aa p178 <| aa p179 <| F)
       · replace T := T.2 c174
         replace F := aa (eq_false c174) <| F
         by_cases c180 : (b2.toNat : Int) = 93
         · replace T := T.1 c180
           obtain ⟨p181, p182, p183, p184, p185, rfl⟩ := T
           exact fi (aa (eq_true c180) <| aa p181.wrap <| aa p182 <| aa p183 <| aa p184 <| aa p185 <| F)
         · replace T := T.2 c180
           replace F := aa (eq_false c180) <| F
           by_cases c186 : (b2.toNat : Int) = 40
           · replace T := T.1 c186
             obtain ⟨p187, p188, p189, p190, p191, rfl⟩ := T
             exact fi (aa (eq_true c186) <| aa p187.wrap <| aa p188 <| aa p189 <| aa p190 <| aa p191 <| F)
           · replace T := T.2 c186
             replace F := aa (eq_false c186) <| F
             by_cases c192 : (b2.toNat : Int) = 41
             · replace T := T.1 c192
               obtain ⟨p193, p194, p195, p196, p197, rfl⟩ := T
               exact fi (aa (eq_true c192) <| aa p193.wrap <| aa p194 <| aa p195 <| aa p196 <| aa p197 <| F)
             · replace T := T.2 c192
               replace F := aa (eq_false c192) <| F
               by_cases c198 : (b2.toNat : Int) = 61
               · replace T := T.1 c198
                 obtain ⟨p199, p200, p201, p202, p203, rfl⟩ := T
                 exact fi (aa (eq_true c198) <| aa p199.wrap <| aa p200 <| aa p201 <| aa p202 <| aa p203 <| F)
               · replace T := T.2 c198
                 replace F := aa (eq_false c198) <| F
                 by_cases c204 : (b2.toNat : Int) = 44
                 · replace T := T.1 c204
                   obtain ⟨p205, p206, p207, p208, p209, rfl⟩ := T
                   exact fi (aa (eq_true c204) <| aa p205.wrap <| aa p206 <| aa p207 <| aa p208 <| aa p209 <| F)
                 · replace T := T.2 c204
                   replace F := aa (eq_false c204) <| F
                   by_cases c210 : (b2.toNat : Int) = 46
                   · replace T := T.1 c210
                     obtain ⟨p211, p212, p213, p214, p215, rfl⟩ := T
                     exact fi (aa (eq_true c210) <| aa p211.wrap <| aa p212 <| aa p213 <| aa p214 <| aa p215 <| F)
                   · replace T := T.2 c210
                     replace F := aa (eq_false c210) <| F
                     by_cases c216 : (b2.toNat : Int) = 43
                     · replace T := T.1 c216
                       obtain ⟨p217, p218, p219, p220, p221, rfl⟩ := T
                       exact fi (aa (eq_true c216) <| aa p217.wrap <| aa p218 <| aa p219 <| aa p220 <| aa p221 <| F)
                     · replace T := T.2 c216
                       replace F := aa (eq_false c216) <| F
                       by_cases c222 : (b2.toNat : Int) = 45
                       · replace T := T.1 c222
                         obtain ⟨p223, p224, p225, p226, p227, rfl⟩ := T
                         exact fi (aa (eq_true c222) <| aa p223.wrap <| aa p224 <| aa p225 <| aa p226 <| aa p227 <| F)
                       · replace T := T.2 c222
                         replace F := aa (eq_false c222) <| F
                         by_cases c228 : (b2.toNat : Int) = 42
                         · replace T := T.1 c228
                           obtain ⟨p229, p230, p231, p232, p233, rfl⟩ := T
                           exact fi (aa (eq_true c228) <| aa p229.wrap <| aa p230 <| aa p231 <| aa p232 <| aa p233 <| F)
                         · replace T := T.2 c228
                           replace F := aa (eq_false c228) <| F
                           by_cases c234 : (b2.toNat : Int) = 47
                           · replace T := T.1 c234
                             obtain ⟨p235, p236, p237, p238, p239, rfl⟩ := T
                             exact fi (aa (eq_true c234) <| aa p235.wrap <| aa p236 <| aa p237 <| aa p238 <| aa p239 <| F)
                           · replace T := T.2 c234
                             replace F := aa (eq_false c234) <| F
                             by_cases c240 : (b2.toNat : Int) = 37
                             · replace T := T.1 c240
                               obtain ⟨p241, p242, p243, p244, p245, rfl⟩ := T
                               exact fi (aa (eq_true c240) <| aa p241.wrap <| aa p242 <| aa p243 <| aa p244 <| aa p245 <| F)
                             · replace T := T.2 c240
                               replace F := aa (eq_false c240) <| F
                               by_cases c246 : (b2.toNat : Int) = 60
                               · replace T := T.1 c246
                                 obtain ⟨p247, p248, p249, p250, p251, rfl⟩ := T
                                 exact fi (aa (eq_true c246) <| aa p247.wrap <| aa p248 <| aa p249 <| aa p250 <| aa p251 <| F)
                               · replace T := T.2 c246
                                 replace F := aa (eq_false c246) <| F
                                 by_cases c252 : (b2.toNat : Int) = 62
                                 · replace T := T.1 c252
                                   obtain ⟨p253, p254, p255, p256, p257, rfl⟩ := T
                                   exact fi (aa (eq_true c252) <| aa p253.wrap <| aa p254 <| aa p255 <| aa p256 <| aa p257 <| F)
                                 · replace T := T.2 c252
                                   replace F := aa (eq_false c252) <| F
                                   by_cases c258 : (b2.toNat : Int) = 33
                                   · replace T := T.1 c258
                                     obtain ⟨p259, p260, p261, p262, p263, rfl⟩ := T
                                     exact fi (aa (eq_true c258) <| aa p259.wrap <| aa p260 <| aa p261 <| aa p262 <| aa p263 <| F)
                                   · replace T := T.2 c258
                                     replace F := aa (eq_false c258) <| F
                                     by_cases c264 : (b2.toNat : Int) = 63
                                     · replace T := T.1 c264
                                       obtain ⟨p265, p266, p267, p268, p269, rfl⟩ := T
                                       exact fi (aa (eq_true c264) <| aa p265.wrap <| aa p266 <| aa p267 <| aa p268 <| aa p269 <| F)
                                     · replace T := T.2 c264
                                       replace F := aa (eq_false c264) <| F
                                       by_cases c270 : (b2.toNat : Int) = 58
                                       · replace T := T.1 c270
                                         obtain ⟨p271, p272, p273, p274, p275, rfl⟩ := T
                                         exact fi (aa (eq_true c270) <| aa p271.wrap <| aa p272 <| aa p273 <| aa p274 <| aa p275 <| F)
                                       · replace T := T.2 c270
                                         obtain rfl := T
                                         exact fi (aa (eq_false c270) <| F)
theorem sp_ref1_number : SP 33 = some (.code sc_ref1_number) := SPof_code rfl Tryd.func33 comp_ref1_number
/-! doorkeeper/doorkeeperref1.number -/
def At_ref1_number_1 (s : List UInt8) (i : Int) (i1 : Int) (i2 : Int) (i3 : Int) (s4 : List UInt8) (i5 : Int) (i6 : Int) (l7 : List Tokens) (g8 : Nat) (ra : Token) (rb : Int) : Prop := ∀ (S : Sto) (e : Nat → PV) (f : Fr), e 0 = .str s ∧ e 1 = .int .i64 i ∧ e 4 = .ptr 0 4 0 ∧ e 6 = .int .i64 i1 ∧ e 7 = .int .i64 i2 ∧ f.box 4 = some [.int .i64 i3, .str s4, .int .i64 i5, .sl 0 (.cell 4 3) 0 l7.length l7.length g8 false, .int .i64 i6] ∧ f.arr (.cell 4 3) = some ⟨2, l7.map eTokens, false, g8⟩ → k_ref1_number_1 SP (E SP (.loop b_ref1_number_1) ⟨e, f :: S⟩) = .ok (.v (.tup [.agg [.int .i64 ra.Kind, .str ra.Text, .int .i64 ra.Num, .list 2 (ra.Parts.map ePart) false, .int .i64 ra.At], .int .i64 rb])) S
set_option maxHeartbeats 4000000 in
theorem At_ref1_number_1_step (s : List UInt8) (i : Int) (i1 : Int) (i2 : Int) (i3 : Int) (s4 : List UInt8) (i5 : Int) (i6 : Int) (l7 : List Tokens) (g8 : Nat) (ra : Token) (rb : Int) (T :
  ((i2 < (s.length : Int)) →
  (0 ≤ i2) ∧
  ∃ (b9 : UInt8), (s[i2.toNat]? = some b9) ∧
  ∃ (r10 : Bool), (R_ref1_digit b9 r10) ∧
  ((r10 = true) →
   (U8 ((b9.toNat : Int) - 48)) ∧
   (I64 (((b9.toNat : Int) - 48))) ∧
   (I64 (9223372036854775807 - ((b9.toNat : Int) - 48))) ∧
   (I64 ((9223372036854775807 - ((b9.toNat : Int) - 48)).tdiv 10)) ∧
   ((((9223372036854775807 - ((b9.toNat : Int) - 48)).tdiv 10) < i1) →
    (Token.mk 0 [] 0 [] 0) = ra ∧ 0 = rb) ∧
   (¬ (((9223372036854775807 - ((b9.toNat : Int) - 48)).tdiv 10) < i1) →
    ((i < i2) →
     ((i1 = 0) →
      (Token.mk 0 [] 0 [] 0) = ra ∧ 0 = rb) ∧
     (¬ (i1 = 0) →
      (I64 (10 * i1)) ∧
      (I64 ((10 * i1) + ((b9.toNat : Int) - 48))) ∧
      (I64 (i2 + 1)) ∧
      At_ref1_number_1 s i ((10 * i1) + ((b9.toNat : Int) - 48)) (i2 + 1) i3 s4 i5 i6 l7 g8 ra rb)) ∧
    (¬ (i < i2) →
     (I64 (10 * i1)) ∧
     (I64 ((10 * i1) + ((b9.toNat : Int) - 48))) ∧
     (I64 (i2 + 1)) ∧
     At_ref1_number_1 s i ((10 * i1) + ((b9.toNat : Int) - 48)) (i2 + 1) i3 s4 i5 i6 l7 g8 ra rb))) ∧
  (¬ (r10 = true) →
   (I64 (i2 - i)) ∧
   (Token.mk 1 [] i1 [] i) = ra ∧ (i2 - i) = rb)) ∧
 (¬ (i2 < (s.length : Int)) →
  (I64 (i2 - i)) ∧
  (Token.mk 1 [] i1 [] i) = ra ∧ (i2 - i) = rb)) : At_ref1_number_1 s i i1 i2 i3 s4 i5 i6 l7 g8 ra rb := by
 intro S e f h
 unfold k_ref1_number_1
 rw [E_loop]
 have F := U_ref1_number
 replace F := aa h <| F
 by_cases c1 : i2 < (s.length : Int)
 · replace T := T.1 c1
   obtain ⟨p2, b9, q3, r10, q4, T⟩ := T
   simp only [R_ref1_digit, le, List.cons_append, List.nil_append] at q4
   replace F := aa (eq_true c1) <| aa p2 <| aa q3 <| aa q4 <| F
   by_cases c5 : r10 = true
   · replace T := T.1 c5
     obtain ⟨p6, p7, p8, p9, T⟩ := T
     replace F := aa c5 <| aa p6.wrap <| aa p7.wrap <| aa p8.wrap <| aa p9.wrap <| F
     by_cases c10 : ((9223372036854775807 - ((b9.toNat : Int) - 48)).tdiv 10) < i1
     · replace T := T.1 c10
       obtain ⟨rfl, rfl⟩ := T
       exact fi (aa (eq_true c10) <| F)
     · replace T := T.2 c10
       replace F := aa (eq_false c10) <| F
       by_cases c11 : i < i2
       · replace T := T.1 c11
         replace F := aa (eq_true c11) <| F
         by_cases c12 : i1 = 0
         · replace T := T.1 c12
           obtain ⟨rfl, rfl⟩ := T
           exact fi (aa (eq_true c12) <| F)
         · replace T := T.2 c12
           obtain ⟨p13, p14, p15, T⟩ := T
           replace F := aa (eq_false c12) <| aa p13.wrap <| aa p14.wrap <| aa p15.wrap <| F
           try simp only [F, lw, lx, le, Nat.reduceMul, UInt8.reduceToNat, reduceIte, reduceCtorEq, Nat.reduceEqDiff, Nat.reduceAdd, Nat.reduceLeDiff, Nat.reduceSub, Nat.reduceLT, Int.reduceEq, Int.reduceLT, Int.reduceLE, Int.reduceToNat, Int.reduceAdd, Int.reduceSub, Int.reduceMul, Int.reduceNeg]
           refine T S _ _ ?_
           exact fi F
       · replace T := T.2 c11
         obtain ⟨p16, p17, p18, T⟩ := T
         replace F := aa (eq_false c11) <| aa p16.wrap <| aa p17.wrap <| aa p18.wrap <| F
         try simp only [F, lw, lx, le, Nat.reduceMul, UInt8.reduceToNat, reduceIte, reduceCtorEq, Nat.reduceEqDiff, Nat.reduceAdd, Nat.reduceLeDiff, Nat.reduceSub, Nat.reduceLT, Int.reduceEq, Int.reduceLT, Int.reduceLE, Int.reduceToNat, Int.reduceAdd, Int.reduceSub, Int.reduceMul, Int.reduceNeg]
         refine T S _ _ ?_
         exact fi F
   · replace T := T.2 c5
     replace c5 := Bool.eq_false_iff.2 c5
     obtain ⟨p19, rfl, rfl⟩ := T
     exact fi (aa c5 <| aa p19.wrap <| F)
 · replace T := T.2 c1
   obtain ⟨p20, rfl, rfl⟩ := T
   exact fi (aa (eq_false c1) <| aa p20.wrap <| F)
set_option maxHeartbeats 4000000 in
theorem ref1_number_tree (s : List UInt8) (i : Int) (ra : Token) (rb : Int) (T :
  At_ref1_number_1 s i 0 i 0 [] 0 0 [] 0 ra rb) : R_ref1_number s i ra rb := by
 intro S
 rw [call_code sp_ref1_number _ _ rfl]
 have F := U_ref1_number
 try simp only [F, lw, lx, le, Nat.reduceMul, UInt8.reduceToNat, reduceIte, reduceCtorEq, Nat.reduceEqDiff, Nat.reduceAdd, Nat.reduceLeDiff, Nat.reduceSub, Nat.reduceLT, Int.reduceEq, Int.reduceLT, Int.reduceLE, Int.reduceToNat, Int.reduceAdd, Int.reduceSub, Int.reduceMul, Int.reduceNeg]
 refine T S _ _ ?_
 exact fi F
theorem sp_ref1_reference : SP 49 = some (.code sc_ref1_reference) := SPof_code rfl Tryd.func49 comp_ref1_reference
/-! doorkeeper/doorkeeperref1.reference -/
set_option maxHeartbeats 4000000 in
theorem ref1_reference_tree (s : List UInt8) (i : Int) (r : Int) (T :
  (I64 (i + 2)) ∧
 ∃ (r1 : Int), (R_ref1_nameEnd s (i + 2) r1) ∧
 (I64 (i + 2)) ∧
 ((r1 = (i + 2)) →
  0 = r) ∧
 (¬ (r1 = (i + 2)) →
  (((s.length : Int) ≤ r1) →
   0 = r) ∧
  (¬ ((s.length : Int) ≤ r1) →
   (0 ≤ r1) ∧
   ∃ (b2 : UInt8), (s[r1.toNat]? = some b2) ∧
   (((b2.toNat : Int) = 46) →
    (I64 (r1 + 1)) ∧
    ∃ (r3 : Int), (R_ref1_nameEnd s (r1 + 1) r3) ∧
    (I64 (r1 + 1)) ∧
    ((r3 = (r1 + 1)) →
     0 = r) ∧
    (¬ (r3 = (r1 + 1)) →
     (((s.length : Int) ≤ r3) →
      0 = r) ∧
     (¬ ((s.length : Int) ≤ r3) →
      (0 ≤ r3) ∧
      ∃ (b4 : UInt8), (s[r3.toNat]? = some b4) ∧
      (((b4.toNat : Int) = 125) →
       (I64 (i + 2)) ∧
       (0 ≤ (i + 2)) ∧ (0 ≤ r3) ∧ ((i + 2).toNat ≤ r3.toNat) ∧ (r3.toNat ≤ s.length) ∧
       ∃ (r5 : Bool), (R_ref1_Dotted ((s.drop ((i + 2).toNat)).take (r3.toNat - ((i + 2).toNat))) r5) ∧
       ((r5 = true) →
        (I64 (r3 + 1)) ∧
        (I64 ((r3 + 1) - i)) ∧
        ((r3 + 1) - i) = r) ∧
       (¬ (r5 = true) →
        0 = r)) ∧
      (¬ ((b4.toNat : Int) = 125) →
       0 = r)))) ∧
   (¬ ((b2.toNat : Int) = 46) →
    0 = r)))) : R_ref1_reference s i r := by
 intro S
 rw [call_code sp_ref1_reference _ _ rfl]
 have F := U_ref1_reference
 obtain ⟨p1, r1, q2, p3, T⟩ := T
 simp only [R_ref1_nameEnd, le, List.cons_append, List.nil_append] at q2
 replace F := aa p1.wrap <| aa q2 <| aa p3.wrap <| F
 by_cases c4 : r1 = (i + 2)
 · replace T := T.1 c4
   obtain rfl := T
   exact fi (aa (eq_true c4) <| F)
 · replace T := T.2 c4
   replace F := aa (eq_false c4) <| F
   by_cases c5 : (s.length : Int) ≤ r1
   · replace T := T.1 c5
     obtain rfl := T
     exact fi (aa (eq_true c5) <| F)
   · replace T := T.2 c5
     obtain ⟨p6, b2, q7, T⟩ := T
     replace F := aa (eq_false c5) <| aa p6 <| aa q7 <| F
     by_cases c8 : (b2.toNat : Int) = 46
     · replace T := T.1 c8
       obtain ⟨p9, r3, q10, p11, T⟩ := T
       simp only [R_ref1_nameEnd, le, List.cons_append, List.nil_append] at q10
       replace F := aa (eq_true c8) <| aa p9.wrap <| aa q10 <| aa p11.wrap <| F
       by_cases c12 : r3 = (r1 + 1)
       · replace T := T.1 c12
         obtain rfl := T
         exact fi (aa (eq_true c12) <| F)
       · replace T := T.2 c12
         replace F := aa (eq_false c12) <| F
         by_cases c13 : (s.length : Int) ≤ r3
         · replace T := T.1 c13
           obtain rfl := T
           exact fi (aa (eq_true c13) <| F)
         · replace T := T.2 c13
           obtain ⟨p14, b4, q15, T⟩ := T
           replace F := aa (eq_false c13) <| aa p14 <| aa q15 <| F
           by_cases c16 : (b4.toNat : Int) = 125
           · replace T := T.1 c16
             obtain ⟨p17, p18, p19, p20, p21, r5, q22, T⟩ := T
             simp only [R_ref1_Dotted, le, List.cons_append, List.nil_append] at q22
             replace F := aa (eq_true c16) <| aa p17.wrap <| aa p18 <| aa p19 <| aa p20 <| aa p21 <| aa q22 <| F
             by_cases c23 : r5 = true
             · replace T := T.1 c23
               obtain ⟨p24, p25, rfl⟩ := T
               exact fi (aa c23 <| aa p24.wrap <| aa p25.wrap <| F)
             · replace T := T.2 c23
               replace c23 := Bool.eq_false_iff.2 c23
               obtain rfl := T
               exact fi (aa c23 <| F)
           · replace T := T.2 c16
             obtain rfl := T
             exact fi (aa (eq_false c16) <| F)
     · replace T := T.2 c8
       obtain rfl := T
       exact fi (aa (eq_false c8) <| F)
theorem sp_ref1_text : SP 34 = some (.code sc_ref1_text) := SPof_code rfl Tryd.func34 comp_ref1_text
/-! doorkeeper/doorkeeperref1.text -/
def At_ref1_text_1 (s : List UInt8) (i : Int) (i1 : Int) (i2 : Int) (s3 : List UInt8) (i4 : Int) (i5 : Int) (l6 : List Part) (g7 : Nat) (l8 : List Part) (l9 : List UInt8) (ra : Token) (rb : Int) : Prop := ∀ (S : Sto) (e : Nat → PV) (f : Fr), e 0 = .str s ∧ e 1 = .int .i64 i ∧ e 4 = .ptr 0 4 0 ∧ e 6 = .sl 0 (.slot 6) 0 l8.length l8.length 0 false ∧ e 7 = .sl 0 (.slot 7) 0 l9.length l9.length 0 false ∧ e 8 = .int .i64 i1 ∧ f.box 4 = some [.int .i64 i2, .str s3, .int .i64 i4, .sl 0 (.cell 4 3) 0 l6.length l6.length g7 false, .int .i64 i5] ∧ f.arr (.cell 4 3) = some ⟨2, l6.map ePart, false, g7⟩ ∧ f.arr (.slot 6) = some ⟨2, l8.map ePart, false, 0⟩ ∧ f.arr (.slot 7) = some ⟨1, l9.map eB, false, 0⟩ → k_ref1_text_1 SP (E SP (.loop b_ref1_text_1) ⟨e, f :: S⟩) = .ok (.v (.tup [.agg [.int .i64 ra.Kind, .str ra.Text, .int .i64 ra.Num, .list 2 (ra.Parts.map ePart) false, .int .i64 ra.At], .int .i64 rb])) S
set_option maxHeartbeats 4000000 in
theorem At_ref1_text_1_step (s : List UInt8) (i : Int) (i1 : Int) (i2 : Int) (s3 : List UInt8) (i4 : Int) (i5 : Int) (l6 : List Part) (g7 : Nat) (l8 : List Part) (l9 : List UInt8) (ra : Token) (rb : Int) (T :
  ((i1 < (s.length : Int)) →
  (0 ≤ i1) ∧
  ∃ (b10 : UInt8), (s[i1.toNat]? = some b10) ∧
  (((b10.toNat : Int) = 34) →
   ((0 < (l9.length : Int)) →
    (bigRow (l8.length + 1) 24) ∧
    (I64 (i1 + 1)) ∧
    (I64 ((i1 + 1) - i)) ∧
    (Token.mk 2 [] 0 (l8 ++ [(Part.mk false l9)]) i) = ra ∧ ((i1 + 1) - i) = rb) ∧
   (¬ (0 < (l9.length : Int)) →
    (I64 (i1 + 1)) ∧
    (I64 ((i1 + 1) - i)) ∧
    (Token.mk 2 [] 0 l8 i) = ra ∧ ((i1 + 1) - i) = rb)) ∧
  (¬ ((b10.toNat : Int) = 34) →
   (((b10.toNat : Int) < 32) →
    (Token.mk 0 [] 0 [] 0) = ra ∧ 0 = rb) ∧
   (¬ ((b10.toNat : Int) < 32) →
    (((b10.toNat : Int) = 92) →
     (I64 (i1 + 1)) ∧
     (((s.length : Int) ≤ (i1 + 1)) →
      (Token.mk 0 [] 0 [] 0) = ra ∧ 0 = rb) ∧
     (¬ ((s.length : Int) ≤ (i1 + 1)) →
      (0 ≤ (i1 + 1)) ∧
      ∃ (b11 : UInt8), (s[(i1 + 1).toNat]? = some b11) ∧
      (((b11.toNat : Int) = 34) →
       (bigRow (l9.length + 1) 1) ∧
       (I64 ((i1 + 1) + 1)) ∧
       At_ref1_text_1 s i ((i1 + 1) + 1) i2 s3 i4 i5 l6 g7 l8 (l9 ++ [b11]) ra rb) ∧
      (¬ ((b11.toNat : Int) = 34) →
       (((b11.toNat : Int) = 92) →
        (bigRow (l9.length + 1) 1) ∧
        (I64 ((i1 + 1) + 1)) ∧
        At_ref1_text_1 s i ((i1 + 1) + 1) i2 s3 i4 i5 l6 g7 l8 (l9 ++ [b11]) ra rb) ∧
       (¬ ((b11.toNat : Int) = 92) →
        (((b11.toNat : Int) = 36) →
         (bigRow (l9.length + 1) 1) ∧
         (I64 ((i1 + 1) + 1)) ∧
         At_ref1_text_1 s i ((i1 + 1) + 1) i2 s3 i4 i5 l6 g7 l8 (l9 ++ [b11]) ra rb) ∧
        (¬ ((b11.toNat : Int) = 36) →
         (((b11.toNat : Int) = 110) →
          (bigRow (l9.length + 1) 1) ∧
          (I64 ((i1 + 1) + 1)) ∧
          At_ref1_text_1 s i ((i1 + 1) + 1) i2 s3 i4 i5 l6 g7 l8 (l9 ++ [(10 : UInt8)]) ra rb) ∧
         (¬ ((b11.toNat : Int) = 110) →
          (Token.mk 0 [] 0 [] 0) = ra ∧ 0 = rb)))))) ∧
    (¬ ((b10.toNat : Int) = 92) →
     (((b10.toNat : Int) = 36) →
      (I64 (i1 + 1)) ∧
      (((i1 + 1) < (s.length : Int)) →
       (I64 (i1 + 1)) ∧
       (0 ≤ (i1 + 1)) ∧
       ∃ (b12 : UInt8), (s[(i1 + 1).toNat]? = some b12) ∧
       (((b12.toNat : Int) = 123) →
        ∃ (r13 : Int), (R_ref1_reference s i1 r13) ∧
        ((r13 = 0) →
         (Token.mk 0 [] 0 [] 0) = ra ∧ 0 = rb) ∧
        (¬ (r13 = 0) →
         ((0 < (l9.length : Int)) →
          (bigRow (l8.length + 1) 24) ∧
          (I64 (i1 + 2)) ∧
          (I64 (i1 + r13)) ∧
          (I64 ((i1 + r13) - 1)) ∧
          (0 ≤ (i1 + 2)) ∧ (0 ≤ ((i1 + r13) - 1)) ∧ ((i1 + 2).toNat ≤ ((i1 + r13) - 1).toNat) ∧ (((i1 + r13) - 1).toNat ≤ s.length) ∧
          (bigRow (l8.length + 2) 24) ∧
          (I64 (i1 + r13)) ∧
          (I64 ((i1 + r13) - 1)) ∧
          (I64 (((i1 + r13) - 1) + 1)) ∧
          At_ref1_text_1 s i (((i1 + r13) - 1) + 1) i2 s3 i4 i5 l6 g7 (l8 ++ [(Part.mk false l9), (Part.mk true ((s.drop ((i1 + 2).toNat)).take (((i1 + r13) - 1).toNat - ((i1 + 2).toNat))))]) [] ra rb) ∧
         (¬ (0 < (l9.length : Int)) →
          (I64 (i1 + 2)) ∧
          (I64 (i1 + r13)) ∧
          (I64 ((i1 + r13) - 1)) ∧
          (0 ≤ (i1 + 2)) ∧ (0 ≤ ((i1 + r13) - 1)) ∧ ((i1 + 2).toNat ≤ ((i1 + r13) - 1).toNat) ∧ (((i1 + r13) - 1).toNat ≤ s.length) ∧
          (bigRow (l8.length + 1) 24) ∧
          (I64 (i1 + r13)) ∧
          (I64 ((i1 + r13) - 1)) ∧
          (I64 (((i1 + r13) - 1) + 1)) ∧
          At_ref1_text_1 s i (((i1 + r13) - 1) + 1) i2 s3 i4 i5 l6 g7 (l8 ++ [(Part.mk true ((s.drop ((i1 + 2).toNat)).take (((i1 + r13) - 1).toNat - ((i1 + 2).toNat))))]) l9 ra rb))) ∧
       (¬ ((b12.toNat : Int) = 123) →
        (bigRow (l9.length + 1) 1) ∧
        (I64 (i1 + 1)) ∧
        At_ref1_text_1 s i (i1 + 1) i2 s3 i4 i5 l6 g7 l8 (l9 ++ [b10]) ra rb)) ∧
      (¬ ((i1 + 1) < (s.length : Int)) →
       (bigRow (l9.length + 1) 1) ∧
       (I64 (i1 + 1)) ∧
       At_ref1_text_1 s i (i1 + 1) i2 s3 i4 i5 l6 g7 l8 (l9 ++ [b10]) ra rb)) ∧
     (¬ ((b10.toNat : Int) = 36) →
      (bigRow (l9.length + 1) 1) ∧
      (I64 (i1 + 1)) ∧
      At_ref1_text_1 s i (i1 + 1) i2 s3 i4 i5 l6 g7 l8 (l9 ++ [b10]) ra rb))))) ∧
 (¬ (i1 < (s.length : Int)) →
  (Token.mk 0 [] 0 [] 0) = ra ∧ 0 = rb)) : At_ref1_text_1 s i i1 i2 s3 i4 i5 l6 g7 l8 l9 ra rb := by
 intro S e f h
 unfold k_ref1_text_1
 rw [E_loop]
 have F := U_ref1_text
 replace F := aa h <| F
 by_cases c1 : i1 < (s.length : Int)
 · replace T := T.1 c1
   obtain ⟨p2, b10, q3, T⟩ := T
   replace F := aa (eq_true c1) <| aa p2 <| aa q3 <| F
   by_cases c4 : (b10.toNat : Int) = 34
   · replace T := T.1 c4
     replace F := aa (eq_true c4) <| F
     by_cases c5 : 0 < (l9.length : Int)
     · replace T := T.1 c5
       obtain ⟨p6, p7, p8, rfl, rfl⟩ := T
       simp only [bigRow] at p6
       exact fi (aa (eq_true c5) <| aa p6 <| aa p7.wrap <| aa p8.wrap <| F)
     · replace T := T.2 c5
       obtain ⟨p9, p10, rfl, rfl⟩ := T
       exact fi (aa (eq_false c5) <| aa p9.wrap <| aa p10.wrap <| F)
   · replace T := T.2 c4
     replace F := aa (eq_false c4) <| F
     by_cases c11 : (b10.toNat : Int) < 32
     · replace T := T.1 c11
       obtain ⟨rfl, rfl⟩ := T
       exact fi (aa (eq_true c11) <| F)
     · replace T := T.2 c11
       replace F := aa (eq_false c11) <| F
       by_cases c12 : (b10.toNat : Int) = 92
       · replace T := T.1 c12
         obtain ⟨p13, T⟩ := T
         replace F := aa (eq_true c12) <| aa p13.wrap <| F
         by_cases c14 : (s.length : Int) ≤ (i1 + 1)
         · replace T := T.1 c14
           obtain ⟨rfl, rfl⟩ := T
           exact fi (aa (eq_true c14) <| F)
         · replace T := T.2 c14
           obtain ⟨p15, b11, q16, T⟩ := T
           replace F := aa (eq_false c14) <| aa p15 <| aa q16 <| F
           by_cases c17 : (b11.toNat : Int) = 34
           · replace T := T.1 c17
             obtain ⟨p18, p19, T⟩ := T
             simp only [bigRow] at p18
             replace F := aa (eq_true c17) <| aa p18 <| aa p19.wrap <| F
             try simp only [F, lw, lx, le, Nat.reduceMul, UInt8.reduceToNat, reduceIte, reduceCtorEq, Nat.reduceEqDiff, Nat.reduceAdd, Nat.reduceLeDiff, Nat.reduceSub, Nat.reduceLT, Int.reduceEq, Int.reduceLT, Int.reduceLE, Int.reduceToNat, Int.reduceAdd, Int.reduceSub, Int.reduceMul, Int.reduceNeg]
             refine T S _ _ ?_
             exact fi F
           · replace T := T.2 c17
             replace F := aa (eq_false c17) <| F
             by_cases c20 : (b11.toNat : Int) = 92
             · replace T := T.1 c20
               obtain ⟨p21, p22, T⟩ := T
               simp only [bigRow] at p21
               replace F := aa (eq_true c20) <| aa p21 <| aa p22.wrap <| F
               try simp only [F, lw, lx, le, Nat.reduceMul, UInt8.reduceToNat, reduceIte, reduceCtorEq, Nat.reduceEqDiff, Nat.reduceAdd, Nat.reduceLeDiff, Nat.reduceSub, Nat.reduceLT, Int.reduceEq, Int.reduceLT, Int.reduceLE, Int.reduceToNat, Int.reduceAdd, Int.reduceSub, Int.reduceMul, Int.reduceNeg]
               refine T S _ _ ?_
               exact fi F
             · replace T := T.2 c20
               replace F := aa (eq_false c20) <| F
               by_cases c23 : (b11.toNat : Int) = 36
               · replace T := T.1 c23
                 obtain ⟨p24, p25, T⟩ := T
                 simp only [bigRow] at p24
                 replace F := aa (eq_true c23) <| aa p24 <| aa p25.wrap <| F
                 try simp only [F, lw, lx, le, Nat.reduceMul, UInt8.reduceToNat, reduceIte, reduceCtorEq, Nat.reduceEqDiff, Nat.reduceAdd, Nat.reduceLeDiff, Nat.reduceSub, Nat.reduceLT, Int.reduceEq, Int.reduceLT, Int.reduceLE, Int.reduceToNat, Int.reduceAdd, Int.reduceSub, Int.reduceMul, Int.reduceNeg]
                 refine T S _ _ ?_
                 exact fi F
               · replace T := T.2 c23
                 replace F := aa (eq_false c23) <| F
                 by_cases c26 : (b11.toNat : Int) = 110
                 · replace T := T.1 c26
                   obtain ⟨p27, p28, T⟩ := T
                   simp only [bigRow] at p27
                   replace F := aa (eq_true c26) <| aa p27 <| aa p28.wrap <| F
                   try simp only [F, lw, lx, le, Nat.reduceMul, UInt8.reduceToNat, reduceIte, reduceCtorEq, Nat.reduceEqDiff, Nat.reduceAdd, Nat.reduceLeDiff, Nat.reduceSub, Nat.reduceLT, Int.reduceEq, Int.reduceLT, Int.reduceLE, Int.reduceToNat, Int.reduceAdd, Int.reduceSub, Int.reduceMul, Int.reduceNeg]
                   refine T S _ _ ?_
                   exact fi F
                 · replace T := T.2 c26
                   obtain ⟨rfl, rfl⟩ := T
                   exact fi (aa (eq_false c26) <| F)
       · replace T := T.2 c12
         replace F := aa (eq_false c12) <| F
         by_cases c29 : (b10.toNat : Int) = 36
         · replace T := T.1 c29
           obtain ⟨p30, T⟩ := T
           replace F := aa (eq_true c29) <| aa p30.wrap <| F
           by_cases c31 : (i1 + 1) < (s.length : Int)
           · replace T := T.1 c31
             obtain ⟨p32, p33, b12, q34, T⟩ := T
             replace F := aa (eq_true c31) <| aa p32.wrap <| aa p33 <| aa q34 <| F
             by_cases c35 : (b12.toNat : Int) = 123
             · replace T := T.1 c35
               obtain ⟨r13, q36, T⟩ := T
               simp only [R_ref1_reference, le, List.cons_append, List.nil_append] at q36
               replace F := aa (eq_true c35) <| aa q36 <| F
               by_cases c37 : r13 = 0
               · replace T := T.1 c37
                 obtain ⟨rfl, rfl⟩ := T
                 exact fi (aa (eq_true c37) <| F)
               · replace T := T.2 c37
                 replace F := aa (eq_false c37) <| F
                 by_cases c38 : 0 < (l9.length : Int)
                 · replace T := T.1 c38
                   obtain ⟨p39, p40, p41, p42, p43, p44, p45, p46, p47, p48, p49, p50, T⟩ := T
                   simp only [bigRow] at p39
                   simp only [bigRow] at p47
                   replace F := aa (eq_true c38) <| aa p39 <| aa p40.wrap <| aa p41.wrap <| aa p42.wrap <| aa p43 <| aa p44 <| aa p45 <| aa p46 <| aa p47 <| aa p48.wrap <| aa p49.wrap <| aa p50.wrap <| F
                   try simp only [F, lw, lx, le, Nat.reduceMul, UInt8.reduceToNat, reduceIte, reduceCtorEq, Nat.reduceEqDiff, Nat.reduceAdd, Nat.reduceLeDiff, Nat.reduceSub, Nat.reduceLT, Int.reduceEq, Int.reduceLT, Int.reduceLE, Int.reduceToNat, Int.reduceAdd, Int.reduceSub, Int.reduceMul, Int.reduceNeg]
                   refine T S _ _ ?_
                   exact fi F
                 · replace T := T.2 c38
                   obtain ⟨p51, p52, p53, p54, p55, p56, p57, p58, p59, p60, p61, T⟩ := T
                   simp only [bigRow] at p58
                   replace F := aa (eq_false c38) <| aa p51.wrap <| aa p52.wrap <| aa p53.wrap <| aa p54 <| aa p55 <| aa p56 <| aa p57 <| aa p58 <| aa p59.wrap <| aa p60.wrap <| aa p61.wrap <| F
                   try simp only [F, lw, lx, le, Nat.reduceMul, UInt8.reduceToNat, reduceIte, reduceCtorEq, Nat.reduceEqDiff, Nat.reduceAdd, Nat.reduceLeDiff, Nat.reduceSub, Nat.reduceLT, Int.reduceEq, Int.reduceLT, Int.reduceLE, Int.reduceToNat, Int.reduceAdd, Int.reduceSub, Int.reduceMul, Int.reduceNeg]
                   refine T S _ _ ?_
                   exact fi F
             · replace T := T.2 c35
               obtain ⟨p62, p63, T⟩ := T
               simp only [bigRow] at p62
               replace F := aa (eq_false c35) <| aa p62 <| aa p63.wrap <| F
               try simp only [F, lw, lx, le, Nat.reduceMul, UInt8.reduceToNat, reduceIte, reduceCtorEq, Nat.reduceEqDiff, Nat.reduceAdd, Nat.reduceLeDiff, Nat.reduceSub, Nat.reduceLT, Int.reduceEq, Int.reduceLT, Int.reduceLE, Int.reduceToNat, Int.reduceAdd, Int.reduceSub, Int.reduceMul, Int.reduceNeg]
               refine T S _ _ ?_
               exact fi F
           · replace T := T.2 c31
             obtain ⟨p64, p65, T⟩ := T
             simp only [bigRow] at p64
             replace F := aa (eq_false c31) <| aa p64 <| aa p65.wrap <| F
             try simp only [F, lw, lx, le, Nat.reduceMul, UInt8.reduceToNat, reduceIte, reduceCtorEq, Nat.reduceEqDiff, Nat.reduceAdd, Nat.reduceLeDiff, Nat.reduceSub, Nat.reduceLT, Int.reduceEq, Int.reduceLT, Int.reduceLE, Int.reduceToNat, Int.reduceAdd, Int.reduceSub, Int.reduceMul, Int.reduceNeg]
             refine T S _ _ ?_
             exact fi F
         · replace T := T.2 c29
           obtain ⟨p66, p67, T⟩ := T
           simp only [bigRow] at p66
           replace F := aa (eq_false c29) <| aa p66 <| aa p67.wrap <| F
           try simp only [F, lw, lx, le, Nat.reduceMul, UInt8.reduceToNat, reduceIte, reduceCtorEq, Nat.reduceEqDiff, Nat.reduceAdd, Nat.reduceLeDiff, Nat.reduceSub, Nat.reduceLT, Int.reduceEq, Int.reduceLT, Int.reduceLE, Int.reduceToNat, Int.reduceAdd, Int.reduceSub, Int.reduceMul, Int.reduceNeg]
           refine T S _ _ ?_
           exact fi F
 · replace T := T.2 c1
   obtain ⟨rfl, rfl⟩ := T
   exact fi (aa (eq_false c1) <| F)
set_option maxHeartbeats 4000000 in
theorem ref1_text_tree (s : List UInt8) (i : Int) (ra : Token) (rb : Int) (T :
  (I64 (i + 1)) ∧
 At_ref1_text_1 s i (i + 1) 0 [] 0 0 [] 0 [] [] ra rb) : R_ref1_text s i ra rb := by
 intro S
 rw [call_code sp_ref1_text _ _ rfl]
 have F := U_ref1_text
 obtain ⟨p1, T⟩ := T
 replace F := aa p1.wrap <| F
 try simp only [F, lw, lx, le, Nat.reduceMul, UInt8.reduceToNat, reduceIte, reduceCtorEq, Nat.reduceEqDiff, Nat.reduceAdd, Nat.reduceLeDiff, Nat.reduceSub, Nat.reduceLT, Int.reduceEq, Int.reduceLT, Int.reduceLE, Int.reduceToNat, Int.reduceAdd, Int.reduceSub, Int.reduceMul, Int.reduceNeg]
 refine T S _ _ ?_
 exact fi F
theorem sp_ref1_token : SP 20 = some (.code sc_ref1_token) := SPof_code rfl Tryd.func20 comp_ref1_token
/-! doorkeeper/doorkeeperref1.token -/
set_option maxHeartbeats 4000000 in
theorem ref1_token_tree (s : List UInt8) (i : Int) (ra : Token) (rb : Int) (T :
  (0 ≤ i) ∧
 ∃ (b1 : UInt8), (s[i.toNat]? = some b1) ∧
 ∃ (r2 : Bool), (R_ref1_digit b1 r2) ∧
 ((r2 = true) →
  ∃ (r3 : Token) (r4 : Int), (R_ref1_number s i r3 r4) ∧
  r3 = ra ∧ r4 = rb) ∧
 (¬ (r2 = true) →
  (((b1.toNat : Int) = 34) →
   ∃ (r5 : Token) (r6 : Int), (R_ref1_text s i r5 r6) ∧
   r5 = ra ∧ r6 = rb) ∧
  (¬ ((b1.toNat : Int) = 34) →
   ∃ (r7 : Bool), (R_ref1_begins b1 r7) ∧
   ((r7 = true) →
    ∃ (r8 : Int), (R_ref1_nameEnd s i r8) ∧
    (I64 (r8 - i)) ∧
    ((24 < (r8 - i)) →
     (Token.mk 0 [] 0 [] 0) = ra ∧ 0 = rb) ∧
    (¬ (24 < (r8 - i)) →
     (0 ≤ i) ∧ (0 ≤ r8) ∧ (i.toNat ≤ r8.toNat) ∧ (r8.toNat ≤ s.length) ∧
     (I64 (r8 - i)) ∧
     (Token.mk 3 ((s.drop i.toNat).take (r8.toNat - i.toNat)) 0 [] i) = ra ∧ (r8 - i) = rb)) ∧
   (¬ (r7 = true) →
    ∃ (r9 : List UInt8), (R_ref1_sign s i r9) ∧
    (Token.mk 4 r9 0 [] i) = ra ∧ (r9.length : Int) = rb)))) : R_ref1_token s i ra rb := by
 intro S
 rw [call_code sp_ref1_token _ _ rfl]
 have F := U_ref1_token
 obtain ⟨p1, b1, q2, r2, q3, T⟩ := T
 simp only [R_ref1_digit, le, List.cons_append, List.nil_append] at q3
 replace F := aa p1 <| aa q2 <| aa q3 <| F
 by_cases c4 : r2 = true
 · replace T := T.1 c4
   obtain ⟨r3, r4, q5, rfl, rfl⟩ := T
   simp only [R_ref1_number, le, List.cons_append, List.nil_append] at q5
   exact fi (aa c4 <| aa q5 <| F)
 · replace T := T.2 c4
   replace c4 := Bool.eq_false_iff.2 c4
   replace F := aa c4 <| F
   by_cases c6 : (b1.toNat : Int) = 34
   · replace T := T.1 c6
     obtain ⟨r5, r6, q7, rfl, rfl⟩ := T
     simp only [R_ref1_text, le, List.cons_append, List.nil_append] at q7
     exact fi (aa (eq_true c6) <| aa q7 <| F)
   · replace T := T.2 c6
     obtain ⟨r7, q8, T⟩ := T
     simp only [R_ref1_begins, le, List.cons_append, List.nil_append] at q8
     replace F := aa (eq_false c6) <| aa q8 <| F
     by_cases c9 : r7 = true
     · replace T := T.1 c9
       obtain ⟨r8, q10, p11, T⟩ := T
       simp only [R_ref1_nameEnd, le, List.cons_append, List.nil_append] at q10
       replace F := aa c9 <| aa q10 <| aa p11.wrap <| F
       by_cases c12 : 24 < (r8 - i)
       · replace T := T.1 c12
         obtain ⟨rfl, rfl⟩ := T
         exact fi (aa (eq_true c12) <| F)
       · replace T := T.2 c12
         obtain ⟨p13, p14, p15, p16, p17, rfl, rfl⟩ := T
         exact fi (aa (eq_false c12) <| aa p13 <| aa p14 <| aa p15 <| aa p16 <| aa p17.wrap <| F)
     · replace T := T.2 c9
       replace c9 := Bool.eq_false_iff.2 c9
       obtain ⟨r9, q18, rfl, rfl⟩ := T
       simp only [R_ref1_sign, le, List.cons_append, List.nil_append] at q18
       exact fi (aa c9 <| aa q18 <| F)
theorem sp_ref1_SameParts : SP 14 = some (.code sc_ref1_SameParts) := SPof_code rfl Tryd.func14 comp_ref1_SameParts
/-! doorkeeper/doorkeeperref1.SameParts -/
def At_ref1_SameParts_1 (a : List Part) (b : List Part) (i1 : Int) (r : Bool) : Prop := ∀ (S : Sto) (e : Nat → PV) (f : Fr), e 0 = .list 2 (a.map ePart) false ∧ e 1 = .list 2 (b.map ePart) false ∧ e 5 = .int .i64 i1 → k_ref1_SameParts_1 SP (E SP (.loop b_ref1_SameParts_1) ⟨e, f :: S⟩) = .ok (.v (.bool r)) S
set_option maxHeartbeats 4000000 in
theorem At_ref1_SameParts_1_step (a : List Part) (b : List Part) (i1 : Int) (r : Bool) (T :
  ((i1 < (a.length : Int)) →
  (0 ≤ i1) ∧
  ∃ (v2 : Part), (a[i1.toNat]? = some v2) ∧
  (0 ≤ i1) ∧
  ∃ (v3 : Part), (b[i1.toNat]? = some v3) ∧
  (((v2.Ref = v3.Ref) ∧ (v2.Text = v3.Text)) →
   (I64 (i1 + 1)) ∧
   At_ref1_SameParts_1 a b (i1 + 1) r) ∧
  (¬ ((v2.Ref = v3.Ref) ∧ (v2.Text = v3.Text)) →
   false = r)) ∧
 (¬ (i1 < (a.length : Int)) →
  true = r)) : At_ref1_SameParts_1 a b i1 r := by
 intro S e f h
 unfold k_ref1_SameParts_1
 rw [E_loop]
 have F := U_ref1_SameParts
 replace F := aa h <| F
 by_cases c1 : i1 < (a.length : Int)
 · replace T := T.1 c1
   obtain ⟨p2, v2, q3, p4, v3, q5, T⟩ := T
   replace F := aa (eq_true c1) <| aa p2 <| aa q3 <| aa p4 <| aa q5 <| F
   by_cases c6 : (v2.Ref = v3.Ref) ∧ (v2.Text = v3.Text)
   · replace T := T.1 c6
     obtain ⟨p7, T⟩ := T
     replace F := aa (eq_true c6.1) <| aa (eq_true c6.2) <| aa p7.wrap <| F
     try simp only [F, lw, lx, le, Nat.reduceMul, UInt8.reduceToNat, reduceIte, reduceCtorEq, Nat.reduceEqDiff, Nat.reduceAdd, Nat.reduceLeDiff, Nat.reduceSub, Nat.reduceLT, Int.reduceEq, Int.reduceLT, Int.reduceLE, Int.reduceToNat, Int.reduceAdd, Int.reduceSub, Int.reduceMul, Int.reduceNeg]
     refine T S _ _ ?_
     exact fi F
   · replace T := T.2 c6
     have c6' : (decide (v2.Ref = v3.Ref) && (decide (v2.Text = v3.Text))) = false := by simp only [← Bool.not_eq_true, Bool.and_eq_true, decide_eq_true_eq]; first | exact c6 | simpa using c6
     obtain rfl := T
     exact fi (aa c6' <| F)
 · replace T := T.2 c1
   obtain rfl := T
   exact fi (aa (eq_false c1) <| F)
set_option maxHeartbeats 4000000 in
theorem ref1_SameParts_tree (a : List Part) (b : List Part) (r : Bool) (T :
  (((a.length : Int) = (b.length : Int)) →
  At_ref1_SameParts_1 a b 0 r) ∧
 (¬ ((a.length : Int) = (b.length : Int)) →
  false = r)) : R_ref1_SameParts a b r := by
 intro S
 rw [call_code sp_ref1_SameParts _ _ rfl]
 have F := U_ref1_SameParts
 by_cases c1 : (a.length : Int) = (b.length : Int)
 · replace T := T.1 c1
   replace F := aa (eq_true c1) <| F
   try simp only [F, lw, lx, le, Nat.reduceMul, UInt8.reduceToNat, reduceIte, reduceCtorEq, Nat.reduceEqDiff, Nat.reduceAdd, Nat.reduceLeDiff, Nat.reduceSub, Nat.reduceLT, Int.reduceEq, Int.reduceLT, Int.reduceLE, Int.reduceToNat, Int.reduceAdd, Int.reduceSub, Int.reduceMul, Int.reduceNeg]
   refine T S _ _ ?_
   exact fi F
 · replace T := T.2 c1
   obtain rfl := T
   exact fi (aa (eq_false c1) <| F)
theorem sp_ref1_SameTokens : SP 12 = some (.code sc_ref1_SameTokens) := SPof_code rfl Tryd.func12 comp_ref1_SameTokens
/-! doorkeeper/doorkeeperref1.SameTokens -/
def At_ref1_SameTokens_1 (a : List Token) (b : List Token) (i1 : Int) (r : Bool) : Prop := ∀ (S : Sto) (e : Nat → PV) (f : Fr), e 0 = .list 5 (a.map eToken) false ∧ e 1 = .list 5 (b.map eToken) false ∧ e 5 = .int .i64 i1 → k_ref1_SameTokens_1 SP (E SP (.loop b_ref1_SameTokens_1) ⟨e, f :: S⟩) = .ok (.v (.bool r)) S
set_option maxHeartbeats 4000000 in
theorem At_ref1_SameTokens_1_step (a : List Token) (b : List Token) (i1 : Int) (r : Bool) (T :
  ((i1 < (a.length : Int)) →
  (0 ≤ i1) ∧
  ∃ (v2 : Token), (a[i1.toNat]? = some v2) ∧
  (0 ≤ i1) ∧
  ∃ (v3 : Token), (b[i1.toNat]? = some v3) ∧
  ((v2.Kind = v3.Kind) →
   ((v2.Text = v3.Text) →
    ((v2.Num = v3.Num) →
     ((v2.At = v3.At) →
      ∃ (r4 : Bool), (R_ref1_SameParts v2.Parts v3.Parts r4) ∧
      ((r4 = true) →
       (I64 (i1 + 1)) ∧
       At_ref1_SameTokens_1 a b (i1 + 1) r) ∧
      (¬ (r4 = true) →
       false = r)) ∧
     (¬ (v2.At = v3.At) →
      false = r)) ∧
    (¬ (v2.Num = v3.Num) →
     false = r)) ∧
   (¬ (v2.Text = v3.Text) →
    false = r)) ∧
  (¬ (v2.Kind = v3.Kind) →
   false = r)) ∧
 (¬ (i1 < (a.length : Int)) →
  true = r)) : At_ref1_SameTokens_1 a b i1 r := by
 intro S e f h
 unfold k_ref1_SameTokens_1
 rw [E_loop]
 have F := U_ref1_SameTokens
 replace F := aa h <| F
 by_cases c1 : i1 < (a.length : Int)
 · replace T := T.1 c1
   obtain ⟨p2, v2, q3, p4, v3, q5, T⟩ := T
   replace F := aa (eq_true c1) <| aa p2 <| aa q3 <| aa p4 <| aa q5 <| F
   by_cases c6 : v2.Kind = v3.Kind
   · replace T := T.1 c6
     replace F := aa (eq_true c6) <| F
     by_cases c7 : v2.Text = v3.Text
     · replace T := T.1 c7
       replace F := aa (eq_true c7) <| F
       by_cases c8 : v2.Num = v3.Num
       · replace T := T.1 c8
         replace F := aa (eq_true c8) <| F
         by_cases c9 : v2.At = v3.At
         · replace T := T.1 c9
           obtain ⟨r4, q10, T⟩ := T
           simp only [R_ref1_SameParts, le, List.cons_append, List.nil_append] at q10
           replace F := aa (eq_true c9) <| aa q10 <| F
           by_cases c11 : r4 = true
           · replace T := T.1 c11
             obtain ⟨p12, T⟩ := T
             replace F := aa c11 <| aa p12.wrap <| F
             try simp only [F, lw, lx, le, Nat.reduceMul, UInt8.reduceToNat, reduceIte, reduceCtorEq, Nat.reduceEqDiff, Nat.reduceAdd, Nat.reduceLeDiff, Nat.reduceSub, Nat.reduceLT, Int.reduceEq, Int.reduceLT, Int.reduceLE, Int.reduceToNat, Int.reduceAdd, Int.reduceSub, Int.reduceMul, Int.reduceNeg]
             refine T S _ _ ?_
             exact fi F
           · replace T := T.2 c11
             replace c11 := Bool.eq_false_iff.2 c11
             obtain rfl := T
             exact fi (aa c11 <| F)
         · replace T := T.2 c9
           obtain rfl := T
           exact fi (aa (eq_false c9) <| F)
       · replace T := T.2 c8
         obtain rfl := T
         exact fi (aa (eq_false c8) <| F)
     · replace T := T.2 c7
       obtain rfl := T
       exact fi (aa (eq_false c7) <| F)
   · replace T := T.2 c6
     obtain rfl := T
     exact fi (aa (eq_false c6) <| F)
 · replace T := T.2 c1
   obtain rfl := T
   exact fi (aa (eq_false c1) <| F)
set_option maxHeartbeats 4000000 in
theorem ref1_SameTokens_tree (a : List Token) (b : List Token) (r : Bool) (T :
  (((a.length : Int) = (b.length : Int)) →
  At_ref1_SameTokens_1 a b 0 r) ∧
 (¬ ((a.length : Int) = (b.length : Int)) →
  false = r)) : R_ref1_SameTokens a b r := by
 intro S
 rw [call_code sp_ref1_SameTokens _ _ rfl]
 have F := U_ref1_SameTokens
 by_cases c1 : (a.length : Int) = (b.length : Int)
 · replace T := T.1 c1
   replace F := aa (eq_true c1) <| F
   try simp only [F, lw, lx, le, Nat.reduceMul, UInt8.reduceToNat, reduceIte, reduceCtorEq, Nat.reduceEqDiff, Nat.reduceAdd, Nat.reduceLeDiff, Nat.reduceSub, Nat.reduceLT, Int.reduceEq, Int.reduceLT, Int.reduceLE, Int.reduceToNat, Int.reduceAdd, Int.reduceSub, Int.reduceMul, Int.reduceNeg]
   refine T S _ _ ?_
   exact fi F
 · replace T := T.2 c1
   obtain rfl := T
   exact fi (aa (eq_false c1) <| F)
theorem sp_ref1_Lex : SP 11 = some (.code sc_ref1_Lex) := SPof_code rfl Tryd.func11 comp_ref1_Lex
/-! doorkeeper/doorkeeperref1.Lex -/
def At_ref1_Lex_1 (s : List UInt8) (i1 : Int) (i2 : Int) (l3 : List Token) (g4 : Nat) (l5 : List Token) (r : Tokens) : Prop := ∀ (S : Sto) (e : Nat → PV) (f : Fr), e 0 = .str s ∧ e 2 = .ptr 0 2 0 ∧ e 3 = .sl 0 (.slot 3) 0 l5.length l5.length 0 false ∧ e 4 = .int .i64 i1 ∧ f.box 2 = some [.sl 0 (.cell 2 0) 0 l3.length l3.length g4 false, .int .i64 i2] ∧ f.arr (.cell 2 0) = some ⟨5, l3.map eToken, false, g4⟩ ∧ f.arr (.slot 3) = some ⟨5, l5.map eToken, false, 0⟩ → k_ref1_Lex_1 SP (E SP (.loop b_ref1_Lex_1) ⟨e, f :: S⟩) = .ok (.v (.agg [.list 5 (r.L.map eToken) false, .int .i64 r.E])) S
def At_ref1_Lex_2 (s : List UInt8) (i2 : Int) (l3 : List Token) (g4 : Nat) (l5 : List Token) (i7 : Int) (r : Tokens) : Prop := ∀ (S : Sto) (e : Nat → PV) (f : Fr), e 0 = .str s ∧ e 2 = .ptr 0 2 0 ∧ e 3 = .sl 0 (.slot 3) 0 l5.length l5.length 0 false ∧ e 4 = .int .i64 i7 ∧ f.box 2 = some [.sl 0 (.cell 2 0) 0 l3.length l3.length g4 false, .int .i64 i2] ∧ f.arr (.cell 2 0) = some ⟨5, l3.map eToken, false, g4⟩ ∧ f.arr (.slot 3) = some ⟨5, l5.map eToken, false, 0⟩ → k_ref1_Lex_2 SP (E SP (.loop b_ref1_Lex_2) ⟨e, f :: S⟩) = .ok (.v (.agg [.list 5 (r.L.map eToken) false, .int .i64 r.E])) S
set_option maxHeartbeats 4000000 in
theorem At_ref1_Lex_1_step (s : List UInt8) (i1 : Int) (i2 : Int) (l3 : List Token) (g4 : Nat) (l5 : List Token) (r : Tokens) (T :
  ((i1 < (s.length : Int)) →
  (0 ≤ i1) ∧
  ∃ (b6 : UInt8), (s[i1.toNat]? = some b6) ∧
  (((b6.toNat : Int) = 32) →
   (I64 (i1 + 1)) ∧
   At_ref1_Lex_1 s (i1 + 1) i2 l3 g4 l5 r) ∧
  (¬ ((b6.toNat : Int) = 32) →
   (((b6.toNat : Int) = 10) →
    (I64 (i1 + 1)) ∧
    At_ref1_Lex_1 s (i1 + 1) i2 l3 g4 l5 r) ∧
   (¬ ((b6.toNat : Int) = 10) →
    (((b6.toNat : Int) = 35) →
     At_ref1_Lex_2 s i2 l3 g4 l5 i1 r) ∧
    (¬ ((b6.toNat : Int) = 35) →
     ∃ (r8 : Token) (r9 : Int), (R_ref1_token s i1 r8 r9) ∧
     ((r9 = 0) →
      (Tokens.mk [] 5) = r) ∧
     (¬ (r9 = 0) →
      (bigRow (l5.length + 1) 64) ∧
      (I64 (i1 + r9)) ∧
      At_ref1_Lex_1 s (i1 + r9) i2 l3 g4 (l5 ++ [r8]) r))))) ∧
 (¬ (i1 < (s.length : Int)) →
  (bigRow (l5.length + 1) 64) ∧
  (Tokens.mk (l5 ++ [(Token.mk 0 [] 0 [] (s.length : Int))]) 0) = r)) : At_ref1_Lex_1 s i1 i2 l3 g4 l5 r := by
 intro S e f h
 unfold k_ref1_Lex_1
 rw [E_loop]
 have F := U_ref1_Lex
 replace F := aa h <| F
 by_cases c1 : i1 < (s.length : Int)
 · replace T := T.1 c1
   obtain ⟨p2, b6, q3, T⟩ := T
   replace F := aa (eq_true c1) <| aa p2 <| aa q3 <| F
   by_cases c4 : (b6.toNat : Int) = 32
   · replace T := T.1 c4
     obtain ⟨p5, T⟩ := T
     replace F := aa (eq_true c4) <| aa p5.wrap <| F
     try simp only [F, lw, lx, le, Nat.reduceMul, UInt8.reduceToNat, reduceIte, reduceCtorEq, Nat.reduceEqDiff, Nat.reduceAdd, Nat.reduceLeDiff, Nat.reduceSub, Nat.reduceLT, Int.reduceEq, Int.reduceLT, Int.reduceLE, Int.reduceToNat, Int.reduceAdd, Int.reduceSub, Int.reduceMul, Int.reduceNeg]
     refine T S _ _ ?_
     exact fi F
   · replace T := T.2 c4
     replace F := aa (eq_false c4) <| F
     by_cases c6 : (b6.toNat : Int) = 10
     · replace T := T.1 c6
       obtain ⟨p7, T⟩ := T
       replace F := aa (eq_true c6) <| aa p7.wrap <| F
       try simp only [F, lw, lx, le, Nat.reduceMul, UInt8.reduceToNat, reduceIte, reduceCtorEq, Nat.reduceEqDiff, Nat.reduceAdd, Nat.reduceLeDiff, Nat.reduceSub, Nat.reduceLT, Int.reduceEq, Int.reduceLT, Int.reduceLE, Int.reduceToNat, Int.reduceAdd, Int.reduceSub, Int.reduceMul, Int.reduceNeg]
       refine T S _ _ ?_
       exact fi F
     · replace T := T.2 c6
       replace F := aa (eq_false c6) <| F
       by_cases c8 : (b6.toNat : Int) = 35
       · replace T := T.1 c8
         replace F := aa (eq_true c8) <| F
         try simp only [F, lw, lx, le, Nat.reduceMul, UInt8.reduceToNat, reduceIte, reduceCtorEq, Nat.reduceEqDiff, Nat.reduceAdd, Nat.reduceLeDiff, Nat.reduceSub, Nat.reduceLT, Int.reduceEq, Int.reduceLT, Int.reduceLE, Int.reduceToNat, Int.reduceAdd, Int.reduceSub, Int.reduceMul, Int.reduceNeg]
         refine T S _ _ ?_
         exact fi F
       · replace T := T.2 c8
         obtain ⟨r8, r9, q9, T⟩ := T
         simp only [R_ref1_token, le, List.cons_append, List.nil_append] at q9
         replace F := aa (eq_false c8) <| aa q9 <| F
         by_cases c10 : r9 = 0
         · replace T := T.1 c10
           obtain rfl := T
           exact fi (aa (eq_true c10) <| F)
         · replace T := T.2 c10
           obtain ⟨p11, p12, T⟩ := T
           simp only [bigRow] at p11
           replace F := aa (eq_false c10) <| aa p11 <| aa p12.wrap <| F
           try simp only [F, lw, lx, le, Nat.reduceMul, UInt8.reduceToNat, reduceIte, reduceCtorEq, Nat.reduceEqDiff, Nat.reduceAdd, Nat.reduceLeDiff, Nat.reduceSub, Nat.reduceLT, Int.reduceEq, Int.reduceLT, Int.reduceLE, Int.reduceToNat, Int.reduceAdd, Int.reduceSub, Int.reduceMul, Int.reduceNeg]
           refine T S _ _ ?_
           exact fi F
 · replace T := T.2 c1
   obtain ⟨p13, rfl⟩ := T
   simp only [bigRow] at p13
   exact fi (aa (eq_false c1) <| aa p13 <| F)
set_option maxHeartbeats 4000000 in
theorem At_ref1_Lex_2_step (s : List UInt8) (i2 : Int) (l3 : List Token) (g4 : Nat) (l5 : List Token) (i7 : Int) (r : Tokens) (T :
  ((i7 < (s.length : Int)) →
  (0 ≤ i7) ∧
  ∃ (b10 : UInt8), (s[i7.toNat]? = some b10) ∧
  (((b10.toNat : Int) = 10) →
   At_ref1_Lex_1 s i7 i2 l3 g4 l5 r) ∧
  (¬ ((b10.toNat : Int) = 10) →
   (I64 (i7 + 1)) ∧
   At_ref1_Lex_2 s i2 l3 g4 l5 (i7 + 1) r)) ∧
 (¬ (i7 < (s.length : Int)) →
  At_ref1_Lex_1 s i7 i2 l3 g4 l5 r)) : At_ref1_Lex_2 s i2 l3 g4 l5 i7 r := by
 intro S e f h
 unfold k_ref1_Lex_2
 rw [E_loop]
 have F := U_ref1_Lex
 replace F := aa h <| F
 by_cases c1 : i7 < (s.length : Int)
 · replace T := T.1 c1
   obtain ⟨p2, b10, q3, T⟩ := T
   replace F := aa (eq_true c1) <| aa p2 <| aa q3 <| F
   by_cases c4 : (b10.toNat : Int) = 10
   · replace T := T.1 c4
     replace F := aa (eq_true c4) <| F
     try simp only [F, lw, lx, le, Nat.reduceMul, UInt8.reduceToNat, reduceIte, reduceCtorEq, Nat.reduceEqDiff, Nat.reduceAdd, Nat.reduceLeDiff, Nat.reduceSub, Nat.reduceLT, Int.reduceEq, Int.reduceLT, Int.reduceLE, Int.reduceToNat, Int.reduceAdd, Int.reduceSub, Int.reduceMul, Int.reduceNeg]
     refine T S _ _ ?_
     exact fi F
   · replace T := T.2 c4
     obtain ⟨p5, T⟩ := T
     replace F := aa (eq_false c4) <| aa p5.wrap <| F
     try simp only [F, lw, lx, le, Nat.reduceMul, UInt8.reduceToNat, reduceIte, reduceCtorEq, Nat.reduceEqDiff, Nat.reduceAdd, Nat.reduceLeDiff, Nat.reduceSub, Nat.reduceLT, Int.reduceEq, Int.reduceLT, Int.reduceLE, Int.reduceToNat, Int.reduceAdd, Int.reduceSub, Int.reduceMul, Int.reduceNeg]
     refine T S _ _ ?_
     exact fi F
 · replace T := T.2 c1
   replace F := aa (eq_false c1) <| F
   try simp only [F, lw, lx, le, Nat.reduceMul, UInt8.reduceToNat, reduceIte, reduceCtorEq, Nat.reduceEqDiff, Nat.reduceAdd, Nat.reduceLeDiff, Nat.reduceSub, Nat.reduceLT, Int.reduceEq, Int.reduceLT, Int.reduceLE, Int.reduceToNat, Int.reduceAdd, Int.reduceSub, Int.reduceMul, Int.reduceNeg]
   refine T S _ _ ?_
   exact fi F
set_option maxHeartbeats 4000000 in
theorem ref1_Lex_tree (s : List UInt8) (r : Tokens) (T :
  ((6000 < (s.length : Int)) →
  (Tokens.mk [] 4) = r) ∧
 (¬ (6000 < (s.length : Int)) →
  At_ref1_Lex_1 s 0 0 [] 0 [] r)) : R_ref1_Lex s r := by
 intro S
 rw [call_code sp_ref1_Lex _ _ rfl]
 have F := U_ref1_Lex
 by_cases c1 : 6000 < (s.length : Int)
 · replace T := T.1 c1
   obtain rfl := T
   exact fi (aa (eq_true c1) <| F)
 · replace T := T.2 c1
   replace F := aa (eq_false c1) <| F
   try simp only [F, lw, lx, le, Nat.reduceMul, UInt8.reduceToNat, reduceIte, reduceCtorEq, Nat.reduceEqDiff, Nat.reduceAdd, Nat.reduceLeDiff, Nat.reduceSub, Nat.reduceLT, Int.reduceEq, Int.reduceLT, Int.reduceLE, Int.reduceToNat, Int.reduceAdd, Int.reduceSub, Int.reduceMul, Int.reduceNeg]
   refine T S _ _ ?_
   exact fi F
theorem sp_ref1_Digits : SP 15 = some (.code sc_ref1_Digits) := SPof_code rfl Tryd.func15 comp_ref1_Digits
/-! doorkeeper/doorkeeperref1.Digits -/
def At_ref1_Digits_1 (n : Int) (i1 : Int) (s2 : List UInt8) (r : List UInt8) : Prop := ∀ (S : Sto) (e : Nat → PV) (f : Fr), e 0 = .int .i64 n ∧ e 3 = .int .u64 i1 ∧ e 4 = .str s2 → k_ref1_Digits_1 SP (E SP (.loop b_ref1_Digits_1) ⟨e, f :: S⟩) = .ok (.v (.str r)) S
set_option maxHeartbeats 4000000 in
theorem At_ref1_Digits_1_step (n : Int) (i1 : Int) (s2 : List UInt8) (r : List UInt8) (T :
  ((10 ≤ i1) →
  (U64 (48 + (i1.tmod 10))) ∧
  (U8 ((48 + (i1.tmod 10)))) ∧
  (1 + s2.length ≤ maxInt) ∧
  (U64 (i1.tdiv 10)) ∧
  At_ref1_Digits_1 n (i1.tdiv 10) ([(UInt8.ofNat ((48 + (i1.tmod 10))).toNat)] ++ s2) r) ∧
 (¬ (10 ≤ i1) →
  (U64 (48 + i1)) ∧
  (U8 ((48 + i1))) ∧
  (1 + s2.length ≤ maxInt) ∧
  ((n < 0) →
   (1 + (s2.length + 1) ≤ maxInt) ∧
   ([45] ++ ([(UInt8.ofNat ((48 + i1)).toNat)] ++ s2)) = r) ∧
  (¬ (n < 0) →
   ([(UInt8.ofNat ((48 + i1)).toNat)] ++ s2) = r))) : At_ref1_Digits_1 n i1 s2 r := by
 intro S e f h
 unfold k_ref1_Digits_1
 rw [E_loop]
 have F := U_ref1_Digits
 replace F := aa h <| F
 by_cases c1 : 10 ≤ i1
 · replace T := T.1 c1
   obtain ⟨p2, p3, p4, p5, T⟩ := T
   replace F := aa (eq_true c1) <| aa p2.wrap <| aa p3.wrap <| aa p4 <| aa p5.wrap <| F
   try simp only [F, lw, lx, le, Nat.reduceMul, UInt8.reduceToNat, reduceIte, reduceCtorEq, Nat.reduceEqDiff, Nat.reduceAdd, Nat.reduceLeDiff, Nat.reduceSub, Nat.reduceLT, Int.reduceEq, Int.reduceLT, Int.reduceLE, Int.reduceToNat, Int.reduceAdd, Int.reduceSub, Int.reduceMul, Int.reduceNeg]
   refine T S _ _ ?_
   exact fi F
 · replace T := T.2 c1
   obtain ⟨p6, p7, p8, T⟩ := T
   replace F := aa (eq_false c1) <| aa p6.wrap <| aa p7.wrap <| aa p8 <| F
   by_cases c9 : n < 0
   · replace T := T.1 c9
     obtain ⟨p10, rfl⟩ := T
     exact fi (aa (eq_true c9) <| aa p10 <| F)
   · replace T := T.2 c9
     obtain rfl := T
     exact fi (aa (eq_false c9) <| F)
set_option maxHeartbeats 4000000 in
theorem ref1_Digits_tree (n : Int) (r : List UInt8) (T :
  ((n < 0) →
  At_ref1_Digits_1 n (IntKind.u64.wrap (0 - (IntKind.u64.wrap n))) [] r) ∧
 (¬ (n < 0) →
  At_ref1_Digits_1 n (IntKind.u64.wrap n) [] r)) : R_ref1_Digits n r := by
 intro S
 rw [call_code sp_ref1_Digits _ _ rfl]
 have F := U_ref1_Digits
 by_cases c1 : n < 0
 · replace T := T.1 c1
   replace F := aa (eq_true c1) <| F
   try simp only [F, lw, lx, le, Nat.reduceMul, UInt8.reduceToNat, reduceIte, reduceCtorEq, Nat.reduceEqDiff, Nat.reduceAdd, Nat.reduceLeDiff, Nat.reduceSub, Nat.reduceLT, Int.reduceEq, Int.reduceLT, Int.reduceLE, Int.reduceToNat, Int.reduceAdd, Int.reduceSub, Int.reduceMul, Int.reduceNeg]
   refine T S _ _ ?_
   exact fi F
 · replace T := T.2 c1
   replace F := aa (eq_false c1) <| F
   try simp only [F, lw, lx, le, Nat.reduceMul, UInt8.reduceToNat, reduceIte, reduceCtorEq, Nat.reduceEqDiff, Nat.reduceAdd, Nat.reduceLeDiff, Nat.reduceSub, Nat.reduceLT, Int.reduceEq, Int.reduceLT, Int.reduceLE, Int.reduceToNat, Int.reduceAdd, Int.reduceSub, Int.reduceMul, Int.reduceNeg]
   refine T S _ _ ?_
   exact fi F
end Go.Proofs.YtljgfdhlfjbafaaDoor.M
