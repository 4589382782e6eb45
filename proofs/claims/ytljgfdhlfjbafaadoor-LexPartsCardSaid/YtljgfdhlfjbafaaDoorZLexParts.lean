/- The row of doorkeeper/doorkeeperlaw1.LexParts: whatever the input, the law returns true and each argument reads as before. Written by a program of this session (mrow.py) out of what the law is reckoned to yield. -/
import Derived.Test.YtljgfdhlfjbafaaDoorZLexParts5
import Derived.Test.YtljgfdhlfjbafaaDoorCards
import Derived.Test.YtljgfdhlfjbafaaDoorTie
import Derived.WalkKit
import Derived.ProofKit
import Derived.OpenShut
import Derived.ShutString
import Derived.ChangeOld
import Derived.Below
import Derived.SizedLaws
import Derived.Deep.DeepHandedRow
import Derived.Lib.LaidTab
import Derived.LaidMore
import Derived.Stop.LaidErr
import Derived.Shelf.Vars
namespace Go.Proofs.YtljgfdhlfjbafaaDoor.lexParts
open Go.ChangeShapes Go.WideShapes Go.ChangeAt Go.RowKit
set_option linter.unusedVariables false
theorem own : ownKnob Tryd.prog.godebug = none := by kernel_rfl
theorem laidOut : laidOutB Tryd.prog = true := by kernel_rfl
theorem mixed : Tryd.prog.follows .mixedOrders = true := by kernel_rfl
theorem door_met (os : Os) : laidMetH Tryd.prog Rows.lexPartsRow.laid ((World.doorLaid Tryd.prog 72 os).forCall (fun _ _ => 0) ⟨#[], #[.int .u8 0, .int .u8 0, .int .u8 0], []⟩).memory :=
  laidMetH_of_parts3 (fuel := 8) (laidMet_of_run' 8 (by kernel_rfl) (by kernel_rfl)) (by kernel_rfl) (by kernel_rfl)
theorem gTab : Tryd.prog.globalNamed "internal/strconv.uint64pow10" = some 5 := by kernel_rfl
theorem gType : (Tryd.prog.globals[5]?).map (·.type) = some 130 := by kernel_rfl
theorem table {W : World} (h0 : laidMetH Tryd.prog Rows.lexPartsRow.laid W) : Lib.TabIs Tryd.prog W "internal/strconv.uint64pow10" .u64 Lib.pow10Tab := by
  have h : laidMet Tryd.prog Rows.lexPartsRow.laid W := h0
  have h2 := laidMet.tail (laidMet.tail (h))
  exact Lib.tabIs_of_head (rest := _) (zs := Lib.pow10Tab) gTab gType Tryd.underlying130 Tryd.underlying43 (by kernel_rfl) (by kernel_rfl) h2
theorem maxLenCell {W : World} (h : W.ShapedOpen Tryd.prog) : ∃ m, W.cell? ⟨0, 0, none⟩ = some (.int .i64 m) :=
  Go.Proofs.cell_of_shapedOpen_int (zero := #[.int .i64 0]) (t := 3) h (of_decide_eq_true (by kernel_rfl)) (by kernel_rfl) rfl (by kernel_rfl) (by kernel_rfl) Tryd.underlying3
theorem eStar : "*" ++ "errors.errorString" = "*errors.errorString" := by decide
theorem eRow (u : TypeId) (h : Tryd.prog.typeName? 3 u = some "*errors.errorString") : u = 126 :=
  typeName_ptr_named (nm := "errors.errorString") (by rw [eStar]; kernel_rfl) (by kernel_rfl) (by decide) u (by rw [eStar]; exact h)
theorem eCells : Tryd.prog.cellsOf 128 = 1 := by kernel_rfl
theorem sCells : Tryd.prog.cellsOf 9 = 1 := by kernel_rfl
theorem g_hS : Tryd.prog.globalNamed "strconv.ErrSyntax" = some 3 := by kernel_rfl
theorem t_hS : (Tryd.prog.globals[3]?).map (·.type) = some 71 := by kernel_rfl
theorem cell_hS {W : World} (h0 : laidMetH Tryd.prog Rows.lexPartsRow.laid W) : ∃ te pe, W.cell? ⟨3, 0, none⟩ = some (.iface te pe) := by
  have h : laidMet Tryd.prog Rows.lexPartsRow.laid W := h0
  have h2 := laidMet.tail (laidMet.tail (laidMet.tail (laidMet.tail (h))))
  obtain ⟨a1, s1, hv1, _, _, _⟩ := laid_sentinel h2 g_hS t_hS Tryd.underlying71 eRow Tryd.underlying126 Tryd.underlying128 rfl rfl Tryd.underlying9 eCells sCells
  exact ⟨_, _, by simpa using World.var?_cell g_hS hv1 0⟩
theorem g_hR : Tryd.prog.globalNamed "strconv.ErrRange" = some 4 := by kernel_rfl
theorem t_hR : (Tryd.prog.globals[4]?).map (·.type) = some 71 := by kernel_rfl
theorem cell_hR {W : World} (h0 : laidMetH Tryd.prog Rows.lexPartsRow.laid W) : ∃ te pe, W.cell? ⟨4, 0, none⟩ = some (.iface te pe) := by
  have h : laidMet Tryd.prog Rows.lexPartsRow.laid W := h0
  have h2 := laidMet.tail (laidMet.tail (laidMet.tail (h)))
  obtain ⟨a1, s1, hv1, _, _, _⟩ := laid_sentinel h2 g_hR t_hR Tryd.underlying71 eRow Tryd.underlying126 Tryd.underlying128 rfl rfl Tryd.underlying9 eCells sCells
  exact ⟨_, _, by simpa using World.var?_cell g_hR hv1 0⟩
set_option maxRecDepth 100000 in
theorem contract (H : Type) (enc : TypeId × Value → H) (W : World) (base : Nat) (args : Array Value) (ds gs : List (DataW H)) (before : List MemPlace)
    (hval0 : ∀ (j : Nat) t v, Tryd.f6.params[j]? = some t → args[j]? = some v → Value.okWide Tryd.prog W .any base t v)
    (hW : DataW.Whole enc Tryd.prog Tryd.f6.params.toList Rows.lexPartsSpec.vars false W args.toList ds gs before) (hL : laidMetH Tryd.prog Rows.lexPartsRow.laid W) (hsh : W.ShapedOpen Tryd.prog) :
    Calls Tryd.prog 6 args W fun e W' => ∃ v, e = .returned v ∧ Rows.lexPartsSpec.post enc Tryd.prog Tryd.f6 false true false false W args v W' := by
  have hval : ∀ (j : Nat) t v, Tryd.f6.params[j]? = some t → args[j]? = some v → Value.okWide Tryd.prog W .any base t v := hval0
  have hW' := hW
  obtain ⟨p, q, hA0, hV, rfl, hfz, hnd⟩ := hW
  have hA : DataW.TrodAll enc Tryd.prog W 0 (fun _ => true) true Tryd.f6.params.toList args.toList ds p := hA0
  rw [Tryd.params6] at hA hval
  have hc := M.law_true (W := W) (tys := [5, 5, 5]) (ts := [5]) mixed (@M.extsOk (M.baseOf W) (table hL) (maxLenCell hsh) (cell_hS hL) (cell_hR hL)) Tryd.func6 M.comp_law1_LexParts (by kernel_rfl) (by kernel_rfl) (fun j t v h1 h2 => hval j t v (by simpa using h1) h2) hA M.specLexParts
  obtain ⟨v0, vs0, d0, ds0, p0, q0, hargs, rfl, rfl, h0, r0⟩ := trodAll_cons hA
  obtain ⟨v1, vs1, d1, ds1, p1, q1, rfl, rfl, rfl, h1, r1⟩ := trodAll_cons r0
  obtain ⟨v2, vs2, d2, ds2, p2, q2, rfl, rfl, rfl, h2, r2⟩ := trodAll_cons r1
  obtain ⟨rfl, rfl, rfl⟩ := trodAll_nil r2
  obtain rfl : args = #[v0, v1, v2] := by cases args; simp_all
  obtain ⟨rfl, rfl⟩ := trodVars_none hV
  have lt0 : ∀ x ∈ p0, x.block < W.heap.size := by obtain ⟨m, hm⟩ := h0; exact DataW.trod_lt m _ _ _ hm
  have lt1 : ∀ x ∈ p1, x.block < W.heap.size := by obtain ⟨m, hm⟩ := h1; exact DataW.trod_lt m _ _ _ hm
  have lt2 : ∀ x ∈ p2, x.block < W.heap.size := by obtain ⟨m, hm⟩ := h2; exact DataW.trod_lt m _ _ _ hm
  refine hc.mono fun e W' ⟨he, bel⟩ => ?_
  subst he
  exact ⟨_, rfl, _, _, _, [], _, [], hW', trodAll_mk1 (shut_bool Tryd.underlying4 _), (trodAll_cons_mk (Below.trod laidOut (by kernel_rfl) (of_decide_eq_true (by kernel_rfl)) h0 bel lt0) (trodAll_cons_mk (Below.trod laidOut (by kernel_rfl) (of_decide_eq_true (by kernel_rfl)) h1 bel lt1) (trodAll_cons_mk (Below.trod laidOut (by kernel_rfl) (of_decide_eq_true (by kernel_rfl)) h2 bel lt2) trodAll_mk0))), rfl, bel.frame _, fun h => by cases h⟩
theorem reads (os : Os) {H : Type} (enc : TypeId × Value → H) : ∃ places, DataW.whole enc Tryd.prog ((World.doorLaid Tryd.prog 72 os).forCall (fun _ _ => 0) ⟨#[], #[.int .u8 0, .int .u8 0, .int .u8 0], []⟩).memory Tryd.f6.params.toList Rows.lexPartsSpec.vars false (#[.int .u8 0, .int .u8 0, .int .u8 0] : Array Value).toList 8 = some ([.lit (.int .u8 0), .lit (.int .u8 0), .lit (.int .u8 0)], [], places) :=
  ⟨[], by kernel_rfl⟩
set_option maxRecDepth 100000 in
theorem lifted (os : Os) (started : os.Started) (H : Type) (enc : TypeId × Value → H) (F : Stop.Interp) :
    ReturnsInHanded {} Tryd.checked os 6 .any ((OpenSpec.ofChange Rows.lexPartsSpec).preRow enc Tryd.prog Tryd.f6 Rows.lexPartsRow.domain false Rows.lexPartsRow.laid) (((OpenSpec.ofChange Rows.lexPartsSpec).at F).post enc Tryd.prog Tryd.f6 false true false false) := by
  obtain ⟨places, hx⟩ := reads os enc
  refine returnsInHanded_of_row (C := Tryd.checked) (s := OpenSpec.ofChange Rows.lexPartsSpec) own started (by kernel_rfl) Tryd.func6
    (witness_row_at (enc := enc) (C := Tryd.checked) false (World.doorLaid Tryd.prog 72 os) #[.int .u8 0, .int .u8 0, .int .u8 0] rfl (by kernel_rfl) (by kernel_rfl) (by kernel_rfl)
      (OpenSpec.preRow_of_cond 8 hx (by kernel_rfl) (fun k hk => by cases hk) (by kernel_rfl) (door_met os))) ?_
  intro W base args ds gs before hval hW _ _ hsz hL hsh _
  exact contract H enc W base args ds gs before hval hW hL hsh
theorem said : Rows.LexPartsSaid :=
  OpenClaim.holds_of_cond 6 Tryd.f6 rfl rfl rfl rfl rfl rfl rfl ⟨rfl, rfl, rfl, rfl, rfl⟩ rfl rfl rfl rfl rfl (by kernel_rfl) Tryd.func6 (by kernel_rfl)
    (of_decide_eq_true (by kernel_rfl)) (by unfold Func.isWrapper; first | (rw [if_pos (by decide +kernel)]; kernel_rfl) | (rw [if_neg (by decide +kernel)]; exact ⟨rfl, rfl⟩))
    (fun os started H enc _ F => by rw [OpenClaim.pre_eq_preRow]; exact lifted os started H enc F)
theorem plain (f : FuncId) (fn : Func) (hf : Tryd.pinned.checked.prog.funcNamed "doorkeeper/doorkeeperlaw1.LexParts" = some f) (hfn : Tryd.pinned.checked.prog.funcs[f]? = some fn) :
    true = Tryd.pinned.checked.prog.looks [] ∧ ∀ (j : Nat) t, fn.params[j]? = some t → Tryd.pinned.checked.prog.wantsStandIn t = false := by
  obtain rfl : f = 6 := Option.some.inj ((show Tryd.prog.funcNamed "doorkeeper/doorkeeperlaw1.LexParts" = some 6 by kernel_rfl).symm.trans hf) |>.symm
  obtain rfl : fn = Tryd.f6 := (Option.some.inj (Tryd.func6.symm.trans hfn)).symm
  refine ⟨by kernel_rfl, fun j t ht => ?_⟩
  rw [Tryd.params6] at ht
  have hm : t = 5 := by simpa using Array.mem_of_getElem? ht
  subst hm
  · exact (show Tryd.prog.wantsStandIn 5 = false by kernel_rfl)
theorem card : Rows.LexPartsCardSaid :=
  Claim7.holds_tied_plain_at .later [] _ _ _ _ said (fun _ h => by cases h) (by kernel_rfl) (fun _ h => by cases h) lexParts_row_tie rfl ⟨rfl, rfl⟩ (by kernel_rfl) rfl plain (by kernel_rfl)
end Go.Proofs.YtljgfdhlfjbafaaDoor.lexParts
namespace Go.Proofs.YtljgfdhlfjbafaaDoor
theorem lexParts_holds : Rows.LexPartsCardSaid := lexParts.card
#print axioms lexParts_holds
end Go.Proofs.YtljgfdhlfjbafaaDoor
