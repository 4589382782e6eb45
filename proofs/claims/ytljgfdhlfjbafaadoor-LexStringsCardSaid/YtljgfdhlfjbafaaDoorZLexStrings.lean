/- The row of doorkeeper/doorkeeperlaw1.LexStrings: whatever the input, the law returns true and each argument reads as before. Written by a program of this session (mrow.py) out of what the law is reckoned to yield. -/
import Derived.Test.YtljgfdhlfjbafaaDoorZLexStrings5
import Derived.Test.YtljgfdhlfjbafaaDoorCards
import Derived.Test.YtljgfdhlfjbafaaDoorTie
import Derived.WalkKit
import Derived.ProofKit
import Derived.OpenShut
import Derived.ShutString
import Derived.ChangeOld
import Derived.Below
import Derived.SizedLaws
import Derived.Deep.DeepHandedRow
import Derived.Lib.LaidTab
import Derived.LaidMore
import Derived.Stop.LaidErr
import Derived.Shelf.Vars
namespace Go.Proofs.YtljgfdhlfjbafaaDoor.lexStrings
open Go.ChangeShapes Go.WideShapes Go.ChangeAt Go.RowKit
set_option linter.unusedVariables false
theorem own : ownKnob Tryd.prog.godebug = none := by kernel_rfl
theorem laidOut : laidOutB Tryd.prog = true := by kernel_rfl
theorem mixed : Tryd.prog.follows .mixedOrders = true := by kernel_rfl
theorem door_met (os : Os) : laidMetH Tryd.prog Rows.lexStringsRow.laid ((World.doorLaid Tryd.prog 72 os).forCall (fun _ _ => 0) ⟨#[], #[.string ByteArray.empty], []⟩).memory :=
  laidMetH_of_parts3 (fuel := 8) (laidMet_of_run' 8 (by kernel_rfl) (by kernel_rfl)) (by kernel_rfl) (by kernel_rfl)
theorem gTab : Tryd.prog.globalNamed "internal/strconv.uint64pow10" = some 5 := by kernel_rfl
theorem gType : (Tryd.prog.globals[5]?).map (·.type) = some 130 := by kernel_rfl
theorem table {W : World} (h0 : laidMetH Tryd.prog Rows.lexStringsRow.laid W) : Lib.TabIs Tryd.prog W "internal/strconv.uint64pow10" .u64 Lib.pow10Tab := by
  have h : laidMet Tryd.prog Rows.lexStringsRow.laid W := h0
  have h2 := laidMet.tail (laidMet.tail (h))
  exact Lib.tabIs_of_head (rest := _) (zs := Lib.pow10Tab) gTab gType Tryd.underlying130 Tryd.underlying43 (by kernel_rfl) (by kernel_rfl) h2
theorem maxLenCell {W : World} (h : W.ShapedOpen Tryd.prog) : ∃ m, W.cell? ⟨0, 0, none⟩ = some (.int .i64 m) :=
  Go.Proofs.cell_of_shapedOpen_int (zero := #[.int .i64 0]) (t := 3) h (of_decide_eq_true (by kernel_rfl)) (by kernel_rfl) rfl (by kernel_rfl) (by kernel_rfl) Tryd.underlying3
theorem eStar : "*" ++ "errors.errorString" = "*errors.errorString" := by decide
theorem eRow (u : TypeId) (h : Tryd.prog.typeName? 3 u = some "*errors.errorString") : u = 126 :=
  typeName_ptr_named (nm := "errors.errorString") (by rw [eStar]; kernel_rfl) (by kernel_rfl) (by decide) u (by rw [eStar]; exact h)
theorem eCells : Tryd.prog.cellsOf 128 = 1 := by kernel_rfl
theorem sCells : Tryd.prog.cellsOf 9 = 1 := by kernel_rfl
theorem g_hS : Tryd.prog.globalNamed "strconv.ErrSyntax" = some 3 := by kernel_rfl
theorem t_hS : (Tryd.prog.globals[3]?).map (·.type) = some 71 := by kernel_rfl
theorem cell_hS {W : World} (h0 : laidMetH Tryd.prog Rows.lexStringsRow.laid W) : ∃ te pe, W.cell? ⟨3, 0, none⟩ = some (.iface te pe) := by
  have h : laidMet Tryd.prog Rows.lexStringsRow.laid W := h0
  have h2 := laidMet.tail (laidMet.tail (laidMet.tail (laidMet.tail (h))))
  obtain ⟨a1, s1, hv1, _, _, _⟩ := laid_sentinel h2 g_hS t_hS Tryd.underlying71 eRow Tryd.underlying126 Tryd.underlying128 rfl rfl Tryd.underlying9 eCells sCells
  exact ⟨_, _, by simpa using World.var?_cell g_hS hv1 0⟩
theorem g_hR : Tryd.prog.globalNamed "strconv.ErrRange" = some 4 := by kernel_rfl
theorem t_hR : (Tryd.prog.globals[4]?).map (·.type) = some 71 := by kernel_rfl
theorem cell_hR {W : World} (h0 : laidMetH Tryd.prog Rows.lexStringsRow.laid W) : ∃ te pe, W.cell? ⟨4, 0, none⟩ = some (.iface te pe) := by
  have h : laidMet Tryd.prog Rows.lexStringsRow.laid W := h0
  have h2 := laidMet.tail (laidMet.tail (laidMet.tail (h)))
  obtain ⟨a1, s1, hv1, _, _, _⟩ := laid_sentinel h2 g_hR t_hR Tryd.underlying71 eRow Tryd.underlying126 Tryd.underlying128 rfl rfl Tryd.underlying9 eCells sCells
  exact ⟨_, _, by simpa using World.var?_cell g_hR hv1 0⟩
set_option maxRecDepth 100000 in
theorem contract (H : Type) (enc : TypeId × Value → H) (W : World) (base : Nat) (args : Array Value) (ds gs : List (DataW H)) (before : List MemPlace)
    (hval0 : ∀ (j : Nat) t v, Tryd.f5.params[j]? = some t → args[j]? = some v → Value.okWide Tryd.prog W .any base t v)
    (hW : DataW.Whole enc Tryd.prog Tryd.f5.params.toList Rows.lexStringsSpec.vars false W args.toList ds gs before) (hL : laidMetH Tryd.prog Rows.lexStringsRow.laid W) (hsh : W.ShapedOpen Tryd.prog) :
    Calls Tryd.prog 5 args W fun e W' => ∃ v, e = .returned v ∧ Rows.lexStringsSpec.post enc Tryd.prog Tryd.f5 false true false false W args v W' := by
  have hval : ∀ (j : Nat) t v, Tryd.f5.params[j]? = some t → args[j]? = some v → Value.okWide Tryd.prog W .any base t v := hval0
  have hW' := hW
  obtain ⟨p, q, hA0, hV, rfl, hfz, hnd⟩ := hW
  have hA : DataW.TrodAll enc Tryd.prog W 0 (fun _ => true) true Tryd.f5.params.toList args.toList ds p := hA0
  rw [Tryd.params5] at hA hval
  have hc := M.law_true (W := W) (tys := [9]) (ts := [9]) mixed (@M.extsOk (M.baseOf W) (table hL) (maxLenCell hsh) (cell_hS hL) (cell_hR hL)) Tryd.func5 M.comp_law1_LexStrings (by kernel_rfl) (by kernel_rfl) (fun j t v h1 h2 => hval j t v (by simpa using h1) h2) hA M.specLexStrings
  obtain ⟨v0, vs0, d0, ds0, p0, q0, hargs, rfl, rfl, h0, r0⟩ := trodAll_cons hA
  obtain ⟨rfl, rfl, rfl⟩ := trodAll_nil r0
  obtain rfl : args = #[v0] := by cases args; simp_all
  obtain ⟨rfl, rfl⟩ := trodVars_none hV
  have lt0 : ∀ x ∈ p0, x.block < W.heap.size := by obtain ⟨m, hm⟩ := h0; exact DataW.trod_lt m _ _ _ hm
  refine hc.mono fun e W' ⟨he, bel⟩ => ?_
  subst he
  exact ⟨_, rfl, _, _, _, [], _, [], hW', trodAll_mk1 (shut_bool Tryd.underlying4 _), (trodAll_cons_mk (Below.trod laidOut (by kernel_rfl) (of_decide_eq_true (by kernel_rfl)) h0 bel lt0) trodAll_mk0), rfl, bel.frame _, fun h => by cases h⟩
theorem reads (os : Os) {H : Type} (enc : TypeId × Value → H) : ∃ places, DataW.whole enc Tryd.prog ((World.doorLaid Tryd.prog 72 os).forCall (fun _ _ => 0) ⟨#[], #[.string ByteArray.empty], []⟩).memory Tryd.f5.params.toList Rows.lexStringsSpec.vars false (#[.string ByteArray.empty] : Array Value).toList 8 = some ([.lit (.string [])], [], places) :=
  ⟨[], by kernel_rfl⟩
set_option maxRecDepth 100000 in
theorem lifted (os : Os) (started : os.Started) (H : Type) (enc : TypeId × Value → H) (F : Stop.Interp) :
    ReturnsInHanded {} Tryd.checked os 5 .any ((OpenSpec.ofChange Rows.lexStringsSpec).preRow enc Tryd.prog Tryd.f5 Rows.lexStringsRow.domain false Rows.lexStringsRow.laid) (((OpenSpec.ofChange Rows.lexStringsSpec).at F).post enc Tryd.prog Tryd.f5 false true false false) := by
  obtain ⟨places, hx⟩ := reads os enc
  refine returnsInHanded_of_row (C := Tryd.checked) (s := OpenSpec.ofChange Rows.lexStringsSpec) own started (by kernel_rfl) Tryd.func5
    (witness_row_at (enc := enc) (C := Tryd.checked) false (World.doorLaid Tryd.prog 72 os) #[.string ByteArray.empty] rfl (by kernel_rfl) (by kernel_rfl) (by kernel_rfl)
      (OpenSpec.preRow_of_cond 8 hx (by kernel_rfl) (fun k hk => by cases hk) (by kernel_rfl) (door_met os))) ?_
  intro W base args ds gs before hval hW _ _ hsz hL hsh _
  exact contract H enc W base args ds gs before hval hW hL hsh
theorem said : Rows.LexStringsSaid :=
  OpenClaim.holds_of_cond 5 Tryd.f5 rfl rfl rfl rfl rfl rfl rfl ⟨rfl, rfl, rfl, rfl, rfl⟩ rfl rfl rfl rfl rfl (by kernel_rfl) Tryd.func5 (by kernel_rfl)
    (of_decide_eq_true (by kernel_rfl)) (by unfold Func.isWrapper; first | (rw [if_pos (by decide +kernel)]; kernel_rfl) | (rw [if_neg (by decide +kernel)]; exact ⟨rfl, rfl⟩))
    (fun os started H enc _ F => by rw [OpenClaim.pre_eq_preRow]; exact lifted os started H enc F)
theorem plain (f : FuncId) (fn : Func) (hf : Tryd.pinned.checked.prog.funcNamed "doorkeeper/doorkeeperlaw1.LexStrings" = some f) (hfn : Tryd.pinned.checked.prog.funcs[f]? = some fn) :
    true = Tryd.pinned.checked.prog.looks [] ∧ ∀ (j : Nat) t, fn.params[j]? = some t → Tryd.pinned.checked.prog.wantsStandIn t = false := by
  obtain rfl : f = 5 := Option.some.inj ((show Tryd.prog.funcNamed "doorkeeper/doorkeeperlaw1.LexStrings" = some 5 by kernel_rfl).symm.trans hf) |>.symm
  obtain rfl : fn = Tryd.f5 := (Option.some.inj (Tryd.func5.symm.trans hfn)).symm
  refine ⟨by kernel_rfl, fun j t ht => ?_⟩
  rw [Tryd.params5] at ht
  have hm : t = 9 := by simpa using Array.mem_of_getElem? ht
  subst hm
  · exact (show Tryd.prog.wantsStandIn 9 = false by kernel_rfl)
theorem card : Rows.LexStringsCardSaid :=
  Claim7.holds_tied_plain_at .later [] _ _ _ _ said (fun _ h => by cases h) (by kernel_rfl) (fun _ h => by cases h) lexStrings_row_tie rfl ⟨rfl, rfl⟩ (by kernel_rfl) rfl plain (by kernel_rfl)
end Go.Proofs.YtljgfdhlfjbafaaDoor.lexStrings
namespace Go.Proofs.YtljgfdhlfjbafaaDoor
theorem lexStrings_holds : Rows.LexStringsCardSaid := lexStrings.card
#print axioms lexStrings_holds
end Go.Proofs.YtljgfdhlfjbafaaDoor
