/- The row of doorkeeper/doorkeeperlaw2.ParseTexts: whatever the input, the law returns true and each argument reads as before. Written by a program of this session (mrow.py) out of what the law is reckoned to yield. -/
import Derived.Test.YtfbcnpbhhooapaaGreatDoorZParseTexts6
import Derived.Test.YtfbcnpbhhooapaaGreatDoorCards
import Derived.Test.YtfbcnpbhhooapaaGreatDoorTie
import Derived.WalkKit
import Derived.ProofKit
import Derived.OpenShut
import Derived.ShutString
import Derived.ChangeOld
import Derived.Below
import Derived.SizedLaws
import Derived.Deep.DeepHandedRow
import Derived.Lib.LaidTab
import Derived.LaidMore
import Derived.Stop.LaidErr
import Derived.Shelf.Vars
import Derived.Lay
import Derived.MakeChecks
namespace Go.Proofs.YtfbcnpbhhooapaaGreatDoor.parseTexts
open Go.ChangeShapes Go.WideShapes Go.ChangeAt Go.RowKit
set_option linter.unusedVariables false
theorem own : ownKnob Tryz.prog.godebug = none := by kernel_rfl
theorem laidOut : laidOutB Tryz.prog = true := by kernel_rfl
theorem mixed : Tryz.prog.follows .mixedOrders = true := by kernel_rfl
theorem door_met (os : Os) : laidMetH Tryz.prog Rows.parseTextsRow.laid ((World.laidAll Tryz.prog os Rows.parseTextsRow.laid).forCall (fun _ _ => 0) ⟨#[], #[.string ByteArray.empty], []⟩).memory :=
  by rw [MakeChecks.laidMetH_plain _ _ _ (by kernel_rfl)]; exact laidMet_laidAll _ (by kernel_rfl) (by kernel_rfl)
theorem gTab : Tryz.prog.globalNamed "internal/strconv.uint64pow10" = some 1 := by kernel_rfl
theorem gType : (Tryz.prog.globals[1]?).map (·.type) = some 223 := by kernel_rfl
theorem table {W : World} (h0 : laidMetH Tryz.prog Rows.parseTextsRow.laid W) : Lib.TabIs Tryz.prog W "internal/strconv.uint64pow10" .u64 Lib.pow10Tab := by
  have h : laidMet Tryz.prog Rows.parseTextsRow.laid W := h0
  have h2 := laidMet.tail (laidMet.tail (h))
  exact Lib.tabIs_of_head (rest := _) (zs := Lib.pow10Tab) gTab gType Tryz.underlying223 Tryz.underlying66 (by kernel_rfl) (by kernel_rfl) h2
theorem maxLenCell {W : World} (h : W.ShapedOpen Tryz.prog) : ∃ m, W.cell? ⟨0, 0, none⟩ = some (.int .i64 m) :=
  Go.Proofs.cell_of_shapedOpen_int (zero := #[.int .i64 0]) (t := 3) h (of_decide_eq_true (by kernel_rfl)) (by kernel_rfl) rfl (by kernel_rfl) (by kernel_rfl) Tryz.underlying3
theorem eStar : "*" ++ "errors.errorString" = "*errors.errorString" := by decide
theorem eRow (u : TypeId) (h : Tryz.prog.typeName? 3 u = some "*errors.errorString") : u = 240 :=
  typeName_ptr_named (nm := "errors.errorString") (by rw [eStar]; kernel_rfl) (by kernel_rfl) (by decide) u (by rw [eStar]; exact h)
theorem eCells : Tryz.prog.cellsOf 242 = 1 := by kernel_rfl
theorem sCells : Tryz.prog.cellsOf 9 = 1 := by kernel_rfl
theorem g_hS : Tryz.prog.globalNamed "strconv.ErrSyntax" = some 4 := by kernel_rfl
theorem t_hS : (Tryz.prog.globals[4]?).map (·.type) = some 169 := by kernel_rfl
theorem cell_hS {W : World} (h0 : laidMetH Tryz.prog Rows.parseTextsRow.laid W) : ∃ te pe, W.cell? ⟨4, 0, none⟩ = some (.iface te pe) := by
  have h : laidMet Tryz.prog Rows.parseTextsRow.laid W := h0
  have h2 := laidMet.tail (laidMet.tail (laidMet.tail (laidMet.tail (laidMet.tail (h)))))
  obtain ⟨a1, s1, hv1, _, _, _⟩ := laid_sentinel h2 g_hS t_hS Tryz.underlying169 eRow Tryz.underlying240 Tryz.underlying242 rfl rfl Tryz.underlying9 eCells sCells
  exact ⟨_, _, by simpa using World.var?_cell g_hS hv1 0⟩
theorem g_hR : Tryz.prog.globalNamed "strconv.ErrRange" = some 5 := by kernel_rfl
theorem t_hR : (Tryz.prog.globals[5]?).map (·.type) = some 169 := by kernel_rfl
theorem cell_hR {W : World} (h0 : laidMetH Tryz.prog Rows.parseTextsRow.laid W) : ∃ te pe, W.cell? ⟨5, 0, none⟩ = some (.iface te pe) := by
  have h : laidMet Tryz.prog Rows.parseTextsRow.laid W := h0
  have h2 := laidMet.tail (laidMet.tail (laidMet.tail (laidMet.tail (h))))
  obtain ⟨a1, s1, hv1, _, _, _⟩ := laid_sentinel h2 g_hR t_hR Tryz.underlying169 eRow Tryz.underlying240 Tryz.underlying242 rfl rfl Tryz.underlying9 eCells sCells
  exact ⟨_, _, by simpa using World.var?_cell g_hR hv1 0⟩
set_option maxRecDepth 100000 in
theorem contract (H : Type) (enc : TypeId × Value → H) (W : World) (base : Nat) (args : Array Value) (ds gs : List (DataW H)) (before : List MemPlace)
    (hval0 : ∀ (j : Nat) t v, Tryz.f11.params[j]? = some t → args[j]? = some v → Value.okWide Tryz.prog W .any base t v)
    (hW : DataW.Whole enc Tryz.prog Tryz.f11.params.toList Rows.parseTextsSpec.vars false W args.toList ds gs before) (hL : laidMetH Tryz.prog Rows.parseTextsRow.laid W) (hsh : W.ShapedOpen Tryz.prog) :
    Calls Tryz.prog 11 args W fun e W' => ∃ v, e = .returned v ∧ Rows.parseTextsSpec.post enc Tryz.prog Tryz.f11 false true false false W args v W' := by
  have hval : ∀ (j : Nat) t v, Tryz.f11.params[j]? = some t → args[j]? = some v → Value.okWide Tryz.prog W .any base t v := hval0
  have hW' := hW
  obtain ⟨p, q, hA0, hV, rfl, hfz, hnd⟩ := hW
  have hA : DataW.TrodAll enc Tryz.prog W 0 (fun _ => true) true Tryz.f11.params.toList args.toList ds p := hA0
  rw [Tryz.params11] at hA hval
  have hc := M.zA0 (W := W) (tys := [9]) (ts := [9]) mixed (@M.extsOk (M.zir W) (table hL) (maxLenCell hsh) (cell_hS hL) (cell_hR hL)) Tryz.func11 M.comp_Q11 (by kernel_rfl) (by kernel_rfl) (fun j t v h1 h2 => hval j t v (by simpa using h1) h2) hA M.specParseTexts
  obtain ⟨v0, vs0, d0, ds0, p0, q0, hargs, rfl, rfl, h0, r0⟩ := trodAll_cons hA
  obtain ⟨rfl, rfl, rfl⟩ := trodAll_nil r0
  obtain rfl : args = #[v0] := by cases args; simp_all
  obtain ⟨rfl, rfl⟩ := trodVars_none hV
  have lt0 : ∀ x ∈ p0, x.block < W.heap.size := by obtain ⟨m, hm⟩ := h0; exact DataW.trod_lt m _ _ _ hm
  refine hc.mono fun e W' ⟨he, bel⟩ => ?_
  subst he
  exact ⟨_, rfl, _, _, _, [], _, [], hW', trodAll_mk1 (shut_bool Tryz.underlying4 _), (trodAll_cons_mk (Below.trod laidOut (by kernel_rfl) (of_decide_eq_true (by kernel_rfl)) h0 bel lt0) trodAll_mk0), rfl, bel.frame _, fun h => by cases h⟩
theorem reads (os : Os) {H : Type} (enc : TypeId × Value → H) : ∃ places, DataW.whole enc Tryz.prog ((World.laidAll Tryz.prog os Rows.parseTextsRow.laid).forCall (fun _ _ => 0) ⟨#[], #[.string ByteArray.empty], []⟩).memory Tryz.f11.params.toList Rows.parseTextsSpec.vars false (#[.string ByteArray.empty] : Array Value).toList 8 = some ([.lit (.string [])], [], places) :=
  ⟨[], by kernel_rfl⟩
set_option maxRecDepth 100000 in
theorem lifted (os : Os) (started : os.Started) (H : Type) (enc : TypeId × Value → H) (F : Stop.Interp) :
    ReturnsInHanded {} Tryz.checked os 11 .any ((OpenSpec.ofChange Rows.parseTextsSpec).preRow enc Tryz.prog Tryz.f11 Rows.parseTextsRow.domain false Rows.parseTextsRow.laid) (((OpenSpec.ofChange Rows.parseTextsSpec).at F).post enc Tryz.prog Tryz.f11 false true false false) := by
  obtain ⟨places, hx⟩ := reads os enc
  refine returnsInHanded_of_row (C := Tryz.checked) (s := OpenSpec.ofChange Rows.parseTextsSpec) own started (by kernel_rfl) Tryz.func11
    (witness_row_at (enc := enc) (C := Tryz.checked) false (World.laidAll Tryz.prog os Rows.parseTextsRow.laid) #[.string ByteArray.empty] (World.laidAll_os _ _ _) (by kernel_rfl) (by kernel_rfl) (by kernel_rfl)
      (OpenSpec.preRow_of_cond 8 hx (by kernel_rfl) (fun k hk => by cases hk) (by kernel_rfl) (door_met os))) ?_
  intro W base args ds gs before hval hW _ _ hsz hL hsh _
  exact contract H enc W base args ds gs before hval hW hL hsh
theorem closed : joinedFacts Tryz.pinned.checked.prog 11 Tryz.f11 (OpenSpec.ofChange Rows.parseTextsSpec).bare Rows.parseTextsRow = true := by kernel_rfl
theorem said : Rows.ParseTextsSaid :=
  OpenClaim.holds_of_cond 11 Tryz.f11 rfl rfl rfl rfl rfl rfl rfl ⟨rfl, rfl, rfl, rfl, rfl⟩ rfl rfl rfl rfl rfl (by kernel_rfl) Tryz.func11 closed
    (of_decide_eq_true (by kernel_rfl)) (by unfold Func.isWrapper; first | (rw [if_pos (by decide +kernel)]; kernel_rfl) | (rw [if_neg (by decide +kernel)]; exact ⟨rfl, rfl⟩))
    (fun os started H enc _ F => by rw [OpenClaim.pre_eq_preRow]; exact lifted os started H enc F)
theorem plain (f : FuncId) (fn : Func) (hf : Tryz.pinned.checked.prog.funcNamed "doorkeeper/doorkeeperlaw2.ParseTexts" = some f) (hfn : Tryz.pinned.checked.prog.funcs[f]? = some fn) :
    true = Tryz.pinned.checked.prog.looks [] ∧ ∀ (j : Nat) t, fn.params[j]? = some t → Tryz.pinned.checked.prog.wantsStandIn t = false := by
  obtain rfl : f = 11 := Option.some.inj ((show Tryz.prog.funcNamed "doorkeeper/doorkeeperlaw2.ParseTexts" = some 11 by kernel_rfl).symm.trans hf) |>.symm
  obtain rfl : fn = Tryz.f11 := (Option.some.inj (Tryz.func11.symm.trans hfn)).symm
  refine ⟨by kernel_rfl, fun j t ht => ?_⟩
  rw [Tryz.params11] at ht
  have hm : t = 9 := by simpa using Array.mem_of_getElem? ht
  subst hm
  · exact (show Tryz.prog.wantsStandIn 9 = false by kernel_rfl)
theorem card : Rows.ParseTextsCardSaid :=
  Claim7.holds_tied_plain_at .later [] _ _ _ _ said (fun _ h => by cases h) (by kernel_rfl) (fun _ h => by cases h) parseTexts_row_tie rfl ⟨rfl, rfl⟩ (by kernel_rfl) rfl plain (by kernel_rfl)
end Go.Proofs.YtfbcnpbhhooapaaGreatDoor.parseTexts
namespace Go.Proofs.YtfbcnpbhhooapaaGreatDoor
theorem parseTexts_holds : Rows.ParseTextsCardSaid := parseTexts.card
#print axioms parseTexts_holds
end Go.Proofs.YtfbcnpbhhooapaaGreatDoor
