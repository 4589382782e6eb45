/-
  No cell of these rows narrows 'for every input' (looked for: loops, veiled, ifaces, maps, wideKeys, modest, calm, conditions, laid).
  DERIVED. THE GIVEN ROWS OF THIS SEAT. 4 by the template 'for every input the law returns true; each argument reads behind the call as it read before'; 0 by the template 'total and deterministic' (their statements: YtebflncfgjnkkaaTotals.lean).
  GIVEN WITH THE SEED: the statements are not yours to turn. If you find one false, say at which input.
  Laid BY PROGRAM, IN A SANDBOX (cutbox-rows.mjs): the forced cells as the released guide's own fill.sh prints them over the translation 361258d643fdc76d… (all of the seat's roots in one cut). By AI agents, Wed Nov 11 2026. No macro, syntax, notation, axiom, sorry.
-/
import Derived.Test.YtebflncfgjnkkaaChecked
import GoSem.Claim
import GoSem.ClaimJoined
import GoSem.ClaimMapViews
import Derived.JoinedTies
import Derived.KernelRfl
namespace Go.Proofs.Ytebflncfgjnkkaa
/- THE CELL 'sum', in the pinned program and in every row, IS THE sha256 OF THE DUMP (.gsa) THAT YtebflncfgjnkkaaProg.lean LOADS. Nothing in Lean hashes anything: it is a label: what it is worth is what the hold of that sum in a sandbox is worth. -/
noncomputable def Try.pinned : Pinned := { name := "ytebflncfgjnkkaa", sum := "361258d643fdc76d683221dd11474e6733cb731111a4cb51231eb2b60c6c21bf", checked := Try.checked }
namespace Rows
def none {H : Type} : Left H := { results := [], args := [] }

/-- 'doorkeeperlaw4.ValOrder': WHATEVER THE INPUT: true; the input reads as it did. -/
def valOrderSpec : ChangeSpec := { name := "valOrder", fn := fun _ => fun
  | [d1, d2, d3, d4] => { results := [.lit (.bool true)], args := [d1, d2, d3, d4] }
  | _ => none }
def valOrderRow : OpenClaim := { program := "ytebflncfgjnkkaa", sum := "361258d643fdc76d683221dd11474e6733cb731111a4cb51231eb2b60c6c21bf", func := "doorkeeper/doorkeeperlaw4.ValOrder", spec := "valOrder", unfollowed := true, recurses := true, apart := false }
def ValOrderSaid : Prop := valOrderRow.holds Try.pinned (OpenSpec.ofChange valOrderSpec)

/-- ITS FALSE NEIGHBOUR: 'it returns false'. Refute it at one input. -/
def valOrderWrong : ChangeSpec := { name := "valOrder", fn := fun _ => fun
  | [d1, d2, d3, d4] => { results := [.lit (.bool false)], args := [d1, d2, d3, d4] }
  | _ => none }
def ValOrderWrongFalsely : Prop := valOrderRow.holds Try.pinned (OpenSpec.ofChange valOrderWrong)

/-- 'doorkeeperlaw4.ValSums': WHATEVER THE INPUT: true; the input reads as it did. -/
def valSumsSpec : ChangeSpec := { name := "valSums", fn := fun _ => fun
  | [d1, d2, d3] => { results := [.lit (.bool true)], args := [d1, d2, d3] }
  | _ => none }
def valSumsRow : OpenClaim := { program := "ytebflncfgjnkkaa", sum := "361258d643fdc76d683221dd11474e6733cb731111a4cb51231eb2b60c6c21bf", func := "doorkeeper/doorkeeperlaw4.ValSums", spec := "valSums", unfollowed := true, recurses := true, apart := false }
def ValSumsSaid : Prop := valSumsRow.holds Try.pinned (OpenSpec.ofChange valSumsSpec)

/-- ITS FALSE NEIGHBOUR: 'it returns false'. Refute it at one input. -/
def valSumsWrong : ChangeSpec := { name := "valSums", fn := fun _ => fun
  | [d1, d2, d3] => { results := [.lit (.bool false)], args := [d1, d2, d3] }
  | _ => none }
def ValSumsWrongFalsely : Prop := valSumsRow.holds Try.pinned (OpenSpec.ofChange valSumsWrong)

/-- 'doorkeeperlaw4.ValLists': WHATEVER THE INPUT: true; the input reads as it did. -/
def valListsSpec : ChangeSpec := { name := "valLists", fn := fun _ => fun
  | [d1, d2, d3] => { results := [.lit (.bool true)], args := [d1, d2, d3] }
  | _ => none }
def valListsRow : OpenClaim := { program := "ytebflncfgjnkkaa", sum := "361258d643fdc76d683221dd11474e6733cb731111a4cb51231eb2b60c6c21bf", func := "doorkeeper/doorkeeperlaw4.ValLists", spec := "valLists", unfollowed := true, recurses := true, apart := false }
def ValListsSaid : Prop := valListsRow.holds Try.pinned (OpenSpec.ofChange valListsSpec)

/-- ITS FALSE NEIGHBOUR: 'it returns false'. Refute it at one input. -/
def valListsWrong : ChangeSpec := { name := "valLists", fn := fun _ => fun
  | [d1, d2, d3] => { results := [.lit (.bool false)], args := [d1, d2, d3] }
  | _ => none }
def ValListsWrongFalsely : Prop := valListsRow.holds Try.pinned (OpenSpec.ofChange valListsWrong)

/-- 'doorkeeperlaw4.ValMade': WHATEVER THE INPUT: true; the input reads as it did. -/
def valMadeSpec : ChangeSpec := { name := "valMade", fn := fun _ => fun
  | [d1, d2, d3, d4] => { results := [.lit (.bool true)], args := [d1, d2, d3, d4] }
  | _ => none }
def valMadeRow : OpenClaim := { program := "ytebflncfgjnkkaa", sum := "361258d643fdc76d683221dd11474e6733cb731111a4cb51231eb2b60c6c21bf", func := "doorkeeper/doorkeeperlaw4.ValMade", spec := "valMade", unfollowed := true, recurses := true, apart := false }
def ValMadeSaid : Prop := valMadeRow.holds Try.pinned (OpenSpec.ofChange valMadeSpec)

/-- ITS FALSE NEIGHBOUR: 'it returns false'. Refute it at one input. -/
def valMadeWrong : ChangeSpec := { name := "valMade", fn := fun _ => fun
  | [d1, d2, d3, d4] => { results := [.lit (.bool false)], args := [d1, d2, d3, d4] }
  | _ => none }
def ValMadeWrongFalsely : Prop := valMadeRow.holds Try.pinned (OpenSpec.ofChange valMadeWrong)

/- THE SECOND FORM. 'bulk': how many values and letters a reading holds, each counted each time it is reached (what is shared counts as often as it is met; a slice's spare places count too). A statement '..UptoSaid' is the law's where the arguments, and the package variables that the reading takes, are together of bulk at most 1048576: NARROWER than '..Said'. Prove '..Said' where nothing that the law and all that it calls make is longer than what came in: it says more and counts as full. Else prove '..UptoSaid'. A law counts once. -/
mutual
def uptoBulk {H : Type} : DataW H → Nat
  | .lit (.string bytes) => bytes.length + 1
  | .lit _ => 1
  | .nil => 1
  | .ptr d => uptoBulk d + 1
  | .slice elems spare => uptoBulkAll elems + uptoBulkAll spare + 1
  | .agg parts => uptoBulkAll parts + 1
  | .iface _ d => uptoBulk d + 1
  | .map entries => uptoBulkEntries entries + 1
  | .held _ => 1
def uptoBulkAll {H : Type} : List (DataW H) → Nat
  | [] => 0
  | d :: r => uptoBulk d + uptoBulkAll r
def uptoBulkEntries {H : Type} : List (Lit × DataW H) → Nat
  | [] => 0
  | x :: r => uptoBulkEntry x + uptoBulkEntries r
def uptoBulkEntry {H : Type} : Lit × DataW H → Nat
  | (.string bytes, d) => bytes.length + uptoBulk d + 1
  | (_, d) => uptoBulk d + 1
 end
def uptoSmall : (H : Type) → List (DataW H) → Bool := fun _ ds => decide (uptoBulkAll ds ≤ 1048576)
def OpenSpec.upto (s : _root_.Go.ChangeSpec) : _root_.Go.OpenSpec := { _root_.Go.OpenSpec.ofChange s with cond := some uptoSmall }

/-- 'doorkeeperlaw4.ValOrder', WHERE WHAT IT READS IS OF BULK AT MOST 1048576: true; the input reads as it did. -/
def valOrderUptoRow : OpenClaim := { program := "ytebflncfgjnkkaa", sum := "361258d643fdc76d683221dd11474e6733cb731111a4cb51231eb2b60c6c21bf", func := "doorkeeper/doorkeeperlaw4.ValOrder", spec := "valOrder", unfollowed := true, recurses := true, apart := false, narrowed := true }
def ValOrderUptoSaid : Prop := valOrderUptoRow.holds Try.pinned (OpenSpec.upto valOrderSpec)

/-- 'doorkeeperlaw4.ValSums', WHERE WHAT IT READS IS OF BULK AT MOST 1048576: true; the input reads as it did. -/
def valSumsUptoRow : OpenClaim := { program := "ytebflncfgjnkkaa", sum := "361258d643fdc76d683221dd11474e6733cb731111a4cb51231eb2b60c6c21bf", func := "doorkeeper/doorkeeperlaw4.ValSums", spec := "valSums", unfollowed := true, recurses := true, apart := false, narrowed := true }
def ValSumsUptoSaid : Prop := valSumsUptoRow.holds Try.pinned (OpenSpec.upto valSumsSpec)

/-- 'doorkeeperlaw4.ValLists', WHERE WHAT IT READS IS OF BULK AT MOST 1048576: true; the input reads as it did. -/
def valListsUptoRow : OpenClaim := { program := "ytebflncfgjnkkaa", sum := "361258d643fdc76d683221dd11474e6733cb731111a4cb51231eb2b60c6c21bf", func := "doorkeeper/doorkeeperlaw4.ValLists", spec := "valLists", unfollowed := true, recurses := true, apart := false, narrowed := true }
def ValListsUptoSaid : Prop := valListsUptoRow.holds Try.pinned (OpenSpec.upto valListsSpec)

/-- 'doorkeeperlaw4.ValMade', WHERE WHAT IT READS IS OF BULK AT MOST 1048576: true; the input reads as it did. -/
def valMadeUptoRow : OpenClaim := { program := "ytebflncfgjnkkaa", sum := "361258d643fdc76d683221dd11474e6733cb731111a4cb51231eb2b60c6c21bf", func := "doorkeeper/doorkeeperlaw4.ValMade", spec := "valMade", unfollowed := true, recurses := true, apart := false, narrowed := true }
def ValMadeUptoSaid : Prop := valMadeUptoRow.holds Try.pinned (OpenSpec.upto valMadeSpec)

end Rows
end Go.Proofs.Ytebflncfgjnkkaa
