/-
  NARROWER THAN 'FOR EVERY INPUT', by the rows' own cells (each row's printed sentence says how): VecSums: laid · VecOrder: laid · VecAll: laid · ValAll: loops, laid · ValJoin: laid · ReportAll: laid · ReportMade: laid · ReportLines: laid.
  DERIVED. THE GIVEN ROWS OF THIS SEAT. 8 by the template 'for every input the law returns true; each argument reads behind the call as it read before'; 0 by the template 'total and deterministic' (their statements: YtebflncfgjnkkaaDoorTotals.lean).
  GIVEN WITH THE SEED: the statements are not yours to turn. If you find one false, say at which input.
  Laid BY PROGRAM, IN A SANDBOX (cutbox-rows.mjs): the forced cells as the released guide's own fill.sh prints them over the translation f927737e9e3a8d96… (all of the seat's roots in one cut). By AI agents, Wed Nov 11 2026. No macro, syntax, notation, axiom, sorry.
-/
import Derived.Test.YtebflncfgjnkkaaDoorChecked
import GoSem.Claim
import GoSem.ClaimJoined
import GoSem.ClaimMapViews
import Derived.JoinedTies
import Derived.KernelRfl
namespace Go.Proofs.YtebflncfgjnkkaaDoor
/- THE CELL 'sum', in the pinned program and in every row, IS THE sha256 OF THE DUMP (.gsa) THAT YtebflncfgjnkkaaDoorProg.lean LOADS. Nothing in Lean hashes anything: it is a label: what it is worth is what the hold of that sum in a sandbox is worth. -/
noncomputable def Tryd.pinned : Pinned := { name := "ytebflncfgjnkkaadoor", sum := "f927737e9e3a8d96e019d8e2f07e7efa142a11b1d27a7724ef2ec4d68cb06e8e", checked := Tryd.checked }
namespace Rows
def none {H : Type} : Left H := { results := [], args := [] }

/- WHAT THE LISTED PACKAGE-LEVEL VARIABLES READ AS WHEN THE CALL BEGINS. Each datum BY PROGRAM (the guide's laid-datum.mjs) off the statement by which the dump's own 'gosem.cut.vars' lays the variable. In a bare row this is a premise. The card (YtebflncfgjnkkaaDoorCards.lean) ties it to the program's text. -/
def laid_math_bits_deBruijn32tab {H : Type} : DataW H := .agg [.lit (.int .u8 0), .lit (.int .u8 1), .lit (.int .u8 28), .lit (.int .u8 2), .lit (.int .u8 29), .lit (.int .u8 14), .lit (.int .u8 24), .lit (.int .u8 3), .lit (.int .u8 30), .lit (.int .u8 22), .lit (.int .u8 20), .lit (.int .u8 15), .lit (.int .u8 25), .lit (.int .u8 17), .lit (.int .u8 4), .lit (.int .u8 8), .lit (.int .u8 31), .lit (.int .u8 27), .lit (.int .u8 13), .lit (.int .u8 23), .lit (.int .u8 21), .lit (.int .u8 19), .lit (.int .u8 16), .lit (.int .u8 7), .lit (.int .u8 26), .lit (.int .u8 12), .lit (.int .u8 18), .lit (.int .u8 6), .lit (.int .u8 11), .lit (.int .u8 5), .lit (.int .u8 10), .lit (.int .u8 9)]
def laid_math_bits_deBruijn64tab {H : Type} : DataW H := .agg [.lit (.int .u8 0), .lit (.int .u8 1), .lit (.int .u8 56), .lit (.int .u8 2), .lit (.int .u8 57), .lit (.int .u8 49), .lit (.int .u8 28), .lit (.int .u8 3), .lit (.int .u8 61), .lit (.int .u8 58), .lit (.int .u8 42), .lit (.int .u8 50), .lit (.int .u8 38), .lit (.int .u8 29), .lit (.int .u8 17), .lit (.int .u8 4), .lit (.int .u8 62), .lit (.int .u8 47), .lit (.int .u8 59), .lit (.int .u8 36), .lit (.int .u8 45), .lit (.int .u8 43), .lit (.int .u8 51), .lit (.int .u8 22), .lit (.int .u8 53), .lit (.int .u8 39), .lit (.int .u8 33), .lit (.int .u8 30), .lit (.int .u8 24), .lit (.int .u8 18), .lit (.int .u8 12), .lit (.int .u8 5), .lit (.int .u8 63), .lit (.int .u8 55), .lit (.int .u8 48), .lit (.int .u8 27), .lit (.int .u8 60), .lit (.int .u8 41), .lit (.int .u8 37), .lit (.int .u8 16), .lit (.int .u8 46), .lit (.int .u8 35), .lit (.int .u8 44), .lit (.int .u8 21), .lit (.int .u8 52), .lit (.int .u8 32), .lit (.int .u8 23), .lit (.int .u8 11), .lit (.int .u8 54), .lit (.int .u8 26), .lit (.int .u8 40), .lit (.int .u8 15), .lit (.int .u8 34), .lit (.int .u8 20), .lit (.int .u8 31), .lit (.int .u8 10), .lit (.int .u8 25), .lit (.int .u8 14), .lit (.int .u8 19), .lit (.int .u8 9), .lit (.int .u8 13), .lit (.int .u8 8), .lit (.int .u8 7), .lit (.int .u8 6)]
def laid_internal_strconv_uint64pow10 {H : Type} : DataW H := .agg [.lit (.int .u64 1), .lit (.int .u64 10), .lit (.int .u64 100), .lit (.int .u64 1000), .lit (.int .u64 10000), .lit (.int .u64 100000), .lit (.int .u64 1000000), .lit (.int .u64 10000000), .lit (.int .u64 100000000), .lit (.int .u64 1000000000), .lit (.int .u64 10000000000), .lit (.int .u64 100000000000), .lit (.int .u64 1000000000000), .lit (.int .u64 10000000000000), .lit (.int .u64 100000000000000), .lit (.int .u64 1000000000000000), .lit (.int .u64 10000000000000000), .lit (.int .u64 100000000000000000), .lit (.int .u64 1000000000000000000), .lit (.int .u64 10000000000000000000)]

/-- 'doorkeeperlaw10.VecSums': WHATEVER THE INPUT: true; the input reads as it did. -/
def vecSumsSpec : ChangeSpec := { name := "vecSums", fn := fun _ => fun
  | [d1, d2, d3, d4, d5, d6] => { results := [.lit (.bool true)], args := [d1, d2, d3, d4, d5, d6] }
  | _ => none }
def vecSumsRow : OpenClaim := { program := "ytebflncfgjnkkaadoor", sum := "f927737e9e3a8d96e019d8e2f07e7efa142a11b1d27a7724ef2ec4d68cb06e8e", func := "doorkeeper/doorkeeperlaw10.VecSums", spec := "vecSums", unfollowed := true, recurses := true, named := ["internal/strconv.uint64pow10", "math/bits.deBruijn32tab", "math/bits.deBruijn64tab"], apart := false, laid := [("math/bits.deBruijn32tab", laid_math_bits_deBruijn32tab), ("math/bits.deBruijn64tab", laid_math_bits_deBruijn64tab), ("internal/strconv.uint64pow10", laid_internal_strconv_uint64pow10)] }
def VecSumsSaid : Prop := vecSumsRow.holds Tryd.pinned (OpenSpec.ofChange vecSumsSpec)

/-- ITS FALSE NEIGHBOUR: 'it returns false'. Refute it at one input. -/
def vecSumsWrong : ChangeSpec := { name := "vecSums", fn := fun _ => fun
  | [d1, d2, d3, d4, d5, d6] => { results := [.lit (.bool false)], args := [d1, d2, d3, d4, d5, d6] }
  | _ => none }
def VecSumsWrongFalsely : Prop := vecSumsRow.holds Tryd.pinned (OpenSpec.ofChange vecSumsWrong)

/-- 'doorkeeperlaw10.VecOrder': WHATEVER THE INPUT: true; the input reads as it did. -/
def vecOrderSpec : ChangeSpec := { name := "vecOrder", fn := fun _ => fun
  | [d1, d2, d3, d4, d5, d6, d7, d8, d9] => { results := [.lit (.bool true)], args := [d1, d2, d3, d4, d5, d6, d7, d8, d9] }
  | _ => none }
def vecOrderRow : OpenClaim := { program := "ytebflncfgjnkkaadoor", sum := "f927737e9e3a8d96e019d8e2f07e7efa142a11b1d27a7724ef2ec4d68cb06e8e", func := "doorkeeper/doorkeeperlaw10.VecOrder", spec := "vecOrder", unfollowed := true, recurses := true, named := ["internal/strconv.uint64pow10", "math/bits.deBruijn32tab", "math/bits.deBruijn64tab"], apart := false, laid := [("math/bits.deBruijn32tab", laid_math_bits_deBruijn32tab), ("math/bits.deBruijn64tab", laid_math_bits_deBruijn64tab), ("internal/strconv.uint64pow10", laid_internal_strconv_uint64pow10)] }
def VecOrderSaid : Prop := vecOrderRow.holds Tryd.pinned (OpenSpec.ofChange vecOrderSpec)

/-- ITS FALSE NEIGHBOUR: 'it returns false'. Refute it at one input. -/
def vecOrderWrong : ChangeSpec := { name := "vecOrder", fn := fun _ => fun
  | [d1, d2, d3, d4, d5, d6, d7, d8, d9] => { results := [.lit (.bool false)], args := [d1, d2, d3, d4, d5, d6, d7, d8, d9] }
  | _ => none }
def VecOrderWrongFalsely : Prop := vecOrderRow.holds Tryd.pinned (OpenSpec.ofChange vecOrderWrong)

/-- 'doorkeeperlaw10.VecAll': WHATEVER THE INPUT: true; the input reads as it did. -/
def vecAllSpec : ChangeSpec := { name := "vecAll", fn := fun _ => fun
  | [d1, d2, d3] => { results := [.lit (.bool true)], args := [d1, d2, d3] }
  | _ => none }
def vecAllRow : OpenClaim := { program := "ytebflncfgjnkkaadoor", sum := "f927737e9e3a8d96e019d8e2f07e7efa142a11b1d27a7724ef2ec4d68cb06e8e", func := "doorkeeper/doorkeeperlaw10.VecAll", spec := "vecAll", unfollowed := true, recurses := true, named := ["internal/strconv.uint64pow10", "math/bits.deBruijn32tab", "math/bits.deBruijn64tab"], apart := false, laid := [("math/bits.deBruijn32tab", laid_math_bits_deBruijn32tab), ("math/bits.deBruijn64tab", laid_math_bits_deBruijn64tab), ("internal/strconv.uint64pow10", laid_internal_strconv_uint64pow10)] }
def VecAllSaid : Prop := vecAllRow.holds Tryd.pinned (OpenSpec.ofChange vecAllSpec)

/-- ITS FALSE NEIGHBOUR: 'it returns false'. Refute it at one input. -/
def vecAllWrong : ChangeSpec := { name := "vecAll", fn := fun _ => fun
  | [d1, d2, d3] => { results := [.lit (.bool false)], args := [d1, d2, d3] }
  | _ => none }
def VecAllWrongFalsely : Prop := vecAllRow.holds Tryd.pinned (OpenSpec.ofChange vecAllWrong)

/-- 'doorkeeperlaw4.ValAll': WHATEVER THE INPUT: true; the input reads as it did. -/
def valAllSpec : ChangeSpec := { name := "valAll", fn := fun _ => fun
  | [d1, d2, d3] => { results := [.lit (.bool true)], args := [d1, d2, d3] }
  | _ => none }
def valAllRow : OpenClaim := { program := "ytebflncfgjnkkaadoor", sum := "f927737e9e3a8d96e019d8e2f07e7efa142a11b1d27a7724ef2ec4d68cb06e8e", func := "doorkeeper/doorkeeperlaw4.ValAll", spec := "valAll", unfollowed := true, recurses := true, named := ["internal/strconv.uint64pow10", "math/bits.deBruijn32tab", "math/bits.deBruijn64tab"], loops := true, apart := false, laid := [("math/bits.deBruijn32tab", laid_math_bits_deBruijn32tab), ("math/bits.deBruijn64tab", laid_math_bits_deBruijn64tab), ("internal/strconv.uint64pow10", laid_internal_strconv_uint64pow10)] }
def ValAllSaid : Prop := valAllRow.holds Tryd.pinned (OpenSpec.ofChange valAllSpec)

/-- ITS FALSE NEIGHBOUR: 'it returns false'. Refute it at one input. -/
def valAllWrong : ChangeSpec := { name := "valAll", fn := fun _ => fun
  | [d1, d2, d3] => { results := [.lit (.bool false)], args := [d1, d2, d3] }
  | _ => none }
def ValAllWrongFalsely : Prop := valAllRow.holds Tryd.pinned (OpenSpec.ofChange valAllWrong)

/-- 'doorkeeperlaw4.ValJoin': WHATEVER THE INPUT: true; the input reads as it did. -/
def valJoinSpec : ChangeSpec := { name := "valJoin", fn := fun _ => fun
  | [d] => { results := [.lit (.bool true)], args := [d] }
  | _ => none }
def valJoinRow : OpenClaim := { program := "ytebflncfgjnkkaadoor", sum := "f927737e9e3a8d96e019d8e2f07e7efa142a11b1d27a7724ef2ec4d68cb06e8e", func := "doorkeeper/doorkeeperlaw4.ValJoin", spec := "valJoin", inPlace := ["internal/abi.NoEscape", "internal/bytealg.MakeNoZero"], unfollowed := true, recurses := true, named := ["internal/strconv.uint64pow10", "math/bits.deBruijn32tab", "math/bits.deBruijn64tab"], apart := false, laid := [("math/bits.deBruijn32tab", laid_math_bits_deBruijn32tab), ("math/bits.deBruijn64tab", laid_math_bits_deBruijn64tab), ("internal/strconv.uint64pow10", laid_internal_strconv_uint64pow10)] }
def ValJoinSaid : Prop := valJoinRow.holds Tryd.pinned (OpenSpec.ofChange valJoinSpec)

/-- ITS FALSE NEIGHBOUR: 'it returns false'. Refute it at one input. -/
def valJoinWrong : ChangeSpec := { name := "valJoin", fn := fun _ => fun
  | [d] => { results := [.lit (.bool false)], args := [d] }
  | _ => none }
def ValJoinWrongFalsely : Prop := valJoinRow.holds Tryd.pinned (OpenSpec.ofChange valJoinWrong)

/-- 'doorkeeperlaw26.ReportAll': WHATEVER THE INPUT: true; the input reads as it did. -/
def reportAllSpec : ChangeSpec := { name := "reportAll", fn := fun _ => fun
  | [d1, d2, d3] => { results := [.lit (.bool true)], args := [d1, d2, d3] }
  | _ => none }
def reportAllRow : OpenClaim := { program := "ytebflncfgjnkkaadoor", sum := "f927737e9e3a8d96e019d8e2f07e7efa142a11b1d27a7724ef2ec4d68cb06e8e", func := "doorkeeper/doorkeeperlaw26.ReportAll", spec := "reportAll", inPlace := ["internal/abi.NoEscape", "internal/bytealg.MakeNoZero"], unfollowed := true, recurses := true, named := ["internal/strconv.uint64pow10", "math/bits.deBruijn32tab", "math/bits.deBruijn64tab"], apart := false, laid := [("math/bits.deBruijn32tab", laid_math_bits_deBruijn32tab), ("math/bits.deBruijn64tab", laid_math_bits_deBruijn64tab), ("internal/strconv.uint64pow10", laid_internal_strconv_uint64pow10)] }
def ReportAllSaid : Prop := reportAllRow.holds Tryd.pinned (OpenSpec.ofChange reportAllSpec)

/-- ITS FALSE NEIGHBOUR: 'it returns false'. Refute it at one input. -/
def reportAllWrong : ChangeSpec := { name := "reportAll", fn := fun _ => fun
  | [d1, d2, d3] => { results := [.lit (.bool false)], args := [d1, d2, d3] }
  | _ => none }
def ReportAllWrongFalsely : Prop := reportAllRow.holds Tryd.pinned (OpenSpec.ofChange reportAllWrong)

/-- 'doorkeeperlaw26.ReportMade': WHATEVER THE INPUT: true; the input reads as it did. -/
def reportMadeSpec : ChangeSpec := { name := "reportMade", fn := fun _ => fun
  | [d1, d2, d3] => { results := [.lit (.bool true)], args := [d1, d2, d3] }
  | _ => none }
def reportMadeRow : OpenClaim := { program := "ytebflncfgjnkkaadoor", sum := "f927737e9e3a8d96e019d8e2f07e7efa142a11b1d27a7724ef2ec4d68cb06e8e", func := "doorkeeper/doorkeeperlaw26.ReportMade", spec := "reportMade", inPlace := ["internal/abi.NoEscape", "internal/bytealg.MakeNoZero"], unfollowed := true, recurses := true, named := ["internal/strconv.uint64pow10", "math/bits.deBruijn32tab", "math/bits.deBruijn64tab"], apart := false, laid := [("math/bits.deBruijn32tab", laid_math_bits_deBruijn32tab), ("math/bits.deBruijn64tab", laid_math_bits_deBruijn64tab), ("internal/strconv.uint64pow10", laid_internal_strconv_uint64pow10)] }
def ReportMadeSaid : Prop := reportMadeRow.holds Tryd.pinned (OpenSpec.ofChange reportMadeSpec)

/-- ITS FALSE NEIGHBOUR: 'it returns false'. Refute it at one input. -/
def reportMadeWrong : ChangeSpec := { name := "reportMade", fn := fun _ => fun
  | [d1, d2, d3] => { results := [.lit (.bool false)], args := [d1, d2, d3] }
  | _ => none }
def ReportMadeWrongFalsely : Prop := reportMadeRow.holds Tryd.pinned (OpenSpec.ofChange reportMadeWrong)

/-- 'doorkeeperlaw26.ReportLines': WHATEVER THE INPUT: true; the input reads as it did. -/
def reportLinesSpec : ChangeSpec := { name := "reportLines", fn := fun _ => fun
  | [d1, d2, d3] => { results := [.lit (.bool true)], args := [d1, d2, d3] }
  | _ => none }
def reportLinesRow : OpenClaim := { program := "ytebflncfgjnkkaadoor", sum := "f927737e9e3a8d96e019d8e2f07e7efa142a11b1d27a7724ef2ec4d68cb06e8e", func := "doorkeeper/doorkeeperlaw26.ReportLines", spec := "reportLines", inPlace := ["internal/abi.NoEscape", "internal/bytealg.MakeNoZero"], unfollowed := true, recurses := true, named := ["internal/strconv.uint64pow10", "math/bits.deBruijn32tab", "math/bits.deBruijn64tab"], apart := false, laid := [("math/bits.deBruijn32tab", laid_math_bits_deBruijn32tab), ("math/bits.deBruijn64tab", laid_math_bits_deBruijn64tab), ("internal/strconv.uint64pow10", laid_internal_strconv_uint64pow10)] }
def ReportLinesSaid : Prop := reportLinesRow.holds Tryd.pinned (OpenSpec.ofChange reportLinesSpec)

/-- ITS FALSE NEIGHBOUR: 'it returns false'. Refute it at one input. -/
def reportLinesWrong : ChangeSpec := { name := "reportLines", fn := fun _ => fun
  | [d1, d2, d3] => { results := [.lit (.bool false)], args := [d1, d2, d3] }
  | _ => none }
def ReportLinesWrongFalsely : Prop := reportLinesRow.holds Tryd.pinned (OpenSpec.ofChange reportLinesWrong)

/- THE SECOND FORM. 'bulk': how many values and letters a reading holds, each counted each time it is reached (what is shared counts as often as it is met; a slice's spare places count too). A statement '..UptoSaid' is the law's where the arguments, and the package variables that the reading takes, are together of bulk at most 1048576: NARROWER than '..Said'. Prove '..Said' where nothing that the law and all that it calls make is longer than what came in: it says more and counts as full. Else prove '..UptoSaid'. A law counts once. -/
mutual
def uptoBulk {H : Type} : DataW H → Nat
  | .lit (.string bytes) => bytes.length + 1
  | .lit _ => 1
  | .nil => 1
  | .ptr d => uptoBulk d + 1
  | .slice elems spare => uptoBulkAll elems + uptoBulkAll spare + 1
  | .agg parts => uptoBulkAll parts + 1
  | .iface _ d => uptoBulk d + 1
  | .map entries => uptoBulkEntries entries + 1
  | .held _ => 1
def uptoBulkAll {H : Type} : List (DataW H) → Nat
  | [] => 0
  | d :: r => uptoBulk d + uptoBulkAll r
def uptoBulkEntries {H : Type} : List (Lit × DataW H) → Nat
  | [] => 0
  | x :: r => uptoBulkEntry x + uptoBulkEntries r
def uptoBulkEntry {H : Type} : Lit × DataW H → Nat
  | (.string bytes, d) => bytes.length + uptoBulk d + 1
  | (_, d) => uptoBulk d + 1
 end
def uptoSmall : (H : Type) → List (DataW H) → Bool := fun _ ds => decide (uptoBulkAll ds ≤ 1048576)
def OpenSpec.upto (s : _root_.Go.ChangeSpec) : _root_.Go.OpenSpec := { _root_.Go.OpenSpec.ofChange s with cond := some uptoSmall }

/-- 'doorkeeperlaw10.VecSums', WHERE WHAT IT READS IS OF BULK AT MOST 1048576: true; the input reads as it did. -/
def vecSumsUptoRow : OpenClaim := { program := "ytebflncfgjnkkaadoor", sum := "f927737e9e3a8d96e019d8e2f07e7efa142a11b1d27a7724ef2ec4d68cb06e8e", func := "doorkeeper/doorkeeperlaw10.VecSums", spec := "vecSums", unfollowed := true, recurses := true, named := ["internal/strconv.uint64pow10", "math/bits.deBruijn32tab", "math/bits.deBruijn64tab"], apart := false, laid := [("math/bits.deBruijn32tab", laid_math_bits_deBruijn32tab), ("math/bits.deBruijn64tab", laid_math_bits_deBruijn64tab), ("internal/strconv.uint64pow10", laid_internal_strconv_uint64pow10)], narrowed := true }
def VecSumsUptoSaid : Prop := vecSumsUptoRow.holds Tryd.pinned (OpenSpec.upto vecSumsSpec)

/-- 'doorkeeperlaw10.VecOrder', WHERE WHAT IT READS IS OF BULK AT MOST 1048576: true; the input reads as it did. -/
def vecOrderUptoRow : OpenClaim := { program := "ytebflncfgjnkkaadoor", sum := "f927737e9e3a8d96e019d8e2f07e7efa142a11b1d27a7724ef2ec4d68cb06e8e", func := "doorkeeper/doorkeeperlaw10.VecOrder", spec := "vecOrder", unfollowed := true, recurses := true, named := ["internal/strconv.uint64pow10", "math/bits.deBruijn32tab", "math/bits.deBruijn64tab"], apart := false, laid := [("math/bits.deBruijn32tab", laid_math_bits_deBruijn32tab), ("math/bits.deBruijn64tab", laid_math_bits_deBruijn64tab), ("internal/strconv.uint64pow10", laid_internal_strconv_uint64pow10)], narrowed := true }
def VecOrderUptoSaid : Prop := vecOrderUptoRow.holds Tryd.pinned (OpenSpec.upto vecOrderSpec)

/-- 'doorkeeperlaw10.VecAll', WHERE WHAT IT READS IS OF BULK AT MOST 1048576: true; the input reads as it did. -/
def vecAllUptoRow : OpenClaim := { program := "ytebflncfgjnkkaadoor", sum := "f927737e9e3a8d96e019d8e2f07e7efa142a11b1d27a7724ef2ec4d68cb06e8e", func := "doorkeeper/doorkeeperlaw10.VecAll", spec := "vecAll", unfollowed := true, recurses := true, named := ["internal/strconv.uint64pow10", "math/bits.deBruijn32tab", "math/bits.deBruijn64tab"], apart := false, laid := [("math/bits.deBruijn32tab", laid_math_bits_deBruijn32tab), ("math/bits.deBruijn64tab", laid_math_bits_deBruijn64tab), ("internal/strconv.uint64pow10", laid_internal_strconv_uint64pow10)], narrowed := true }
def VecAllUptoSaid : Prop := vecAllUptoRow.holds Tryd.pinned (OpenSpec.upto vecAllSpec)

/-- 'doorkeeperlaw4.ValAll', WHERE WHAT IT READS IS OF BULK AT MOST 1048576: true; the input reads as it did. -/
def valAllUptoRow : OpenClaim := { program := "ytebflncfgjnkkaadoor", sum := "f927737e9e3a8d96e019d8e2f07e7efa142a11b1d27a7724ef2ec4d68cb06e8e", func := "doorkeeper/doorkeeperlaw4.ValAll", spec := "valAll", unfollowed := true, recurses := true, named := ["internal/strconv.uint64pow10", "math/bits.deBruijn32tab", "math/bits.deBruijn64tab"], loops := true, apart := false, laid := [("math/bits.deBruijn32tab", laid_math_bits_deBruijn32tab), ("math/bits.deBruijn64tab", laid_math_bits_deBruijn64tab), ("internal/strconv.uint64pow10", laid_internal_strconv_uint64pow10)], narrowed := true }
def ValAllUptoSaid : Prop := valAllUptoRow.holds Tryd.pinned (OpenSpec.upto valAllSpec)

/-- 'doorkeeperlaw4.ValJoin', WHERE WHAT IT READS IS OF BULK AT MOST 1048576: true; the input reads as it did. -/
def valJoinUptoRow : OpenClaim := { program := "ytebflncfgjnkkaadoor", sum := "f927737e9e3a8d96e019d8e2f07e7efa142a11b1d27a7724ef2ec4d68cb06e8e", func := "doorkeeper/doorkeeperlaw4.ValJoin", spec := "valJoin", inPlace := ["internal/abi.NoEscape", "internal/bytealg.MakeNoZero"], unfollowed := true, recurses := true, named := ["internal/strconv.uint64pow10", "math/bits.deBruijn32tab", "math/bits.deBruijn64tab"], apart := false, laid := [("math/bits.deBruijn32tab", laid_math_bits_deBruijn32tab), ("math/bits.deBruijn64tab", laid_math_bits_deBruijn64tab), ("internal/strconv.uint64pow10", laid_internal_strconv_uint64pow10)], narrowed := true }
def ValJoinUptoSaid : Prop := valJoinUptoRow.holds Tryd.pinned (OpenSpec.upto valJoinSpec)

/-- 'doorkeeperlaw26.ReportAll', WHERE WHAT IT READS IS OF BULK AT MOST 1048576: true; the input reads as it did. -/
def reportAllUptoRow : OpenClaim := { program := "ytebflncfgjnkkaadoor", sum := "f927737e9e3a8d96e019d8e2f07e7efa142a11b1d27a7724ef2ec4d68cb06e8e", func := "doorkeeper/doorkeeperlaw26.ReportAll", spec := "reportAll", inPlace := ["internal/abi.NoEscape", "internal/bytealg.MakeNoZero"], unfollowed := true, recurses := true, named := ["internal/strconv.uint64pow10", "math/bits.deBruijn32tab", "math/bits.deBruijn64tab"], apart := false, laid := [("math/bits.deBruijn32tab", laid_math_bits_deBruijn32tab), ("math/bits.deBruijn64tab", laid_math_bits_deBruijn64tab), ("internal/strconv.uint64pow10", laid_internal_strconv_uint64pow10)], narrowed := true }
def ReportAllUptoSaid : Prop := reportAllUptoRow.holds Tryd.pinned (OpenSpec.upto reportAllSpec)

/-- 'doorkeeperlaw26.ReportMade', WHERE WHAT IT READS IS OF BULK AT MOST 1048576: true; the input reads as it did. -/
def reportMadeUptoRow : OpenClaim := { program := "ytebflncfgjnkkaadoor", sum := "f927737e9e3a8d96e019d8e2f07e7efa142a11b1d27a7724ef2ec4d68cb06e8e", func := "doorkeeper/doorkeeperlaw26.ReportMade", spec := "reportMade", inPlace := ["internal/abi.NoEscape", "internal/bytealg.MakeNoZero"], unfollowed := true, recurses := true, named := ["internal/strconv.uint64pow10", "math/bits.deBruijn32tab", "math/bits.deBruijn64tab"], apart := false, laid := [("math/bits.deBruijn32tab", laid_math_bits_deBruijn32tab), ("math/bits.deBruijn64tab", laid_math_bits_deBruijn64tab), ("internal/strconv.uint64pow10", laid_internal_strconv_uint64pow10)], narrowed := true }
def ReportMadeUptoSaid : Prop := reportMadeUptoRow.holds Tryd.pinned (OpenSpec.upto reportMadeSpec)

/-- 'doorkeeperlaw26.ReportLines', WHERE WHAT IT READS IS OF BULK AT MOST 1048576: true; the input reads as it did. -/
def reportLinesUptoRow : OpenClaim := { program := "ytebflncfgjnkkaadoor", sum := "f927737e9e3a8d96e019d8e2f07e7efa142a11b1d27a7724ef2ec4d68cb06e8e", func := "doorkeeper/doorkeeperlaw26.ReportLines", spec := "reportLines", inPlace := ["internal/abi.NoEscape", "internal/bytealg.MakeNoZero"], unfollowed := true, recurses := true, named := ["internal/strconv.uint64pow10", "math/bits.deBruijn32tab", "math/bits.deBruijn64tab"], apart := false, laid := [("math/bits.deBruijn32tab", laid_math_bits_deBruijn32tab), ("math/bits.deBruijn64tab", laid_math_bits_deBruijn64tab), ("internal/strconv.uint64pow10", laid_internal_strconv_uint64pow10)], narrowed := true }
def ReportLinesUptoSaid : Prop := reportLinesUptoRow.holds Tryd.pinned (OpenSpec.upto reportLinesSpec)

end Rows
end Go.Proofs.YtebflncfgjnkkaaDoor
