/-
  DERIVED. GIVEN WITH THE SEED: THE CARDS: each row of YtebflncfgjnkkaaDoorRows.lean that lists a variable, with what it lists TIED to the program's text (the seventh form; the later family's looks); each row that meets fmt, with fmt's text TOLD by the authors' own Lean function (tested against real Go, not proved from fmt's source: count such statements apart). THE CARD IS WHAT COUNTS. Prove the row's statement (the work); the ties are given (YtebflncfgjnkkaaDoorTie.lean); close each card by the builder's one call (the guide's Derived/Test/ToyasCard.lean, 'card_holds'). Laid BY PROGRAM, IN A SANDBOX (cutbox-door.mjs). By AI agents, Wed Nov 11 2026. No macro, syntax, notation, axiom, sorry.
-/
import Derived.Test.YtebflncfgjnkkaaDoorRows
import GoSem.ClaimSeven
namespace Go.Proofs.YtebflncfgjnkkaaDoor
namespace Rows

/-- THE TIED CARD OF 'doorkeeperlaw10.VecSums'. -/
def vecSumsCard : Claim7 := { stood := { row := vecSumsRow, standIns := [], harness := (true, "8f8e100a7bda42377c1b27ecd1aa3c7dd1feafc04d3aa8e25708691f03919d7d"), looks := false }, kinds := [], alts := [], laidByText := true, laidKinds := [.data, .data, .data], laidTests := true, laidLooks := .later }
def VecSumsCardSaid : Prop := Claim7.holds Tryd.pinned (.plain (OpenSpec.ofChange vecSumsSpec)) vecSumsCard

/-- THE TIED CARD OF 'doorkeeperlaw10.VecOrder'. -/
def vecOrderCard : Claim7 := { stood := { row := vecOrderRow, standIns := [], harness := (true, "8f8e100a7bda42377c1b27ecd1aa3c7dd1feafc04d3aa8e25708691f03919d7d"), looks := false }, kinds := [], alts := [], laidByText := true, laidKinds := [.data, .data, .data], laidTests := true, laidLooks := .later }
def VecOrderCardSaid : Prop := Claim7.holds Tryd.pinned (.plain (OpenSpec.ofChange vecOrderSpec)) vecOrderCard

/-- THE TIED CARD OF 'doorkeeperlaw10.VecAll'. -/
def vecAllCard : Claim7 := { stood := { row := vecAllRow, standIns := [], harness := (true, "8f8e100a7bda42377c1b27ecd1aa3c7dd1feafc04d3aa8e25708691f03919d7d"), looks := false }, kinds := [], alts := [], laidByText := true, laidKinds := [.data, .data, .data], laidTests := true, laidLooks := .later }
def VecAllCardSaid : Prop := Claim7.holds Tryd.pinned (.plain (OpenSpec.ofChange vecAllSpec)) vecAllCard

/-- THE TIED CARD OF 'doorkeeperlaw4.ValAll'. -/
def valAllCard : Claim7 := { stood := { row := valAllRow, standIns := [], harness := (true, "8f8e100a7bda42377c1b27ecd1aa3c7dd1feafc04d3aa8e25708691f03919d7d"), looks := false }, kinds := [], alts := [], laidByText := true, laidKinds := [.data, .data, .data], laidTests := true, laidLooks := .later }
def ValAllCardSaid : Prop := Claim7.holds Tryd.pinned (.plain (OpenSpec.ofChange valAllSpec)) valAllCard

/-- THE TIED CARD OF 'doorkeeperlaw4.ValJoin'. -/
def valJoinCard : Claim7 := { stood := { row := valJoinRow, standIns := [], harness := (true, "8f8e100a7bda42377c1b27ecd1aa3c7dd1feafc04d3aa8e25708691f03919d7d"), looks := false }, kinds := [], alts := [], laidByText := true, laidKinds := [.data, .data, .data], laidTests := true, laidLooks := .later }
def ValJoinCardSaid : Prop := Claim7.holds Tryd.pinned (.plain (OpenSpec.ofChange valJoinSpec)) valJoinCard

/-- THE TIED CARD OF 'doorkeeperlaw26.ReportAll'. -/
def reportAllCard : Claim7 := { stood := { row := reportAllRow, standIns := [], harness := (true, "8f8e100a7bda42377c1b27ecd1aa3c7dd1feafc04d3aa8e25708691f03919d7d"), looks := false }, kinds := [], alts := [], laidByText := true, laidKinds := [.data, .data, .data], laidTests := true, laidLooks := .later }
def ReportAllCardSaid : Prop := Claim7.holds Tryd.pinned (.plain (OpenSpec.ofChange reportAllSpec)) reportAllCard

/-- THE TIED CARD OF 'doorkeeperlaw26.ReportMade'. -/
def reportMadeCard : Claim7 := { stood := { row := reportMadeRow, standIns := [], harness := (true, "8f8e100a7bda42377c1b27ecd1aa3c7dd1feafc04d3aa8e25708691f03919d7d"), looks := false }, kinds := [], alts := [], laidByText := true, laidKinds := [.data, .data, .data], laidTests := true, laidLooks := .later }
def ReportMadeCardSaid : Prop := Claim7.holds Tryd.pinned (.plain (OpenSpec.ofChange reportMadeSpec)) reportMadeCard

/-- THE TIED CARD OF 'doorkeeperlaw26.ReportLines'. -/
def reportLinesCard : Claim7 := { stood := { row := reportLinesRow, standIns := [], harness := (true, "8f8e100a7bda42377c1b27ecd1aa3c7dd1feafc04d3aa8e25708691f03919d7d"), looks := false }, kinds := [], alts := [], laidByText := true, laidKinds := [.data, .data, .data], laidTests := true, laidLooks := .later }
def ReportLinesCardSaid : Prop := Claim7.holds Tryd.pinned (.plain (OpenSpec.ofChange reportLinesSpec)) reportLinesCard

/-- THE SECOND FORM's CARD OF 'doorkeeperlaw10.VecSums'. -/
def vecSumsUptoCard : Claim7 := { stood := { row := vecSumsUptoRow, standIns := [], harness := (true, "8f8e100a7bda42377c1b27ecd1aa3c7dd1feafc04d3aa8e25708691f03919d7d"), looks := false }, kinds := [], alts := [], laidByText := true, laidKinds := [.data, .data, .data], laidTests := true, laidLooks := .later }
def VecSumsUptoCardSaid : Prop := Claim7.holds Tryd.pinned (.plain (OpenSpec.upto vecSumsSpec)) vecSumsUptoCard

/-- THE SECOND FORM's CARD OF 'doorkeeperlaw10.VecOrder'. -/
def vecOrderUptoCard : Claim7 := { stood := { row := vecOrderUptoRow, standIns := [], harness := (true, "8f8e100a7bda42377c1b27ecd1aa3c7dd1feafc04d3aa8e25708691f03919d7d"), looks := false }, kinds := [], alts := [], laidByText := true, laidKinds := [.data, .data, .data], laidTests := true, laidLooks := .later }
def VecOrderUptoCardSaid : Prop := Claim7.holds Tryd.pinned (.plain (OpenSpec.upto vecOrderSpec)) vecOrderUptoCard

/-- THE SECOND FORM's CARD OF 'doorkeeperlaw10.VecAll'. -/
def vecAllUptoCard : Claim7 := { stood := { row := vecAllUptoRow, standIns := [], harness := (true, "8f8e100a7bda42377c1b27ecd1aa3c7dd1feafc04d3aa8e25708691f03919d7d"), looks := false }, kinds := [], alts := [], laidByText := true, laidKinds := [.data, .data, .data], laidTests := true, laidLooks := .later }
def VecAllUptoCardSaid : Prop := Claim7.holds Tryd.pinned (.plain (OpenSpec.upto vecAllSpec)) vecAllUptoCard

/-- THE SECOND FORM's CARD OF 'doorkeeperlaw4.ValAll'. -/
def valAllUptoCard : Claim7 := { stood := { row := valAllUptoRow, standIns := [], harness := (true, "8f8e100a7bda42377c1b27ecd1aa3c7dd1feafc04d3aa8e25708691f03919d7d"), looks := false }, kinds := [], alts := [], laidByText := true, laidKinds := [.data, .data, .data], laidTests := true, laidLooks := .later }
def ValAllUptoCardSaid : Prop := Claim7.holds Tryd.pinned (.plain (OpenSpec.upto valAllSpec)) valAllUptoCard

/-- THE SECOND FORM's CARD OF 'doorkeeperlaw4.ValJoin'. -/
def valJoinUptoCard : Claim7 := { stood := { row := valJoinUptoRow, standIns := [], harness := (true, "8f8e100a7bda42377c1b27ecd1aa3c7dd1feafc04d3aa8e25708691f03919d7d"), looks := false }, kinds := [], alts := [], laidByText := true, laidKinds := [.data, .data, .data], laidTests := true, laidLooks := .later }
def ValJoinUptoCardSaid : Prop := Claim7.holds Tryd.pinned (.plain (OpenSpec.upto valJoinSpec)) valJoinUptoCard

/-- THE SECOND FORM's CARD OF 'doorkeeperlaw26.ReportAll'. -/
def reportAllUptoCard : Claim7 := { stood := { row := reportAllUptoRow, standIns := [], harness := (true, "8f8e100a7bda42377c1b27ecd1aa3c7dd1feafc04d3aa8e25708691f03919d7d"), looks := false }, kinds := [], alts := [], laidByText := true, laidKinds := [.data, .data, .data], laidTests := true, laidLooks := .later }
def ReportAllUptoCardSaid : Prop := Claim7.holds Tryd.pinned (.plain (OpenSpec.upto reportAllSpec)) reportAllUptoCard

/-- THE SECOND FORM's CARD OF 'doorkeeperlaw26.ReportMade'. -/
def reportMadeUptoCard : Claim7 := { stood := { row := reportMadeUptoRow, standIns := [], harness := (true, "8f8e100a7bda42377c1b27ecd1aa3c7dd1feafc04d3aa8e25708691f03919d7d"), looks := false }, kinds := [], alts := [], laidByText := true, laidKinds := [.data, .data, .data], laidTests := true, laidLooks := .later }
def ReportMadeUptoCardSaid : Prop := Claim7.holds Tryd.pinned (.plain (OpenSpec.upto reportMadeSpec)) reportMadeUptoCard

/-- THE SECOND FORM's CARD OF 'doorkeeperlaw26.ReportLines'. -/
def reportLinesUptoCard : Claim7 := { stood := { row := reportLinesUptoRow, standIns := [], harness := (true, "8f8e100a7bda42377c1b27ecd1aa3c7dd1feafc04d3aa8e25708691f03919d7d"), looks := false }, kinds := [], alts := [], laidByText := true, laidKinds := [.data, .data, .data], laidTests := true, laidLooks := .later }
def ReportLinesUptoCardSaid : Prop := Claim7.holds Tryd.pinned (.plain (OpenSpec.upto reportLinesSpec)) reportLinesUptoCard
end Rows
end Go.Proofs.YtebflncfgjnkkaaDoor
