/-
  DERIVED. GIVEN WITH THE SEED: THE CARDS: each row of YtfbcnpbhhooapaaGreatDoorRows.lean that lists a variable, with what it lists TIED to the program's text (the seventh form; the later family's looks); each row that meets fmt, with fmt's text TOLD by the authors' own Lean function (tested against real Go, not proved from fmt's source: count such statements apart). THE CARD IS WHAT COUNTS. Prove the row's statement (the work); the ties are given (YtfbcnpbhhooapaaGreatDoorTie.lean); close each card by the builder's one call (the guide's Derived/Test/ToyasCard.lean, 'card_holds'). Laid BY PROGRAM, IN A SANDBOX (cutbox-door.mjs). By AI agents, Wed Nov 11 2026. No macro, syntax, notation, axiom, sorry.
-/
import Derived.Test.YtfbcnpbhhooapaaGreatDoorRows
import GoSem.ClaimSeven
namespace Go.Proofs.YtfbcnpbhhooapaaGreatDoor
namespace Rows

/-- THE TIED CARD OF 'doorkeeperlaw2.ParseBlocks'. -/
def parseBlocksCard : Claim7 := { stood := { row := parseBlocksRow, standIns := [], harness := (true, "50dd2dc8a02a4d1ae4c67b1ced7820ee9bca0a6feb1f3ea3771ed00bfb89d9ef"), looks := true }, kinds := [], alts := [], laidByText := true, laidKinds := [.data, .data, .data, .data, .sentinel, .sentinel, .pinned], laidTests := true, laidLooks := .later }
def ParseBlocksCardSaid : Prop := Claim7.holds Tryz.pinned (.plain (OpenSpec.ofChange parseBlocksSpec)) parseBlocksCard

/-- THE TIED CARD OF 'doorkeeperlaw2.ParseRefuses'. -/
def parseRefusesCard : Claim7 := { stood := { row := parseRefusesRow, standIns := [], harness := (true, "50dd2dc8a02a4d1ae4c67b1ced7820ee9bca0a6feb1f3ea3771ed00bfb89d9ef"), looks := true }, kinds := [], alts := [], laidByText := true, laidKinds := [.data, .data, .data, .data, .sentinel, .sentinel, .pinned], laidTests := true, laidLooks := .later }
def ParseRefusesCardSaid : Prop := Claim7.holds Tryz.pinned (.plain (OpenSpec.ofChange parseRefusesSpec)) parseRefusesCard

/-- THE TIED CARD OF 'doorkeeperlaw2.ParseBrackets'. -/
def parseBracketsCard : Claim7 := { stood := { row := parseBracketsRow, standIns := [], harness := (true, "50dd2dc8a02a4d1ae4c67b1ced7820ee9bca0a6feb1f3ea3771ed00bfb89d9ef"), looks := true }, kinds := [], alts := [], laidByText := true, laidKinds := [.data, .data, .data, .data, .sentinel, .sentinel, .pinned], laidTests := true, laidLooks := .later }
def ParseBracketsCardSaid : Prop := Claim7.holds Tryz.pinned (.plain (OpenSpec.ofChange parseBracketsSpec)) parseBracketsCard

/-- THE TIED CARD OF 'doorkeeperlaw3.ShowMade'. -/
def showMadeCard : Claim7 := { stood := { row := showMadeRow, standIns := [], harness := (true, "50dd2dc8a02a4d1ae4c67b1ced7820ee9bca0a6feb1f3ea3771ed00bfb89d9ef"), looks := true }, kinds := [], alts := [], laidByText := true, laidKinds := [.data, .data, .data, .sentinel, .sentinel], laidTests := true, laidLooks := .later }
def ShowMadeCardSaid : Prop := Claim7.holds Tryz.pinned (.plain (OpenSpec.ofChange showMadeSpec)) showMadeCard

/-- THE TIED CARD OF 'doorkeeperlaw3.ShowLeast'. -/
def showLeastCard : Claim7 := { stood := { row := showLeastRow, standIns := [], harness := (true, "50dd2dc8a02a4d1ae4c67b1ced7820ee9bca0a6feb1f3ea3771ed00bfb89d9ef"), looks := true }, kinds := [], alts := [], laidByText := true, laidKinds := [.data, .data, .data, .sentinel, .sentinel], laidTests := true, laidLooks := .later }
def ShowLeastCardSaid : Prop := Claim7.holds Tryz.pinned (.plain (OpenSpec.ofChange showLeastSpec)) showLeastCard

/-- THE TIED CARD OF 'doorkeeperlaw2.ParseOrder'. -/
def parseOrderCard : Claim7 := { stood := { row := parseOrderRow, standIns := [], harness := (true, "50dd2dc8a02a4d1ae4c67b1ced7820ee9bca0a6feb1f3ea3771ed00bfb89d9ef"), looks := true }, kinds := [], alts := [], laidByText := true, laidKinds := [.data, .data, .data, .data, .sentinel, .sentinel, .pinned], laidTests := true, laidLooks := .later }
def ParseOrderCardSaid : Prop := Claim7.holds Tryz.pinned (.plain (OpenSpec.ofChange parseOrderSpec)) parseOrderCard

/-- THE TIED CARD OF 'doorkeeperlaw2.ParseDeep'. -/
def parseDeepCard : Claim7 := { stood := { row := parseDeepRow, standIns := [], harness := (true, "50dd2dc8a02a4d1ae4c67b1ced7820ee9bca0a6feb1f3ea3771ed00bfb89d9ef"), looks := true }, kinds := [], alts := [], laidByText := true, laidKinds := [.data, .data, .data, .data, .sentinel, .sentinel, .pinned], laidTests := true, laidLooks := .later }
def ParseDeepCardSaid : Prop := Claim7.holds Tryz.pinned (.plain (OpenSpec.ofChange parseDeepSpec)) parseDeepCard

/-- THE TIED CARD OF 'doorkeeperlaw2.ParseTrees'. -/
def parseTreesCard : Claim7 := { stood := { row := parseTreesRow, standIns := [], harness := (true, "50dd2dc8a02a4d1ae4c67b1ced7820ee9bca0a6feb1f3ea3771ed00bfb89d9ef"), looks := true }, kinds := [], alts := [], laidByText := true, laidKinds := [.data, .data, .data, .data, .sentinel, .sentinel, .pinned], laidTests := true, laidLooks := .later }
def ParseTreesCardSaid : Prop := Claim7.holds Tryz.pinned (.plain (OpenSpec.ofChange parseTreesSpec)) parseTreesCard

/-- THE TIED CARD OF 'doorkeeperlaw2.ParseTexts'. -/
def parseTextsCard : Claim7 := { stood := { row := parseTextsRow, standIns := [], harness := (true, "50dd2dc8a02a4d1ae4c67b1ced7820ee9bca0a6feb1f3ea3771ed00bfb89d9ef"), looks := true }, kinds := [], alts := [], laidByText := true, laidKinds := [.data, .data, .data, .data, .sentinel, .sentinel, .pinned], laidTests := true, laidLooks := .later }
def ParseTextsCardSaid : Prop := Claim7.holds Tryz.pinned (.plain (OpenSpec.ofChange parseTextsSpec)) parseTextsCard

/-- THE TIED CARD OF 'doorkeeperlaw3.ShowAll'. -/
def showAllCard : Claim7 := { stood := { row := showAllRow, standIns := [], harness := (true, "50dd2dc8a02a4d1ae4c67b1ced7820ee9bca0a6feb1f3ea3771ed00bfb89d9ef"), looks := true }, kinds := [], alts := [], laidByText := true, laidKinds := [.data, .data, .data, .data, .sentinel, .sentinel, .pinned], laidTests := true, laidLooks := .later }
def ShowAllCardSaid : Prop := Claim7.holds Tryz.pinned (.plain (OpenSpec.ofChange showAllSpec)) showAllCard

/-- THE TIED CARD OF 'doorkeeperlaw3.ShowTexts'. -/
def showTextsCard : Claim7 := { stood := { row := showTextsRow, standIns := [], harness := (true, "50dd2dc8a02a4d1ae4c67b1ced7820ee9bca0a6feb1f3ea3771ed00bfb89d9ef"), looks := true }, kinds := [], alts := [], laidByText := true, laidKinds := [.data, .data, .data, .data, .sentinel, .sentinel, .pinned], laidTests := true, laidLooks := .later }
def ShowTextsCardSaid : Prop := Claim7.holds Tryz.pinned (.plain (OpenSpec.ofChange showTextsSpec)) showTextsCard

/-- THE TIED CARD OF 'doorkeeperlaw3.ShowBlocks'. -/
def showBlocksCard : Claim7 := { stood := { row := showBlocksRow, standIns := [], harness := (true, "50dd2dc8a02a4d1ae4c67b1ced7820ee9bca0a6feb1f3ea3771ed00bfb89d9ef"), looks := true }, kinds := [], alts := [], laidByText := true, laidKinds := [.data, .data, .data, .data, .sentinel, .sentinel, .pinned], laidTests := true, laidLooks := .later }
def ShowBlocksCardSaid : Prop := Claim7.holds Tryz.pinned (.plain (OpenSpec.ofChange showBlocksSpec)) showBlocksCard

/-- THE SECOND FORM's CARD OF 'doorkeeperlaw2.ParseBlocks'. -/
def parseBlocksUptoCard : Claim7 := { stood := { row := parseBlocksUptoRow, standIns := [], harness := (true, "50dd2dc8a02a4d1ae4c67b1ced7820ee9bca0a6feb1f3ea3771ed00bfb89d9ef"), looks := true }, kinds := [], alts := [], laidByText := true, laidKinds := [.data, .data, .data, .data, .sentinel, .sentinel, .pinned], laidTests := true, laidLooks := .later }
def ParseBlocksUptoCardSaid : Prop := Claim7.holds Tryz.pinned (.plain (OpenSpec.upto parseBlocksSpec)) parseBlocksUptoCard

/-- THE SECOND FORM's CARD OF 'doorkeeperlaw2.ParseRefuses'. -/
def parseRefusesUptoCard : Claim7 := { stood := { row := parseRefusesUptoRow, standIns := [], harness := (true, "50dd2dc8a02a4d1ae4c67b1ced7820ee9bca0a6feb1f3ea3771ed00bfb89d9ef"), looks := true }, kinds := [], alts := [], laidByText := true, laidKinds := [.data, .data, .data, .data, .sentinel, .sentinel, .pinned], laidTests := true, laidLooks := .later }
def ParseRefusesUptoCardSaid : Prop := Claim7.holds Tryz.pinned (.plain (OpenSpec.upto parseRefusesSpec)) parseRefusesUptoCard

/-- THE SECOND FORM's CARD OF 'doorkeeperlaw2.ParseBrackets'. -/
def parseBracketsUptoCard : Claim7 := { stood := { row := parseBracketsUptoRow, standIns := [], harness := (true, "50dd2dc8a02a4d1ae4c67b1ced7820ee9bca0a6feb1f3ea3771ed00bfb89d9ef"), looks := true }, kinds := [], alts := [], laidByText := true, laidKinds := [.data, .data, .data, .data, .sentinel, .sentinel, .pinned], laidTests := true, laidLooks := .later }
def ParseBracketsUptoCardSaid : Prop := Claim7.holds Tryz.pinned (.plain (OpenSpec.upto parseBracketsSpec)) parseBracketsUptoCard

/-- THE SECOND FORM's CARD OF 'doorkeeperlaw3.ShowMade'. -/
def showMadeUptoCard : Claim7 := { stood := { row := showMadeUptoRow, standIns := [], harness := (true, "50dd2dc8a02a4d1ae4c67b1ced7820ee9bca0a6feb1f3ea3771ed00bfb89d9ef"), looks := true }, kinds := [], alts := [], laidByText := true, laidKinds := [.data, .data, .data, .sentinel, .sentinel], laidTests := true, laidLooks := .later }
def ShowMadeUptoCardSaid : Prop := Claim7.holds Tryz.pinned (.plain (OpenSpec.upto showMadeSpec)) showMadeUptoCard

/-- THE SECOND FORM's CARD OF 'doorkeeperlaw3.ShowLeast'. -/
def showLeastUptoCard : Claim7 := { stood := { row := showLeastUptoRow, standIns := [], harness := (true, "50dd2dc8a02a4d1ae4c67b1ced7820ee9bca0a6feb1f3ea3771ed00bfb89d9ef"), looks := true }, kinds := [], alts := [], laidByText := true, laidKinds := [.data, .data, .data, .sentinel, .sentinel], laidTests := true, laidLooks := .later }
def ShowLeastUptoCardSaid : Prop := Claim7.holds Tryz.pinned (.plain (OpenSpec.upto showLeastSpec)) showLeastUptoCard

/-- THE SECOND FORM's CARD OF 'doorkeeperlaw2.ParseOrder'. -/
def parseOrderUptoCard : Claim7 := { stood := { row := parseOrderUptoRow, standIns := [], harness := (true, "50dd2dc8a02a4d1ae4c67b1ced7820ee9bca0a6feb1f3ea3771ed00bfb89d9ef"), looks := true }, kinds := [], alts := [], laidByText := true, laidKinds := [.data, .data, .data, .data, .sentinel, .sentinel, .pinned], laidTests := true, laidLooks := .later }
def ParseOrderUptoCardSaid : Prop := Claim7.holds Tryz.pinned (.plain (OpenSpec.upto parseOrderSpec)) parseOrderUptoCard

/-- THE SECOND FORM's CARD OF 'doorkeeperlaw2.ParseDeep'. -/
def parseDeepUptoCard : Claim7 := { stood := { row := parseDeepUptoRow, standIns := [], harness := (true, "50dd2dc8a02a4d1ae4c67b1ced7820ee9bca0a6feb1f3ea3771ed00bfb89d9ef"), looks := true }, kinds := [], alts := [], laidByText := true, laidKinds := [.data, .data, .data, .data, .sentinel, .sentinel, .pinned], laidTests := true, laidLooks := .later }
def ParseDeepUptoCardSaid : Prop := Claim7.holds Tryz.pinned (.plain (OpenSpec.upto parseDeepSpec)) parseDeepUptoCard

/-- THE SECOND FORM's CARD OF 'doorkeeperlaw2.ParseTrees'. -/
def parseTreesUptoCard : Claim7 := { stood := { row := parseTreesUptoRow, standIns := [], harness := (true, "50dd2dc8a02a4d1ae4c67b1ced7820ee9bca0a6feb1f3ea3771ed00bfb89d9ef"), looks := true }, kinds := [], alts := [], laidByText := true, laidKinds := [.data, .data, .data, .data, .sentinel, .sentinel, .pinned], laidTests := true, laidLooks := .later }
def ParseTreesUptoCardSaid : Prop := Claim7.holds Tryz.pinned (.plain (OpenSpec.upto parseTreesSpec)) parseTreesUptoCard

/-- THE SECOND FORM's CARD OF 'doorkeeperlaw2.ParseTexts'. -/
def parseTextsUptoCard : Claim7 := { stood := { row := parseTextsUptoRow, standIns := [], harness := (true, "50dd2dc8a02a4d1ae4c67b1ced7820ee9bca0a6feb1f3ea3771ed00bfb89d9ef"), looks := true }, kinds := [], alts := [], laidByText := true, laidKinds := [.data, .data, .data, .data, .sentinel, .sentinel, .pinned], laidTests := true, laidLooks := .later }
def ParseTextsUptoCardSaid : Prop := Claim7.holds Tryz.pinned (.plain (OpenSpec.upto parseTextsSpec)) parseTextsUptoCard

/-- THE SECOND FORM's CARD OF 'doorkeeperlaw3.ShowAll'. -/
def showAllUptoCard : Claim7 := { stood := { row := showAllUptoRow, standIns := [], harness := (true, "50dd2dc8a02a4d1ae4c67b1ced7820ee9bca0a6feb1f3ea3771ed00bfb89d9ef"), looks := true }, kinds := [], alts := [], laidByText := true, laidKinds := [.data, .data, .data, .data, .sentinel, .sentinel, .pinned], laidTests := true, laidLooks := .later }
def ShowAllUptoCardSaid : Prop := Claim7.holds Tryz.pinned (.plain (OpenSpec.upto showAllSpec)) showAllUptoCard

/-- THE SECOND FORM's CARD OF 'doorkeeperlaw3.ShowTexts'. -/
def showTextsUptoCard : Claim7 := { stood := { row := showTextsUptoRow, standIns := [], harness := (true, "50dd2dc8a02a4d1ae4c67b1ced7820ee9bca0a6feb1f3ea3771ed00bfb89d9ef"), looks := true }, kinds := [], alts := [], laidByText := true, laidKinds := [.data, .data, .data, .data, .sentinel, .sentinel, .pinned], laidTests := true, laidLooks := .later }
def ShowTextsUptoCardSaid : Prop := Claim7.holds Tryz.pinned (.plain (OpenSpec.upto showTextsSpec)) showTextsUptoCard

/-- THE SECOND FORM's CARD OF 'doorkeeperlaw3.ShowBlocks'. -/
def showBlocksUptoCard : Claim7 := { stood := { row := showBlocksUptoRow, standIns := [], harness := (true, "50dd2dc8a02a4d1ae4c67b1ced7820ee9bca0a6feb1f3ea3771ed00bfb89d9ef"), looks := true }, kinds := [], alts := [], laidByText := true, laidKinds := [.data, .data, .data, .data, .sentinel, .sentinel, .pinned], laidTests := true, laidLooks := .later }
def ShowBlocksUptoCardSaid : Prop := Claim7.holds Tryz.pinned (.plain (OpenSpec.upto showBlocksSpec)) showBlocksUptoCard
end Rows
end Go.Proofs.YtfbcnpbhhooapaaGreatDoor
