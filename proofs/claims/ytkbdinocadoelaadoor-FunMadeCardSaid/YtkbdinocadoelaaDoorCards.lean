/-
  DERIVED. GIVEN WITH THE SEED: THE CARDS: each row of YtkbdinocadoelaaDoorRows.lean that lists a variable, with what it lists TIED to the program's text (the seventh form; the later family's looks); each row that meets fmt, with fmt's text TOLD by the authors' own Lean function (tested against real Go, not proved from fmt's source: count such statements apart). THE CARD IS WHAT COUNTS. Prove the row's statement (the work); the ties are given (YtkbdinocadoelaaDoorTie.lean); close each card by the builder's one call (the guide's Derived/Test/ToyasCard.lean, 'card_holds'). Laid BY PROGRAM, IN A SANDBOX (cutbox-door.mjs). By AI agents, Wed Nov 11 2026. No macro, syntax, notation, axiom, sorry.
-/
import Derived.Test.YtkbdinocadoelaaDoorRows
import GoSem.ClaimSeven
namespace Go.Proofs.YtkbdinocadoelaaDoor
namespace Rows

/-- THE TIED CARD OF 'doorkeeperlaw5.FunAll'. -/
def funAllCard : Claim7 := { stood := { row := funAllRow, standIns := [], harness := (true, "30e8826062dd684cc90936bdca206840797cd54c72656329e1e8ba7877b56972"), looks := false }, kinds := [], alts := [], laidByText := true, laidKinds := [.data, .data, .data], laidTests := true, laidLooks := .later }
def FunAllCardSaid : Prop := Claim7.holds Tryd.pinned (.plain (OpenSpec.ofChange funAllSpec)) funAllCard

/-- THE TIED CARD OF 'doorkeeperlaw5.FunMade'. -/
def funMadeCard : Claim7 := { stood := { row := funMadeRow, standIns := [], harness := (true, "30e8826062dd684cc90936bdca206840797cd54c72656329e1e8ba7877b56972"), looks := false }, kinds := [], alts := [], laidByText := true, laidKinds := [.data, .data, .data], laidTests := true, laidLooks := .later }
def FunMadeCardSaid : Prop := Claim7.holds Tryd.pinned (.plain (OpenSpec.ofChange funMadeSpec)) funMadeCard

/-- THE TIED CARD OF 'doorkeeperlaw5.FunNumbers'. -/
def funNumbersCard : Claim7 := { stood := { row := funNumbersRow, standIns := [], harness := (true, "30e8826062dd684cc90936bdca206840797cd54c72656329e1e8ba7877b56972"), looks := false }, kinds := [], alts := [], laidByText := true, laidKinds := [.data, .data, .data], laidTests := true, laidLooks := .later }
def FunNumbersCardSaid : Prop := Claim7.holds Tryd.pinned (.plain (OpenSpec.ofChange funNumbersSpec)) funNumbersCard

/-- THE TIED CARD OF 'doorkeeperlaw5.FunLists'. -/
def funListsCard : Claim7 := { stood := { row := funListsRow, standIns := [], harness := (true, "30e8826062dd684cc90936bdca206840797cd54c72656329e1e8ba7877b56972"), looks := false }, kinds := [], alts := [], laidByText := true, laidKinds := [.data, .data, .data], laidTests := true, laidLooks := .later }
def FunListsCardSaid : Prop := Claim7.holds Tryd.pinned (.plain (OpenSpec.ofChange funListsSpec)) funListsCard

/-- THE TIED CARD OF 'doorkeeperlaw5.FunJoins'. -/
def funJoinsCard : Claim7 := { stood := { row := funJoinsRow, standIns := [], harness := (true, "30e8826062dd684cc90936bdca206840797cd54c72656329e1e8ba7877b56972"), looks := false }, kinds := [], alts := [], laidByText := true, laidKinds := [.data, .data, .data], laidTests := true, laidLooks := .later }
def FunJoinsCardSaid : Prop := Claim7.holds Tryd.pinned (.plain (OpenSpec.ofChange funJoinsSpec)) funJoinsCard

/-- THE TIED CARD OF 'doorkeeperlaw5.FunRefuses'. -/
def funRefusesCard : Claim7 := { stood := { row := funRefusesRow, standIns := [], harness := (true, "30e8826062dd684cc90936bdca206840797cd54c72656329e1e8ba7877b56972"), looks := false }, kinds := [], alts := [], laidByText := true, laidKinds := [.data, .data, .data], laidTests := true, laidLooks := .later }
def FunRefusesCardSaid : Prop := Claim7.holds Tryd.pinned (.plain (OpenSpec.ofChange funRefusesSpec)) funRefusesCard

/-- THE TIED CARD OF 'doorkeeperlaw5.FunTexts'. -/
def funTextsCard : Claim7 := { stood := { row := funTextsRow, standIns := [], harness := (true, "30e8826062dd684cc90936bdca206840797cd54c72656329e1e8ba7877b56972"), looks := false }, kinds := [], alts := [], laidByText := true, laidKinds := [.data, .data, .data], laidTests := true, laidLooks := .later }
def FunTextsCardSaid : Prop := Claim7.holds Tryd.pinned (.plain (OpenSpec.ofChange funTextsSpec)) funTextsCard

/-- THE SECOND FORM's CARD OF 'doorkeeperlaw5.FunAll'. -/
def funAllUptoCard : Claim7 := { stood := { row := funAllUptoRow, standIns := [], harness := (true, "30e8826062dd684cc90936bdca206840797cd54c72656329e1e8ba7877b56972"), looks := false }, kinds := [], alts := [], laidByText := true, laidKinds := [.data, .data, .data], laidTests := true, laidLooks := .later }
def FunAllUptoCardSaid : Prop := Claim7.holds Tryd.pinned (.plain (OpenSpec.upto funAllSpec)) funAllUptoCard

/-- THE SECOND FORM's CARD OF 'doorkeeperlaw5.FunMade'. -/
def funMadeUptoCard : Claim7 := { stood := { row := funMadeUptoRow, standIns := [], harness := (true, "30e8826062dd684cc90936bdca206840797cd54c72656329e1e8ba7877b56972"), looks := false }, kinds := [], alts := [], laidByText := true, laidKinds := [.data, .data, .data], laidTests := true, laidLooks := .later }
def FunMadeUptoCardSaid : Prop := Claim7.holds Tryd.pinned (.plain (OpenSpec.upto funMadeSpec)) funMadeUptoCard

/-- THE SECOND FORM's CARD OF 'doorkeeperlaw5.FunNumbers'. -/
def funNumbersUptoCard : Claim7 := { stood := { row := funNumbersUptoRow, standIns := [], harness := (true, "30e8826062dd684cc90936bdca206840797cd54c72656329e1e8ba7877b56972"), looks := false }, kinds := [], alts := [], laidByText := true, laidKinds := [.data, .data, .data], laidTests := true, laidLooks := .later }
def FunNumbersUptoCardSaid : Prop := Claim7.holds Tryd.pinned (.plain (OpenSpec.upto funNumbersSpec)) funNumbersUptoCard

/-- THE SECOND FORM's CARD OF 'doorkeeperlaw5.FunLists'. -/
def funListsUptoCard : Claim7 := { stood := { row := funListsUptoRow, standIns := [], harness := (true, "30e8826062dd684cc90936bdca206840797cd54c72656329e1e8ba7877b56972"), looks := false }, kinds := [], alts := [], laidByText := true, laidKinds := [.data, .data, .data], laidTests := true, laidLooks := .later }
def FunListsUptoCardSaid : Prop := Claim7.holds Tryd.pinned (.plain (OpenSpec.upto funListsSpec)) funListsUptoCard

/-- THE SECOND FORM's CARD OF 'doorkeeperlaw5.FunJoins'. -/
def funJoinsUptoCard : Claim7 := { stood := { row := funJoinsUptoRow, standIns := [], harness := (true, "30e8826062dd684cc90936bdca206840797cd54c72656329e1e8ba7877b56972"), looks := false }, kinds := [], alts := [], laidByText := true, laidKinds := [.data, .data, .data], laidTests := true, laidLooks := .later }
def FunJoinsUptoCardSaid : Prop := Claim7.holds Tryd.pinned (.plain (OpenSpec.upto funJoinsSpec)) funJoinsUptoCard

/-- THE SECOND FORM's CARD OF 'doorkeeperlaw5.FunRefuses'. -/
def funRefusesUptoCard : Claim7 := { stood := { row := funRefusesUptoRow, standIns := [], harness := (true, "30e8826062dd684cc90936bdca206840797cd54c72656329e1e8ba7877b56972"), looks := false }, kinds := [], alts := [], laidByText := true, laidKinds := [.data, .data, .data], laidTests := true, laidLooks := .later }
def FunRefusesUptoCardSaid : Prop := Claim7.holds Tryd.pinned (.plain (OpenSpec.upto funRefusesSpec)) funRefusesUptoCard

/-- THE SECOND FORM's CARD OF 'doorkeeperlaw5.FunTexts'. -/
def funTextsUptoCard : Claim7 := { stood := { row := funTextsUptoRow, standIns := [], harness := (true, "30e8826062dd684cc90936bdca206840797cd54c72656329e1e8ba7877b56972"), looks := false }, kinds := [], alts := [], laidByText := true, laidKinds := [.data, .data, .data], laidTests := true, laidLooks := .later }
def FunTextsUptoCardSaid : Prop := Claim7.holds Tryd.pinned (.plain (OpenSpec.upto funTextsSpec)) funTextsUptoCard
end Rows
end Go.Proofs.YtkbdinocadoelaaDoor
