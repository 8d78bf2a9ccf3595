/-
  DERIVED. GIVEN WITH THE SEED: THE CARDS: each row of YteknjeohbcgpdaaGreatDoorRows.lean that lists a variable, with what it lists TIED to the program's text (the seventh form; the later family's looks); each row that meets fmt, with fmt's text TOLD by the authors' own Lean function (tested against real Go, not proved from fmt's source: count such statements apart). THE CARD IS WHAT COUNTS. Prove the row's statement (the work); the ties are given (YteknjeohbcgpdaaGreatDoorTie.lean); close each card by the builder's one call (the guide's Derived/Test/ToyasCard.lean, 'card_holds'). Laid BY PROGRAM, IN A SANDBOX (cutbox-door.mjs). By AI agents, Wed Nov 11 2026. No macro, syntax, notation, axiom, sorry.
-/
import Derived.Test.YteknjeohbcgpdaaGreatDoorRows
import GoSem.ClaimSeven
namespace Go.Proofs.YteknjeohbcgpdaaGreatDoor
namespace Rows

/-- THE TIED CARD OF 'laws.FnExactDominoValue'. -/
def fnExactDominoValueCard : Claim7 := { stood := { row := fnExactDominoValueRow, standIns := [], harness := (true, "d903891bc9bf13b6bd5c63b9627002bcf821bd46ec0d285e56a1a23fcdfcee16"), looks := false }, kinds := [], alts := [], laidByText := true, laidKinds := [.data, .data, .data, .data, .pinned], laidTests := true, laidLooks := .later }
def FnExactDominoValueCardSaid : Prop := Claim7.holds Tryz.pinned (.plain (OpenSpec.ofChange fnExactDominoValueSpec)) fnExactDominoValueCard

/-- THE TIED CARD OF 'laws.FnStrips'. -/
def fnStripsCard : Claim7 := { stood := { row := fnStripsRow, standIns := [], harness := (true, "d903891bc9bf13b6bd5c63b9627002bcf821bd46ec0d285e56a1a23fcdfcee16"), looks := false }, kinds := [], alts := [], laidByText := true, laidKinds := [.data, .data, .data, .data, .pinned], laidTests := true, laidLooks := .later }
def FnStripsCardSaid : Prop := Claim7.holds Tryz.pinned (.plain (OpenSpec.ofChange fnStripsSpec)) fnStripsCard

/-- THE TIED CARD OF 'laws.FnBoardTurned'. -/
def fnBoardTurnedCard : Claim7 := { stood := { row := fnBoardTurnedRow, standIns := [], harness := (true, "d903891bc9bf13b6bd5c63b9627002bcf821bd46ec0d285e56a1a23fcdfcee16"), looks := false }, kinds := [], alts := [], laidByText := true, laidKinds := [.data, .data, .data, .data, .pinned], laidTests := true, laidLooks := .later }
def FnBoardTurnedCardSaid : Prop := Claim7.holds Tryz.pinned (.plain (OpenSpec.ofChange fnBoardTurnedSpec)) fnBoardTurnedCard

/-- THE TIED CARD OF 'laws.FnBoards'. -/
def fnBoardsCard : Claim7 := { stood := { row := fnBoardsRow, standIns := [], harness := (true, "d903891bc9bf13b6bd5c63b9627002bcf821bd46ec0d285e56a1a23fcdfcee16"), looks := false }, kinds := [], alts := [], laidByText := true, laidKinds := [.data, .data, .data, .data, .pinned], laidTests := true, laidLooks := .later }
def FnBoardsCardSaid : Prop := Claim7.holds Tryz.pinned (.plain (OpenSpec.ofChange fnBoardsSpec)) fnBoardsCard

/-- THE SECOND FORM's CARD OF 'laws.FnExactDominoValue'. -/
def fnExactDominoValueUptoCard : Claim7 := { stood := { row := fnExactDominoValueUptoRow, standIns := [], harness := (true, "d903891bc9bf13b6bd5c63b9627002bcf821bd46ec0d285e56a1a23fcdfcee16"), looks := false }, kinds := [], alts := [], laidByText := true, laidKinds := [.data, .data, .data, .data, .pinned], laidTests := true, laidLooks := .later }
def FnExactDominoValueUptoCardSaid : Prop := Claim7.holds Tryz.pinned (.plain (OpenSpec.upto fnExactDominoValueSpec)) fnExactDominoValueUptoCard

/-- THE SECOND FORM's CARD OF 'laws.FnStrips'. -/
def fnStripsUptoCard : Claim7 := { stood := { row := fnStripsUptoRow, standIns := [], harness := (true, "d903891bc9bf13b6bd5c63b9627002bcf821bd46ec0d285e56a1a23fcdfcee16"), looks := false }, kinds := [], alts := [], laidByText := true, laidKinds := [.data, .data, .data, .data, .pinned], laidTests := true, laidLooks := .later }
def FnStripsUptoCardSaid : Prop := Claim7.holds Tryz.pinned (.plain (OpenSpec.upto fnStripsSpec)) fnStripsUptoCard

/-- THE SECOND FORM's CARD OF 'laws.FnBoardTurned'. -/
def fnBoardTurnedUptoCard : Claim7 := { stood := { row := fnBoardTurnedUptoRow, standIns := [], harness := (true, "d903891bc9bf13b6bd5c63b9627002bcf821bd46ec0d285e56a1a23fcdfcee16"), looks := false }, kinds := [], alts := [], laidByText := true, laidKinds := [.data, .data, .data, .data, .pinned], laidTests := true, laidLooks := .later }
def FnBoardTurnedUptoCardSaid : Prop := Claim7.holds Tryz.pinned (.plain (OpenSpec.upto fnBoardTurnedSpec)) fnBoardTurnedUptoCard

/-- THE SECOND FORM's CARD OF 'laws.FnBoards'. -/
def fnBoardsUptoCard : Claim7 := { stood := { row := fnBoardsUptoRow, standIns := [], harness := (true, "d903891bc9bf13b6bd5c63b9627002bcf821bd46ec0d285e56a1a23fcdfcee16"), looks := false }, kinds := [], alts := [], laidByText := true, laidKinds := [.data, .data, .data, .data, .pinned], laidTests := true, laidLooks := .later }
def FnBoardsUptoCardSaid : Prop := Claim7.holds Tryz.pinned (.plain (OpenSpec.upto fnBoardsSpec)) fnBoardsUptoCard
end Rows
end Go.Proofs.YteknjeohbcgpdaaGreatDoor
