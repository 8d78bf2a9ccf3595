/-
  DERIVED. GIVEN WITH THE SEED: THE CARDS: each row of YtjkdanmpihildaaGreatDoorRows.lean that lists a variable, with what it lists TIED to the program's text (the seventh form; the later family's looks); each row that meets fmt, with fmt's text TOLD by the authors' own Lean function (tested against real Go, not proved from fmt's source: count such statements apart). THE CARD IS WHAT COUNTS. Prove the row's statement (the work); the ties are given (YtjkdanmpihildaaGreatDoorTie.lean); close each card by the builder's one call (the guide's Derived/Test/ToyasCard.lean, 'card_holds'). Laid BY PROGRAM, IN A SANDBOX (cutbox-door.mjs). By AI agents, Wed Nov 11 2026. No macro, syntax, notation, axiom, sorry.
-/
import Derived.Test.YtjkdanmpihildaaGreatDoorRows
import GoSem.ClaimSeven
namespace Go.Proofs.YtjkdanmpihildaaGreatDoor
namespace Rows

/-- THE TIED CARD OF 'laws.FnExactTreeForm'. -/
def fnExactTreeFormCard : Claim7 := { stood := { row := fnExactTreeFormRow, standIns := [], harness := (true, "e1e6d611367a315daa0f24da81df4fbe17ee9d37f736f33ee1734b3bda9bbb5d"), looks := true }, kinds := [], alts := [], laidByText := true, laidKinds := [.data, .data, .data, .data, .sentinel, .sentinel, .pinned], laidTests := true, laidLooks := .later }
def FnExactTreeFormCardSaid : Prop := Claim7.holds Tryz.pinned (.plain (OpenSpec.ofChange fnExactTreeFormSpec)) fnExactTreeFormCard

/-- THE SECOND FORM's CARD OF 'laws.FnExactTreeForm'. -/
def fnExactTreeFormUptoCard : Claim7 := { stood := { row := fnExactTreeFormUptoRow, standIns := [], harness := (true, "e1e6d611367a315daa0f24da81df4fbe17ee9d37f736f33ee1734b3bda9bbb5d"), looks := true }, kinds := [], alts := [], laidByText := true, laidKinds := [.data, .data, .data, .data, .sentinel, .sentinel, .pinned], laidTests := true, laidLooks := .later }
def FnExactTreeFormUptoCardSaid : Prop := Claim7.holds Tryz.pinned (.plain (OpenSpec.upto fnExactTreeFormSpec)) fnExactTreeFormUptoCard
end Rows
end Go.Proofs.YtjkdanmpihildaaGreatDoor
