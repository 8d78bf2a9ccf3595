/-
  DERIVED. GIVEN WITH THE SEED: THE CARDS: each row of YtplgooajigigkaaGreatDoorRows.lean that lists a variable, with what it lists TIED to the program's text (the seventh form; the later family's looks); each row that meets fmt, with fmt's text TOLD by the authors' own Lean function (tested against real Go, not proved from fmt's source: count such statements apart). THE CARD IS WHAT COUNTS. Prove the row's statement (the work); the ties are given (YtplgooajigigkaaGreatDoorTie.lean); close each card by the builder's one call (the guide's Derived/Test/ToyasCard.lean, 'card_holds'). Laid BY PROGRAM, IN A SANDBOX (cutbox-door.mjs). By AI agents, Wed Nov 11 2026. No macro, syntax, notation, axiom, sorry.
-/
import Derived.Test.YtplgooajigigkaaGreatDoorRows
import GoSem.ClaimSeven
namespace Go.Proofs.YtplgooajigigkaaGreatDoor
namespace Rows

/-- THE TIED CARD OF 'laws.FnExactHeatForm'. -/
def fnExactHeatFormCard : Claim7 := { stood := { row := fnExactHeatFormRow, standIns := [], harness := (true, "d9c83bd244a95591186cdaa30942d84d202847d644499c933e62ea9418855f2a"), looks := true }, kinds := [], alts := [], laidByText := true, laidKinds := [.data, .data, .data], laidTests := true, laidLooks := .later }
def FnExactHeatFormCardSaid : Prop := Claim7.holds Tryz.pinned (.plain (OpenSpec.ofChange fnExactHeatFormSpec)) fnExactHeatFormCard

/-- THE TIED CARD OF 'laws.FnTrees'. -/
def fnTreesCard : Claim7 := { stood := { row := fnTreesRow, standIns := [], harness := (true, "d9c83bd244a95591186cdaa30942d84d202847d644499c933e62ea9418855f2a"), looks := true }, kinds := [], alts := [], laidByText := true, laidKinds := [.data, .data, .data, .data, .sentinel, .sentinel, .pinned], laidTests := true, laidLooks := .later }
def FnTreesCardSaid : Prop := Claim7.holds Tryz.pinned (.plain (OpenSpec.ofChange fnTreesSpec)) fnTreesCard

/-- THE SECOND FORM's CARD OF 'laws.FnExactHeatForm'. -/
def fnExactHeatFormUptoCard : Claim7 := { stood := { row := fnExactHeatFormUptoRow, standIns := [], harness := (true, "d9c83bd244a95591186cdaa30942d84d202847d644499c933e62ea9418855f2a"), looks := true }, kinds := [], alts := [], laidByText := true, laidKinds := [.data, .data, .data], laidTests := true, laidLooks := .later }
def FnExactHeatFormUptoCardSaid : Prop := Claim7.holds Tryz.pinned (.plain (OpenSpec.upto fnExactHeatFormSpec)) fnExactHeatFormUptoCard

/-- THE SECOND FORM's CARD OF 'laws.FnTrees'. -/
def fnTreesUptoCard : Claim7 := { stood := { row := fnTreesUptoRow, standIns := [], harness := (true, "d9c83bd244a95591186cdaa30942d84d202847d644499c933e62ea9418855f2a"), looks := true }, kinds := [], alts := [], laidByText := true, laidKinds := [.data, .data, .data, .data, .sentinel, .sentinel, .pinned], laidTests := true, laidLooks := .later }
def FnTreesUptoCardSaid : Prop := Claim7.holds Tryz.pinned (.plain (OpenSpec.upto fnTreesSpec)) fnTreesUptoCard
end Rows
end Go.Proofs.YtplgooajigigkaaGreatDoor
