/-
  DERIVED. GIVEN WITH THE SEED: THE CARDS: each row of YtohdpcjaoiebkaaGreatDoorRows.lean that lists a variable, with what it lists TIED to the program's text (the seventh form; the later family's looks); each row that meets fmt, with fmt's text TOLD by the authors' own Lean function (tested against real Go, not proved from fmt's source: count such statements apart). THE CARD IS WHAT COUNTS. Prove the row's statement (the work); the ties are given (YtohdpcjaoiebkaaGreatDoorTie.lean); close each card by the builder's one call (the guide's Derived/Test/ToyasCard.lean, 'card_holds'). Laid BY PROGRAM, IN A SANDBOX (cutbox-door.mjs). By AI agents, Wed Nov 11 2026. No macro, syntax, notation, axiom, sorry.
-/
import Derived.Test.YtohdpcjaoiebkaaGreatDoorRows
import GoSem.ClaimSeven
namespace Go.Proofs.YtohdpcjaoiebkaaGreatDoor
namespace Rows

/-- THE TIED CARD OF 'asoflaw19.LowerAggregates'. -/
def lowerAggregatesCard : Claim7 := { stood := { row := lowerAggregatesRow, standIns := [], harness := (true, "9423680a62f0e86e402328dcfd2341b75f6dab30f080e1514c9f4527b76cf332"), looks := false }, kinds := [], alts := [], laidByText := true, laidKinds := [.data, .data, .data, .widerDeep, .widerDeep, .widerDeep], laidTests := true, laidLooks := .later }
def LowerAggregatesCardSaid : Prop := Claim7.holds Tryz.pinned (.plain (OpenSpec.ofChange lowerAggregatesSpec)) lowerAggregatesCard

/-- THE SECOND FORM's CARD OF 'asoflaw19.LowerAggregates'. -/
def lowerAggregatesUptoCard : Claim7 := { stood := { row := lowerAggregatesUptoRow, standIns := [], harness := (true, "9423680a62f0e86e402328dcfd2341b75f6dab30f080e1514c9f4527b76cf332"), looks := false }, kinds := [], alts := [], laidByText := true, laidKinds := [.data, .data, .data, .widerDeep, .widerDeep, .widerDeep], laidTests := true, laidLooks := .later }
def LowerAggregatesUptoCardSaid : Prop := Claim7.holds Tryz.pinned (.plain (OpenSpec.upto lowerAggregatesSpec)) lowerAggregatesUptoCard
end Rows
end Go.Proofs.YtohdpcjaoiebkaaGreatDoor
