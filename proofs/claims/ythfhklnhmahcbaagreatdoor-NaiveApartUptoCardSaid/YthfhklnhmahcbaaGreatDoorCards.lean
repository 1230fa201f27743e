/-
  DERIVED. GIVEN WITH THE SEED: THE CARDS: each row of YthfhklnhmahcbaaGreatDoorRows.lean that lists a variable, with what it lists TIED to the program's text (the seventh form; the later family's looks); each row that meets fmt, with fmt's text TOLD by the authors' own Lean function (tested against real Go, not proved from fmt's source: count such statements apart). THE CARD IS WHAT COUNTS. Prove the row's statement (the work); the ties are given (YthfhklnhmahcbaaGreatDoorTie.lean); close each card by the builder's one call (the guide's Derived/Test/ToyasCard.lean, 'card_holds'). Laid BY PROGRAM, IN A SANDBOX (cutbox-door.mjs). By AI agents, Wed Nov 11 2026. No macro, syntax, notation, axiom, sorry.
-/
import Derived.Test.YthfhklnhmahcbaaGreatDoorRows
import GoSem.ClaimSeven
namespace Go.Proofs.YthfhklnhmahcbaaGreatDoor
namespace Rows

/-- THE TIED CARD OF 'asoflaw18.NaiveApart'. -/
def naiveApartCard : Claim7 := { stood := { row := naiveApartRow, standIns := [], harness := (true, "26096eed7418e97f6213cc7bafdc19758e6d7993c1a9bb08db5b8d8a226c4dd8"), looks := false }, kinds := [], alts := [], laidByText := true, laidKinds := [.widerDeep, .widerDeep, .widerDeep], laidTests := true, laidLooks := .later }
def NaiveApartCardSaid : Prop := Claim7.holds Tryz.pinned (.plain (OpenSpec.ofChange naiveApartSpec)) naiveApartCard

/-- THE SECOND FORM's CARD OF 'asoflaw18.NaiveApart'. -/
def naiveApartUptoCard : Claim7 := { stood := { row := naiveApartUptoRow, standIns := [], harness := (true, "26096eed7418e97f6213cc7bafdc19758e6d7993c1a9bb08db5b8d8a226c4dd8"), looks := false }, kinds := [], alts := [], laidByText := true, laidKinds := [.widerDeep, .widerDeep, .widerDeep], laidTests := true, laidLooks := .later }
def NaiveApartUptoCardSaid : Prop := Claim7.holds Tryz.pinned (.plain (OpenSpec.upto naiveApartSpec)) naiveApartUptoCard
end Rows
end Go.Proofs.YthfhklnhmahcbaaGreatDoor
