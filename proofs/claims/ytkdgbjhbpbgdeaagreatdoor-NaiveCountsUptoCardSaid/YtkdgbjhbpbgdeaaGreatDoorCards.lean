/-
  DERIVED. GIVEN WITH THE SEED: THE CARDS: each row of YtkdgbjhbpbgdeaaGreatDoorRows.lean that lists a variable, with what it lists TIED to the program's text (the seventh form; the later family's looks); each row that meets fmt, with fmt's text TOLD by the authors' own Lean function (tested against real Go, not proved from fmt's source: count such statements apart). THE CARD IS WHAT COUNTS. Prove the row's statement (the work); the ties are given (YtkdgbjhbpbgdeaaGreatDoorTie.lean); close each card by the builder's one call (the guide's Derived/Test/ToyasCard.lean, 'card_holds'). Laid BY PROGRAM, IN A SANDBOX (cutbox-door.mjs). By AI agents, Wed Nov 11 2026. No macro, syntax, notation, axiom, sorry.
-/
import Derived.Test.YtkdgbjhbpbgdeaaGreatDoorRows
import GoSem.ClaimSeven
namespace Go.Proofs.YtkdgbjhbpbgdeaaGreatDoor
namespace Rows

/-- THE TIED CARD OF 'asoflaw18.NaiveCounts'. -/
def naiveCountsCard : Claim7 := { stood := { row := naiveCountsRow, standIns := [], harness := (true, "dcef3e2ec9ca9a6d4e0946e95681ae2102e1f99801278b2a7f77dca1432c86e3"), looks := false }, kinds := [], alts := [], laidByText := true, laidKinds := [.widerDeep, .widerDeep, .widerDeep], laidTests := true, laidLooks := .later }
def NaiveCountsCardSaid : Prop := Claim7.holds Tryz.pinned (.plain (OpenSpec.ofChange naiveCountsSpec)) naiveCountsCard

/-- THE SECOND FORM's CARD OF 'asoflaw18.NaiveCounts'. -/
def naiveCountsUptoCard : Claim7 := { stood := { row := naiveCountsUptoRow, standIns := [], harness := (true, "dcef3e2ec9ca9a6d4e0946e95681ae2102e1f99801278b2a7f77dca1432c86e3"), looks := false }, kinds := [], alts := [], laidByText := true, laidKinds := [.widerDeep, .widerDeep, .widerDeep], laidTests := true, laidLooks := .later }
def NaiveCountsUptoCardSaid : Prop := Claim7.holds Tryz.pinned (.plain (OpenSpec.upto naiveCountsSpec)) naiveCountsUptoCard
end Rows
end Go.Proofs.YtkdgbjhbpbgdeaaGreatDoor
