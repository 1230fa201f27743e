/-
  DERIVED. GIVEN WITH THE SEED: THE CARDS: each row of YtphkmlogjgeipaaGreatDoorRows.lean that lists a variable, with what it lists TIED to the program's text (the seventh form; the later family's looks); each row that meets fmt, with fmt's text TOLD by the authors' own Lean function (tested against real Go, not proved from fmt's source: count such statements apart). THE CARD IS WHAT COUNTS. Prove the row's statement (the work); the ties are given (YtphkmlogjgeipaaGreatDoorTie.lean); close each card by the builder's one call (the guide's Derived/Test/ToyasCard.lean, 'card_holds'). Laid BY PROGRAM, IN A SANDBOX (cutbox-door.mjs). By AI agents, Wed Nov 11 2026. No macro, syntax, notation, axiom, sorry.
-/
import Derived.Test.YtphkmlogjgeipaaGreatDoorRows
import GoSem.ClaimSeven
namespace Go.Proofs.YtphkmlogjgeipaaGreatDoor
namespace Rows

/-- THE TIED CARD OF 'asoflaw19.LowerMatchesRaise'. -/
def lowerMatchesRaiseCard : Claim7 := { stood := { row := lowerMatchesRaiseRow, standIns := [], harness := (true, "876dde90fff36fd4fae8b532aaef061ed7f848f981d1975025b96348263705e7"), looks := false }, kinds := [], alts := [], laidByText := true, laidKinds := [.widerDeep, .widerDeep, .widerDeep], laidTests := true, laidLooks := .later }
def LowerMatchesRaiseCardSaid : Prop := Claim7.holds Tryz.pinned (.plain (OpenSpec.ofChange lowerMatchesRaiseSpec)) lowerMatchesRaiseCard

/-- THE SECOND FORM's CARD OF 'asoflaw19.LowerMatchesRaise'. -/
def lowerMatchesRaiseUptoCard : Claim7 := { stood := { row := lowerMatchesRaiseUptoRow, standIns := [], harness := (true, "876dde90fff36fd4fae8b532aaef061ed7f848f981d1975025b96348263705e7"), looks := false }, kinds := [], alts := [], laidByText := true, laidKinds := [.widerDeep, .widerDeep, .widerDeep], laidTests := true, laidLooks := .later }
def LowerMatchesRaiseUptoCardSaid : Prop := Claim7.holds Tryz.pinned (.plain (OpenSpec.upto lowerMatchesRaiseSpec)) lowerMatchesRaiseUptoCard
end Rows
end Go.Proofs.YtphkmlogjgeipaaGreatDoor
