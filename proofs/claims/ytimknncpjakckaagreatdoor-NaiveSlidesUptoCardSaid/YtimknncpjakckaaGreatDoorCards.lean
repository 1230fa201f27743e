/-
  DERIVED. GIVEN WITH THE SEED: THE CARDS: each row of YtimknncpjakckaaGreatDoorRows.lean that lists a variable, with what it lists TIED to the program's text (the seventh form; the later family's looks); each row that meets fmt, with fmt's text TOLD by the authors' own Lean function (tested against real Go, not proved from fmt's source: count such statements apart). THE CARD IS WHAT COUNTS. Prove the row's statement (the work); the ties are given (YtimknncpjakckaaGreatDoorTie.lean); close each card by the builder's one call (the guide's Derived/Test/ToyasCard.lean, 'card_holds'). Laid BY PROGRAM, IN A SANDBOX (cutbox-door.mjs). By AI agents, Wed Nov 11 2026. No macro, syntax, notation, axiom, sorry.
-/
import Derived.Test.YtimknncpjakckaaGreatDoorRows
import GoSem.ClaimSeven
namespace Go.Proofs.YtimknncpjakckaaGreatDoor
namespace Rows

/-- THE TIED CARD OF 'asoflaw18.NaiveSlides'. -/
def naiveSlidesCard : Claim7 := { stood := { row := naiveSlidesRow, standIns := [], harness := (true, "79870908c42a7ef31aae5d495aea87fd54adf2be45657693a6d4fd6a0499f7ae"), looks := false }, kinds := [], alts := [], laidByText := true, laidKinds := [.widerDeep, .widerDeep, .widerDeep], laidTests := true, laidLooks := .later }
def NaiveSlidesCardSaid : Prop := Claim7.holds Tryz.pinned (.plain (OpenSpec.ofChange naiveSlidesSpec)) naiveSlidesCard

/-- THE SECOND FORM's CARD OF 'asoflaw18.NaiveSlides'. -/
def naiveSlidesUptoCard : Claim7 := { stood := { row := naiveSlidesUptoRow, standIns := [], harness := (true, "79870908c42a7ef31aae5d495aea87fd54adf2be45657693a6d4fd6a0499f7ae"), looks := false }, kinds := [], alts := [], laidByText := true, laidKinds := [.widerDeep, .widerDeep, .widerDeep], laidTests := true, laidLooks := .later }
def NaiveSlidesUptoCardSaid : Prop := Claim7.holds Tryz.pinned (.plain (OpenSpec.upto naiveSlidesSpec)) naiveSlidesUptoCard
end Rows
end Go.Proofs.YtimknncpjakckaaGreatDoor
