/-
  DERIVED. GIVEN WITH THE SEED: THE CARDS: each row of YtkmihcpjkdkadaaGreatDoorRows.lean that lists a variable, with what it lists TIED to the program's text (the seventh form; the later family's looks); each row that meets fmt, with fmt's text TOLD by the authors' own Lean function (tested against real Go, not proved from fmt's source: count such statements apart). THE CARD IS WHAT COUNTS. Prove the row's statement (the work); the ties are given (YtkmihcpjkdkadaaGreatDoorTie.lean); close each card by the builder's one call (the guide's Derived/Test/ToyasCard.lean, 'card_holds'). Laid BY PROGRAM, IN A SANDBOX (cutbox-door.mjs). By AI agents, Wed Nov 11 2026. No macro, syntax, notation, axiom, sorry.
-/
import Derived.Test.YtkmihcpjkdkadaaGreatDoorRows
import GoSem.ClaimSeven
namespace Go.Proofs.YtkmihcpjkdkadaaGreatDoor
namespace Rows

/-- THE TIED CARD OF 'asoflaw18.NaiveRests'. -/
def naiveRestsCard : Claim7 := { stood := { row := naiveRestsRow, standIns := [], harness := (true, "b5963c8056c15b846b0df84b1368abb3ca1be839073f23ac3358694821fc91fa"), looks := false }, kinds := [], alts := [], laidByText := true, laidKinds := [.widerDeep, .widerDeep, .widerDeep], laidTests := true, laidLooks := .later }
def NaiveRestsCardSaid : Prop := Claim7.holds Tryz.pinned (.plain (OpenSpec.ofChange naiveRestsSpec)) naiveRestsCard

/-- THE SECOND FORM's CARD OF 'asoflaw18.NaiveRests'. -/
def naiveRestsUptoCard : Claim7 := { stood := { row := naiveRestsUptoRow, standIns := [], harness := (true, "b5963c8056c15b846b0df84b1368abb3ca1be839073f23ac3358694821fc91fa"), looks := false }, kinds := [], alts := [], laidByText := true, laidKinds := [.widerDeep, .widerDeep, .widerDeep], laidTests := true, laidLooks := .later }
def NaiveRestsUptoCardSaid : Prop := Claim7.holds Tryz.pinned (.plain (OpenSpec.upto naiveRestsSpec)) naiveRestsUptoCard
end Rows
end Go.Proofs.YtkmihcpjkdkadaaGreatDoor
