/-
  DERIVED. GIVEN WITH THE SEED: THE CARDS: each row of YtphkmlogjgeipaaDoorRows.lean that lists a variable, with what it lists TIED to the program's text (the seventh form; the later family's looks); each row that meets fmt, with fmt's text TOLD by the authors' own Lean function (tested against real Go, not proved from fmt's source: count such statements apart). THE CARD IS WHAT COUNTS. Prove the row's statement (the work); the ties are given (YtphkmlogjgeipaaDoorTie.lean); close each card by the builder's one call (the guide's Derived/Test/ToyasCard.lean, 'card_holds'). Laid BY PROGRAM, IN A SANDBOX (cutbox-door.mjs). By AI agents, Wed Nov 11 2026. No macro, syntax, notation, axiom, sorry.
-/
import Derived.Test.YtphkmlogjgeipaaDoorRows
import GoSem.ClaimSeven
namespace Go.Proofs.YtphkmlogjgeipaaDoor
namespace Rows

/-- THE TIED CARD OF 'asoflaw19.LowerShares'. -/
def lowerSharesCard : Claim7 := { stood := { row := lowerSharesRow, standIns := [], harness := (true, "9b49d4ffb7230f8a1f09313e7e7fa2303427572724a600924480f93c0da07be4"), looks := false }, kinds := [], alts := [], laidByText := true, laidKinds := [.widerDeep, .widerDeep, .widerDeep], laidTests := true, laidLooks := .later }
def LowerSharesCardSaid : Prop := Claim7.holds Tryd.pinned (.plain (OpenSpec.ofChange lowerSharesSpec)) lowerSharesCard

/-- THE TIED CARD OF 'asoflaw19.LowerBegins'. -/
def lowerBeginsCard : Claim7 := { stood := { row := lowerBeginsRow, standIns := [], harness := (true, "9b49d4ffb7230f8a1f09313e7e7fa2303427572724a600924480f93c0da07be4"), looks := false }, kinds := [], alts := [], laidByText := true, laidKinds := [.widerDeep, .widerDeep, .widerDeep], laidTests := true, laidLooks := .later }
def LowerBeginsCardSaid : Prop := Claim7.holds Tryd.pinned (.plain (OpenSpec.ofChange lowerBeginsSpec)) lowerBeginsCard

/-- THE TIED CARD OF 'asoflaw19.LowerRaises'. -/
def lowerRaisesCard : Claim7 := { stood := { row := lowerRaisesRow, standIns := [], harness := (true, "9b49d4ffb7230f8a1f09313e7e7fa2303427572724a600924480f93c0da07be4"), looks := false }, kinds := [], alts := [], laidByText := true, laidKinds := [.widerDeep, .widerDeep, .widerDeep], laidTests := true, laidLooks := .later }
def LowerRaisesCardSaid : Prop := Claim7.holds Tryd.pinned (.plain (OpenSpec.ofChange lowerRaisesSpec)) lowerRaisesCard

/-- THE SECOND FORM's CARD OF 'asoflaw19.LowerShares'. -/
def lowerSharesUptoCard : Claim7 := { stood := { row := lowerSharesUptoRow, standIns := [], harness := (true, "9b49d4ffb7230f8a1f09313e7e7fa2303427572724a600924480f93c0da07be4"), looks := false }, kinds := [], alts := [], laidByText := true, laidKinds := [.widerDeep, .widerDeep, .widerDeep], laidTests := true, laidLooks := .later }
def LowerSharesUptoCardSaid : Prop := Claim7.holds Tryd.pinned (.plain (OpenSpec.upto lowerSharesSpec)) lowerSharesUptoCard

/-- THE SECOND FORM's CARD OF 'asoflaw19.LowerBegins'. -/
def lowerBeginsUptoCard : Claim7 := { stood := { row := lowerBeginsUptoRow, standIns := [], harness := (true, "9b49d4ffb7230f8a1f09313e7e7fa2303427572724a600924480f93c0da07be4"), looks := false }, kinds := [], alts := [], laidByText := true, laidKinds := [.widerDeep, .widerDeep, .widerDeep], laidTests := true, laidLooks := .later }
def LowerBeginsUptoCardSaid : Prop := Claim7.holds Tryd.pinned (.plain (OpenSpec.upto lowerBeginsSpec)) lowerBeginsUptoCard

/-- THE SECOND FORM's CARD OF 'asoflaw19.LowerRaises'. -/
def lowerRaisesUptoCard : Claim7 := { stood := { row := lowerRaisesUptoRow, standIns := [], harness := (true, "9b49d4ffb7230f8a1f09313e7e7fa2303427572724a600924480f93c0da07be4"), looks := false }, kinds := [], alts := [], laidByText := true, laidKinds := [.widerDeep, .widerDeep, .widerDeep], laidTests := true, laidLooks := .later }
def LowerRaisesUptoCardSaid : Prop := Claim7.holds Tryd.pinned (.plain (OpenSpec.upto lowerRaisesSpec)) lowerRaisesUptoCard
end Rows
end Go.Proofs.YtphkmlogjgeipaaDoor
