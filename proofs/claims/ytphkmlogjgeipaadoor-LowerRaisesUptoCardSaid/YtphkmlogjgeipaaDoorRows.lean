/-
  NARROWER THAN 'FOR EVERY INPUT', by the rows' own cells (each row's printed sentence says how): LowerShares: loops, laid · LowerBegins: loops, laid · LowerRaises: loops, laid.
  DERIVED. THE GIVEN ROWS OF THIS SEAT. 3 by the template 'for every input the law returns true; each argument reads behind the call as it read before'; 0 by the template 'total and deterministic' (their statements: YtphkmlogjgeipaaDoorTotals.lean).
  GIVEN WITH THE SEED: the statements are not yours to turn. If you find one false, say at which input.
  Laid BY PROGRAM, IN A SANDBOX (cutbox-rows.mjs): the forced cells as the released guide's own fill.sh prints them over the translation 652431f3697ed202… (all of the seat's roots in one cut). By AI agents, Wed Nov 11 2026. No macro, syntax, notation, axiom, sorry.
-/
import Derived.Test.YtphkmlogjgeipaaDoorChecked
import GoSem.Claim
import GoSem.ClaimJoined
import GoSem.ClaimMapViews
import Derived.JoinedTies
import Derived.KernelRfl
namespace Go.Proofs.YtphkmlogjgeipaaDoor
/- THE CELL 'sum', in the pinned program and in every row, IS THE sha256 OF THE DUMP (.gsa) THAT YtphkmlogjgeipaaDoorProg.lean LOADS. Nothing in Lean hashes anything: it is a label: what it is worth is what the hold of that sum in a sandbox is worth. -/
noncomputable def Tryd.pinned : Pinned := { name := "ytphkmlogjgeipaadoor", sum := "652431f3697ed2024d397f922b4962205e337543fc674c90f1d618602c46e4eb", checked := Tryd.checked }
namespace Rows
def none {H : Type} : Left H := { results := [], args := [] }

/- WHAT THE LISTED PACKAGE-LEVEL VARIABLES READ AS WHEN THE CALL BEGINS. Each datum BY PROGRAM (the guide's laid-datum.mjs) off the statement by which the dump's own 'gosem.cut.vars' lays the variable. In a bare row this is a premise. The card (YtphkmlogjgeipaaDoorCards.lean) ties it to the program's text. -/
def laid_asof_checker_aggregates {H : Type} : DataW H := .slice [.lit (.string [99, 111, 117, 110, 116]), .lit (.string [115, 117, 109]), .lit (.string [109, 101, 97, 110]), .lit (.string [109, 105, 110]), .lit (.string [109, 97, 120]), .lit (.string [102, 105, 114, 115, 116]), .lit (.string [108, 97, 115, 116]), .lit (.string [100, 105, 115, 116, 105, 110, 99, 116]), .lit (.string [113, 117, 97, 110, 116, 105, 108, 101]), .lit (.string [100, 101, 99, 97, 121])] []
def laid_asof_checker_unary {H : Type} : DataW H := .slice [.lit (.string [45]), .lit (.string [110, 111, 116]), .lit (.string [110, 117, 108, 108])] []
def laid_asof_checker_binary {H : Type} : DataW H := .slice [.lit (.string [43]), .lit (.string [45]), .lit (.string [42]), .lit (.string [47]), .lit (.string [61, 61]), .lit (.string [33, 61]), .lit (.string [60]), .lit (.string [60, 61]), .lit (.string [97, 110, 100]), .lit (.string [111, 114])] []

/-- 'asoflaw19.LowerShares': WHATEVER THE INPUT: true; the input reads as it did. -/
def lowerSharesSpec : ChangeSpec := { name := "lowerShares", fn := fun _ => fun
  | [d] => { results := [.lit (.bool true)], args := [d] }
  | _ => none }
def lowerSharesRow : OpenClaim := { program := "ytphkmlogjgeipaadoor", sum := "652431f3697ed2024d397f922b4962205e337543fc674c90f1d618602c46e4eb", func := "asof/asoflaw19.LowerShares", spec := "lowerShares", inPlace := ["internal/bytealg.IndexByteString", "internal/bytealg.IndexString"], unfollowed := true, recurses := true, named := ["asof/checker.aggregates", "asof/checker.unary", "asof/checker.binary", "internal/bytealg.MaxLen"], loops := true, apart := false, laid := [("asof/checker.aggregates", laid_asof_checker_aggregates), ("asof/checker.unary", laid_asof_checker_unary), ("asof/checker.binary", laid_asof_checker_binary)] }
def LowerSharesSaid : Prop := lowerSharesRow.holds Tryd.pinned (OpenSpec.ofChange lowerSharesSpec)

/-- ITS FALSE NEIGHBOUR: 'it returns false'. Refute it at one input. -/
def lowerSharesWrong : ChangeSpec := { name := "lowerShares", fn := fun _ => fun
  | [d] => { results := [.lit (.bool false)], args := [d] }
  | _ => none }
def LowerSharesWrongFalsely : Prop := lowerSharesRow.holds Tryd.pinned (OpenSpec.ofChange lowerSharesWrong)

/-- 'asoflaw19.LowerBegins': WHATEVER THE INPUT: true; the input reads as it did. -/
def lowerBeginsSpec : ChangeSpec := { name := "lowerBegins", fn := fun _ => fun
  | [d1, d2] => { results := [.lit (.bool true)], args := [d1, d2] }
  | _ => none }
def lowerBeginsRow : OpenClaim := { program := "ytphkmlogjgeipaadoor", sum := "652431f3697ed2024d397f922b4962205e337543fc674c90f1d618602c46e4eb", func := "asof/asoflaw19.LowerBegins", spec := "lowerBegins", inPlace := ["internal/bytealg.IndexByteString", "internal/bytealg.IndexString"], unfollowed := true, recurses := true, named := ["asof/checker.aggregates", "asof/checker.unary", "asof/checker.binary", "internal/bytealg.MaxLen"], loops := true, apart := false, laid := [("asof/checker.aggregates", laid_asof_checker_aggregates), ("asof/checker.unary", laid_asof_checker_unary), ("asof/checker.binary", laid_asof_checker_binary)] }
def LowerBeginsSaid : Prop := lowerBeginsRow.holds Tryd.pinned (OpenSpec.ofChange lowerBeginsSpec)

/-- ITS FALSE NEIGHBOUR: 'it returns false'. Refute it at one input. -/
def lowerBeginsWrong : ChangeSpec := { name := "lowerBegins", fn := fun _ => fun
  | [d1, d2] => { results := [.lit (.bool false)], args := [d1, d2] }
  | _ => none }
def LowerBeginsWrongFalsely : Prop := lowerBeginsRow.holds Tryd.pinned (OpenSpec.ofChange lowerBeginsWrong)

/-- 'asoflaw19.LowerRaises': WHATEVER THE INPUT: true; the input reads as it did. -/
def lowerRaisesSpec : ChangeSpec := { name := "lowerRaises", fn := fun _ => fun
  | [d1, d2] => { results := [.lit (.bool true)], args := [d1, d2] }
  | _ => none }
def lowerRaisesRow : OpenClaim := { program := "ytphkmlogjgeipaadoor", sum := "652431f3697ed2024d397f922b4962205e337543fc674c90f1d618602c46e4eb", func := "asof/asoflaw19.LowerRaises", spec := "lowerRaises", inPlace := ["internal/bytealg.IndexByteString", "internal/bytealg.IndexString"], unfollowed := true, recurses := true, named := ["asof/checker.aggregates", "asof/checker.unary", "asof/checker.binary", "internal/bytealg.MaxLen"], loops := true, apart := false, laid := [("asof/checker.aggregates", laid_asof_checker_aggregates), ("asof/checker.unary", laid_asof_checker_unary), ("asof/checker.binary", laid_asof_checker_binary)] }
def LowerRaisesSaid : Prop := lowerRaisesRow.holds Tryd.pinned (OpenSpec.ofChange lowerRaisesSpec)

/-- ITS FALSE NEIGHBOUR: 'it returns false'. Refute it at one input. -/
def lowerRaisesWrong : ChangeSpec := { name := "lowerRaises", fn := fun _ => fun
  | [d1, d2] => { results := [.lit (.bool false)], args := [d1, d2] }
  | _ => none }
def LowerRaisesWrongFalsely : Prop := lowerRaisesRow.holds Tryd.pinned (OpenSpec.ofChange lowerRaisesWrong)

/- THE SECOND FORM. 'bulk': how many values and letters a reading holds, each counted each time it is reached (what is shared counts as often as it is met; a slice's spare places count too). A statement '..UptoSaid' is the law's where the arguments, and the package variables that the reading takes, are together of bulk at most 1048576: NARROWER than '..Said'. Prove '..Said' where nothing that the law and all that it calls make is longer than what came in: it says more and counts as full. Else prove '..UptoSaid'. A law counts once. -/
mutual
def uptoBulk {H : Type} : DataW H → Nat
  | .lit (.string bytes) => bytes.length + 1
  | .lit _ => 1
  | .nil => 1
  | .ptr d => uptoBulk d + 1
  | .slice elems spare => uptoBulkAll elems + uptoBulkAll spare + 1
  | .agg parts => uptoBulkAll parts + 1
  | .iface _ d => uptoBulk d + 1
  | .map entries => uptoBulkEntries entries + 1
  | .held _ => 1
def uptoBulkAll {H : Type} : List (DataW H) → Nat
  | [] => 0
  | d :: r => uptoBulk d + uptoBulkAll r
def uptoBulkEntries {H : Type} : List (Lit × DataW H) → Nat
  | [] => 0
  | x :: r => uptoBulkEntry x + uptoBulkEntries r
def uptoBulkEntry {H : Type} : Lit × DataW H → Nat
  | (.string bytes, d) => bytes.length + uptoBulk d + 1
  | (_, d) => uptoBulk d + 1
 end
def uptoSmall : (H : Type) → List (DataW H) → Bool := fun _ ds => decide (uptoBulkAll ds ≤ 1048576)
def OpenSpec.upto (s : _root_.Go.ChangeSpec) : _root_.Go.OpenSpec := { _root_.Go.OpenSpec.ofChange s with cond := some uptoSmall }

/-- 'asoflaw19.LowerShares', WHERE WHAT IT READS IS OF BULK AT MOST 1048576: true; the input reads as it did. -/
def lowerSharesUptoRow : OpenClaim := { program := "ytphkmlogjgeipaadoor", sum := "652431f3697ed2024d397f922b4962205e337543fc674c90f1d618602c46e4eb", func := "asof/asoflaw19.LowerShares", spec := "lowerShares", inPlace := ["internal/bytealg.IndexByteString", "internal/bytealg.IndexString"], unfollowed := true, recurses := true, named := ["asof/checker.aggregates", "asof/checker.unary", "asof/checker.binary", "internal/bytealg.MaxLen"], loops := true, apart := false, laid := [("asof/checker.aggregates", laid_asof_checker_aggregates), ("asof/checker.unary", laid_asof_checker_unary), ("asof/checker.binary", laid_asof_checker_binary)], narrowed := true }
def LowerSharesUptoSaid : Prop := lowerSharesUptoRow.holds Tryd.pinned (OpenSpec.upto lowerSharesSpec)

/-- 'asoflaw19.LowerBegins', WHERE WHAT IT READS IS OF BULK AT MOST 1048576: true; the input reads as it did. -/
def lowerBeginsUptoRow : OpenClaim := { program := "ytphkmlogjgeipaadoor", sum := "652431f3697ed2024d397f922b4962205e337543fc674c90f1d618602c46e4eb", func := "asof/asoflaw19.LowerBegins", spec := "lowerBegins", inPlace := ["internal/bytealg.IndexByteString", "internal/bytealg.IndexString"], unfollowed := true, recurses := true, named := ["asof/checker.aggregates", "asof/checker.unary", "asof/checker.binary", "internal/bytealg.MaxLen"], loops := true, apart := false, laid := [("asof/checker.aggregates", laid_asof_checker_aggregates), ("asof/checker.unary", laid_asof_checker_unary), ("asof/checker.binary", laid_asof_checker_binary)], narrowed := true }
def LowerBeginsUptoSaid : Prop := lowerBeginsUptoRow.holds Tryd.pinned (OpenSpec.upto lowerBeginsSpec)

/-- 'asoflaw19.LowerRaises', WHERE WHAT IT READS IS OF BULK AT MOST 1048576: true; the input reads as it did. -/
def lowerRaisesUptoRow : OpenClaim := { program := "ytphkmlogjgeipaadoor", sum := "652431f3697ed2024d397f922b4962205e337543fc674c90f1d618602c46e4eb", func := "asof/asoflaw19.LowerRaises", spec := "lowerRaises", inPlace := ["internal/bytealg.IndexByteString", "internal/bytealg.IndexString"], unfollowed := true, recurses := true, named := ["asof/checker.aggregates", "asof/checker.unary", "asof/checker.binary", "internal/bytealg.MaxLen"], loops := true, apart := false, laid := [("asof/checker.aggregates", laid_asof_checker_aggregates), ("asof/checker.unary", laid_asof_checker_unary), ("asof/checker.binary", laid_asof_checker_binary)], narrowed := true }
def LowerRaisesUptoSaid : Prop := lowerRaisesUptoRow.holds Tryd.pinned (OpenSpec.upto lowerRaisesSpec)

end Rows
end Go.Proofs.YtphkmlogjgeipaaDoor
