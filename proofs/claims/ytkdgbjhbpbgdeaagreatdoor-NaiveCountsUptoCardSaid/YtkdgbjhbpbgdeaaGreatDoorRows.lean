/-
  NARROWER THAN 'FOR EVERY INPUT', by the rows' own cells (each row's printed sentence says how): NaiveCounts: loops, laid.
  DERIVED. THE GIVEN ROWS OF THIS SEAT. 1 by the template 'for every input the law returns true; each argument reads behind the call as it read before'; 0 by the template 'total and deterministic' (their statements: YtkdgbjhbpbgdeaaGreatDoorTotals.lean).
  GIVEN WITH THE SEED: the statements are not yours to turn. If you find one false, say at which input.
  Laid BY PROGRAM, IN A SANDBOX (cutbox-rows.mjs): the forced cells as the released guide's own fill.sh prints them over the translation e6165abef012180d… (all of the seat's roots in one cut). By AI agents, Wed Nov 11 2026. No macro, syntax, notation, axiom, sorry.
-/
import Derived.Test.YtkdgbjhbpbgdeaaGreatDoorChecked
import GoSem.Claim
import GoSem.ClaimJoined
import GoSem.ClaimMapViews
import Derived.JoinedTies
import Derived.KernelRfl
namespace Go.Proofs.YtkdgbjhbpbgdeaaGreatDoor
/- THE CELL 'sum', in the pinned program and in every row, IS THE sha256 OF THE DUMP (.gsa) THAT YtkdgbjhbpbgdeaaGreatDoorProg.lean LOADS. Nothing in Lean hashes anything: it is a label: what it is worth is what the hold of that sum in a sandbox is worth. -/
noncomputable def Tryz.pinned : Pinned := { name := "ytkdgbjhbpbgdeaagreatdoor", sum := "e6165abef012180db515c16f55c695f88d6a51523904892e2b215ee2d2a40606", checked := Tryz.checked }
namespace Rows
def none {H : Type} : Left H := { results := [], args := [] }

/- WHAT THE LISTED PACKAGE-LEVEL VARIABLES READ AS WHEN THE CALL BEGINS. Each datum BY PROGRAM (the guide's laid-datum.mjs) off the statement by which the dump's own 'gosem.cut.vars' lays the variable. In a bare row this is a premise. The card (YtkdgbjhbpbgdeaaGreatDoorCards.lean) ties it to the program's text. -/
def laid_asof_checker_aggregates {H : Type} : DataW H := .slice [.lit (.string [99, 111, 117, 110, 116]), .lit (.string [115, 117, 109]), .lit (.string [109, 101, 97, 110]), .lit (.string [109, 105, 110]), .lit (.string [109, 97, 120]), .lit (.string [102, 105, 114, 115, 116]), .lit (.string [108, 97, 115, 116]), .lit (.string [100, 105, 115, 116, 105, 110, 99, 116]), .lit (.string [113, 117, 97, 110, 116, 105, 108, 101]), .lit (.string [100, 101, 99, 97, 121])] []
def laid_asof_checker_unary {H : Type} : DataW H := .slice [.lit (.string [45]), .lit (.string [110, 111, 116]), .lit (.string [110, 117, 108, 108])] []
def laid_asof_checker_binary {H : Type} : DataW H := .slice [.lit (.string [43]), .lit (.string [45]), .lit (.string [42]), .lit (.string [47]), .lit (.string [61, 61]), .lit (.string [33, 61]), .lit (.string [60]), .lit (.string [60, 61]), .lit (.string [97, 110, 100]), .lit (.string [111, 114])] []

/-- 'asoflaw18.NaiveCounts': WHATEVER THE INPUT: true; the input reads as it did. -/
def naiveCountsSpec : ChangeSpec := { name := "naiveCounts", fn := fun _ => fun
  | [d1, d2, d3, d4] => { results := [.lit (.bool true)], args := [d1, d2, d3, d4] }
  | _ => none }
def naiveCountsRow : OpenClaim := { program := "ytkdgbjhbpbgdeaagreatdoor", sum := "e6165abef012180db515c16f55c695f88d6a51523904892e2b215ee2d2a40606", func := "asof/asoflaw18.NaiveCounts", spec := "naiveCounts", inPlace := ["slices.overlaps[asof/api.Table]", "internal/bytealg.IndexByteString", "internal/bytealg.IndexString", "math/bits.Add64", "math/bits.Sub64", "slices.overlaps[asof/api.Feature]", "internal/bytealg.abigen_runtime_cmpstring"], unfollowed := true, recurses := true, named := ["internal/bytealg.MaxLen", "asof/checker.aggregates", "asof/checker.unary", "asof/checker.binary", "math/bits.divideError", "math/bits.overflowError"], loops := true, plainKeys := false, apart := false, laid := [("asof/checker.aggregates", laid_asof_checker_aggregates), ("asof/checker.unary", laid_asof_checker_unary), ("asof/checker.binary", laid_asof_checker_binary)] }
def NaiveCountsSaid : Prop := naiveCountsRow.holds Tryz.pinned (OpenSpec.ofChange naiveCountsSpec)

/-- ITS FALSE NEIGHBOUR: 'it returns false'. Refute it at one input. -/
def naiveCountsWrong : ChangeSpec := { name := "naiveCounts", fn := fun _ => fun
  | [d1, d2, d3, d4] => { results := [.lit (.bool false)], args := [d1, d2, d3, d4] }
  | _ => none }
def NaiveCountsWrongFalsely : Prop := naiveCountsRow.holds Tryz.pinned (OpenSpec.ofChange naiveCountsWrong)

/- THE SECOND FORM. 'bulk': how many values and letters a reading holds, each counted each time it is reached (what is shared counts as often as it is met; a slice's spare places count too). A statement '..UptoSaid' is the law's where the arguments, and the package variables that the reading takes, are together of bulk at most 1048576: NARROWER than '..Said'. Prove '..Said' where nothing that the law and all that it calls make is longer than what came in: it says more and counts as full. Else prove '..UptoSaid'. A law counts once. -/
mutual
def uptoBulk {H : Type} : DataW H → Nat
  | .lit (.string bytes) => bytes.length + 1
  | .lit _ => 1
  | .nil => 1
  | .ptr d => uptoBulk d + 1
  | .slice elems spare => uptoBulkAll elems + uptoBulkAll spare + 1
  | .agg parts => uptoBulkAll parts + 1
  | .iface _ d => uptoBulk d + 1
  | .map entries => uptoBulkEntries entries + 1
  | .held _ => 1
def uptoBulkAll {H : Type} : List (DataW H) → Nat
  | [] => 0
  | d :: r => uptoBulk d + uptoBulkAll r
def uptoBulkEntries {H : Type} : List (Lit × DataW H) → Nat
  | [] => 0
  | x :: r => uptoBulkEntry x + uptoBulkEntries r
def uptoBulkEntry {H : Type} : Lit × DataW H → Nat
  | (.string bytes, d) => bytes.length + uptoBulk d + 1
  | (_, d) => uptoBulk d + 1
 end
def uptoSmall : (H : Type) → List (DataW H) → Bool := fun _ ds => decide (uptoBulkAll ds ≤ 1048576)
def OpenSpec.upto (s : _root_.Go.ChangeSpec) : _root_.Go.OpenSpec := { _root_.Go.OpenSpec.ofChange s with cond := some uptoSmall }

/-- 'asoflaw18.NaiveCounts', WHERE WHAT IT READS IS OF BULK AT MOST 1048576: true; the input reads as it did. -/
def naiveCountsUptoRow : OpenClaim := { program := "ytkdgbjhbpbgdeaagreatdoor", sum := "e6165abef012180db515c16f55c695f88d6a51523904892e2b215ee2d2a40606", func := "asof/asoflaw18.NaiveCounts", spec := "naiveCounts", inPlace := ["slices.overlaps[asof/api.Table]", "internal/bytealg.IndexByteString", "internal/bytealg.IndexString", "math/bits.Add64", "math/bits.Sub64", "slices.overlaps[asof/api.Feature]", "internal/bytealg.abigen_runtime_cmpstring"], unfollowed := true, recurses := true, named := ["internal/bytealg.MaxLen", "asof/checker.aggregates", "asof/checker.unary", "asof/checker.binary", "math/bits.divideError", "math/bits.overflowError"], loops := true, plainKeys := false, apart := false, laid := [("asof/checker.aggregates", laid_asof_checker_aggregates), ("asof/checker.unary", laid_asof_checker_unary), ("asof/checker.binary", laid_asof_checker_binary)], narrowed := true }
def NaiveCountsUptoSaid : Prop := naiveCountsUptoRow.holds Tryz.pinned (OpenSpec.upto naiveCountsSpec)

end Rows
end Go.Proofs.YtkdgbjhbpbgdeaaGreatDoor
