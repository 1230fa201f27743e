/-
  No cell of these rows narrows 'for every input' (looked for: loops, veiled, ifaces, maps, wideKeys, modest, calm, conditions, laid).
  DERIVED. THE GIVEN ROWS OF THIS SEAT. 3 by the template 'for every input the law returns true; each argument reads behind the call as it read before'; 0 by the template 'total and deterministic' (their statements: YtjdggbanifineaaGreatTotals.lean).
  GIVEN WITH THE SEED: the statements are not yours to turn. If you find one false, say at which input.
  Laid BY PROGRAM, IN A SANDBOX (cutbox-rows.mjs): the forced cells as the released guide's own fill.sh prints them over the translation 26c601939a4ed895… (all of the seat's roots in one cut). By AI agents, Wed Nov 11 2026. No macro, syntax, notation, axiom, sorry.
-/
import Derived.Test.YtjdggbanifineaaGreatChecked
import GoSem.Claim
import GoSem.ClaimJoined
import GoSem.ClaimMapViews
import Derived.JoinedTies
import Derived.KernelRfl
namespace Go.Proofs.YtjdggbanifineaaGreat
/- THE CELL 'sum', in the pinned program and in every row, IS THE sha256 OF THE DUMP (.gsa) THAT YtjdggbanifineaaGreatProg.lean LOADS. Nothing in Lean hashes anything: it is a label: what it is worth is what the hold of that sum in a sandbox is worth. -/
noncomputable def Tryz.pinned : Pinned := { name := "ytjdggbanifineaagreat", sum := "26c601939a4ed895c6eb3b6affd20c994c5f0bf34af87e37cc91fb45b55ad503", checked := Tryz.checked }
namespace Rows
def none {H : Type} : Left H := { results := [], args := [] }

/-- 'asoflaw21.OperatorsAdds': WHATEVER THE INPUT: true; the input reads as it did. -/
def operatorsAddsSpec : ChangeSpec := { name := "operatorsAdds", fn := fun _ => fun
  | [d1, d2, d3, d4, d5] => { results := [.lit (.bool true)], args := [d1, d2, d3, d4, d5] }
  | _ => none }
def operatorsAddsRow : OpenClaim := { program := "ytjdggbanifineaagreat", sum := "26c601939a4ed895c6eb3b6affd20c994c5f0bf34af87e37cc91fb45b55ad503", func := "asof/asoflaw21.OperatorsAdds", spec := "operatorsAdds", inPlace := ["slices.overlaps[asof/api.Cell]", "internal/bytealg.abigen_runtime_cmpstring", "math/bits.Add64", "math/bits.Sub64"], unfollowed := true, recurses := true, named := ["math/bits.divideError", "math/bits.overflowError"], apart := false }
def OperatorsAddsSaid : Prop := operatorsAddsRow.holds Tryz.pinned (OpenSpec.ofChange operatorsAddsSpec)

/-- ITS FALSE NEIGHBOUR: 'it returns false'. Refute it at one input. -/
def operatorsAddsWrong : ChangeSpec := { name := "operatorsAdds", fn := fun _ => fun
  | [d1, d2, d3, d4, d5] => { results := [.lit (.bool false)], args := [d1, d2, d3, d4, d5] }
  | _ => none }
def OperatorsAddsWrongFalsely : Prop := operatorsAddsRow.holds Tryz.pinned (OpenSpec.ofChange operatorsAddsWrong)

/-- 'asoflaw21.OperatorsCells': WHATEVER THE INPUT: true; the input reads as it did. -/
def operatorsCellsSpec : ChangeSpec := { name := "operatorsCells", fn := fun _ => fun
  | [d1, d2, d3, d4, d5] => { results := [.lit (.bool true)], args := [d1, d2, d3, d4, d5] }
  | _ => none }
def operatorsCellsRow : OpenClaim := { program := "ytjdggbanifineaagreat", sum := "26c601939a4ed895c6eb3b6affd20c994c5f0bf34af87e37cc91fb45b55ad503", func := "asof/asoflaw21.OperatorsCells", spec := "operatorsCells", inPlace := ["slices.overlaps[asof/api.Cell]", "internal/bytealg.abigen_runtime_cmpstring", "math/bits.Add64", "math/bits.Sub64"], unfollowed := true, recurses := true, named := ["math/bits.divideError", "math/bits.overflowError"], apart := false }
def OperatorsCellsSaid : Prop := operatorsCellsRow.holds Tryz.pinned (OpenSpec.ofChange operatorsCellsSpec)

/-- ITS FALSE NEIGHBOUR: 'it returns false'. Refute it at one input. -/
def operatorsCellsWrong : ChangeSpec := { name := "operatorsCells", fn := fun _ => fun
  | [d1, d2, d3, d4, d5] => { results := [.lit (.bool false)], args := [d1, d2, d3, d4, d5] }
  | _ => none }
def OperatorsCellsWrongFalsely : Prop := operatorsCellsRow.holds Tryz.pinned (OpenSpec.ofChange operatorsCellsWrong)

/-- 'asoflaw21.OperatorsConsolidate': WHATEVER THE INPUT: true; the input reads as it did. -/
def operatorsConsolidateSpec : ChangeSpec := { name := "operatorsConsolidate", fn := fun _ => fun
  | [d1, d2, d3, d4] => { results := [.lit (.bool true)], args := [d1, d2, d3, d4] }
  | _ => none }
def operatorsConsolidateRow : OpenClaim := { program := "ytjdggbanifineaagreat", sum := "26c601939a4ed895c6eb3b6affd20c994c5f0bf34af87e37cc91fb45b55ad503", func := "asof/asoflaw21.OperatorsConsolidate", spec := "operatorsConsolidate", inPlace := ["internal/bytealg.abigen_runtime_cmpstring", "slices.overlaps[asof/api.Cell]", "math/bits.Add64", "math/bits.Sub64"], unfollowed := true, recurses := true, named := ["math/bits.divideError", "math/bits.overflowError"], apart := false }
def OperatorsConsolidateSaid : Prop := operatorsConsolidateRow.holds Tryz.pinned (OpenSpec.ofChange operatorsConsolidateSpec)

/-- ITS FALSE NEIGHBOUR: 'it returns false'. Refute it at one input. -/
def operatorsConsolidateWrong : ChangeSpec := { name := "operatorsConsolidate", fn := fun _ => fun
  | [d1, d2, d3, d4] => { results := [.lit (.bool false)], args := [d1, d2, d3, d4] }
  | _ => none }
def OperatorsConsolidateWrongFalsely : Prop := operatorsConsolidateRow.holds Tryz.pinned (OpenSpec.ofChange operatorsConsolidateWrong)

/- THE SECOND FORM. 'bulk': how many values and letters a reading holds, each counted each time it is reached (what is shared counts as often as it is met; a slice's spare places count too). A statement '..UptoSaid' is the law's where the arguments, and the package variables that the reading takes, are together of bulk at most 1048576: NARROWER than '..Said'. Prove '..Said' where nothing that the law and all that it calls make is longer than what came in: it says more and counts as full. Else prove '..UptoSaid'. A law counts once. -/
mutual
def uptoBulk {H : Type} : DataW H → Nat
  | .lit (.string bytes) => bytes.length + 1
  | .lit _ => 1
  | .nil => 1
  | .ptr d => uptoBulk d + 1
  | .slice elems spare => uptoBulkAll elems + uptoBulkAll spare + 1
  | .agg parts => uptoBulkAll parts + 1
  | .iface _ d => uptoBulk d + 1
  | .map entries => uptoBulkEntries entries + 1
  | .held _ => 1
def uptoBulkAll {H : Type} : List (DataW H) → Nat
  | [] => 0
  | d :: r => uptoBulk d + uptoBulkAll r
def uptoBulkEntries {H : Type} : List (Lit × DataW H) → Nat
  | [] => 0
  | x :: r => uptoBulkEntry x + uptoBulkEntries r
def uptoBulkEntry {H : Type} : Lit × DataW H → Nat
  | (.string bytes, d) => bytes.length + uptoBulk d + 1
  | (_, d) => uptoBulk d + 1
 end
def uptoSmall : (H : Type) → List (DataW H) → Bool := fun _ ds => decide (uptoBulkAll ds ≤ 1048576)
def OpenSpec.upto (s : _root_.Go.ChangeSpec) : _root_.Go.OpenSpec := { _root_.Go.OpenSpec.ofChange s with cond := some uptoSmall }

/-- 'asoflaw21.OperatorsAdds', WHERE WHAT IT READS IS OF BULK AT MOST 1048576: true; the input reads as it did. -/
def operatorsAddsUptoRow : OpenClaim := { program := "ytjdggbanifineaagreat", sum := "26c601939a4ed895c6eb3b6affd20c994c5f0bf34af87e37cc91fb45b55ad503", func := "asof/asoflaw21.OperatorsAdds", spec := "operatorsAdds", inPlace := ["slices.overlaps[asof/api.Cell]", "internal/bytealg.abigen_runtime_cmpstring", "math/bits.Add64", "math/bits.Sub64"], unfollowed := true, recurses := true, named := ["math/bits.divideError", "math/bits.overflowError"], apart := false, narrowed := true }
def OperatorsAddsUptoSaid : Prop := operatorsAddsUptoRow.holds Tryz.pinned (OpenSpec.upto operatorsAddsSpec)

/-- 'asoflaw21.OperatorsCells', WHERE WHAT IT READS IS OF BULK AT MOST 1048576: true; the input reads as it did. -/
def operatorsCellsUptoRow : OpenClaim := { program := "ytjdggbanifineaagreat", sum := "26c601939a4ed895c6eb3b6affd20c994c5f0bf34af87e37cc91fb45b55ad503", func := "asof/asoflaw21.OperatorsCells", spec := "operatorsCells", inPlace := ["slices.overlaps[asof/api.Cell]", "internal/bytealg.abigen_runtime_cmpstring", "math/bits.Add64", "math/bits.Sub64"], unfollowed := true, recurses := true, named := ["math/bits.divideError", "math/bits.overflowError"], apart := false, narrowed := true }
def OperatorsCellsUptoSaid : Prop := operatorsCellsUptoRow.holds Tryz.pinned (OpenSpec.upto operatorsCellsSpec)

/-- 'asoflaw21.OperatorsConsolidate', WHERE WHAT IT READS IS OF BULK AT MOST 1048576: true; the input reads as it did. -/
def operatorsConsolidateUptoRow : OpenClaim := { program := "ytjdggbanifineaagreat", sum := "26c601939a4ed895c6eb3b6affd20c994c5f0bf34af87e37cc91fb45b55ad503", func := "asof/asoflaw21.OperatorsConsolidate", spec := "operatorsConsolidate", inPlace := ["internal/bytealg.abigen_runtime_cmpstring", "slices.overlaps[asof/api.Cell]", "math/bits.Add64", "math/bits.Sub64"], unfollowed := true, recurses := true, named := ["math/bits.divideError", "math/bits.overflowError"], apart := false, narrowed := true }
def OperatorsConsolidateUptoSaid : Prop := operatorsConsolidateUptoRow.holds Tryz.pinned (OpenSpec.upto operatorsConsolidateSpec)

end Rows
end Go.Proofs.YtjdggbanifineaaGreat
