/-
  No cell of these rows narrows 'for every input' (looked for: loops, veiled, ifaces, maps, wideKeys, modest, calm, conditions, laid).
  DERIVED. THE GIVEN ROWS OF THIS SEAT. 7 by the template 'for every input the law returns true; each argument reads behind the call as it read before'; 0 by the template 'total and deterministic' (their statements: YtopfanlkbepemaaTotals.lean).
  GIVEN WITH THE SEED: the statements are not yours to turn. If you find one false, say at which input.
  Laid BY PROGRAM, IN A SANDBOX (cutbox-rows.mjs): the forced cells as the released guide's own fill.sh prints them over the translation f3785970f5668cab… (all of the seat's roots in one cut). By AI agents, Wed Nov 11 2026. No macro, syntax, notation, axiom, sorry.
-/
import Derived.Test.YtopfanlkbepemaaChecked
import GoSem.Claim
import GoSem.ClaimJoined
import GoSem.ClaimMapViews
import Derived.JoinedTies
import Derived.KernelRfl
namespace Go.Proofs.Ytopfanlkbepemaa
/- THE CELL 'sum', in the pinned program and in every row, IS THE sha256 OF THE DUMP (.gsa) THAT YtopfanlkbepemaaProg.lean LOADS. Nothing in Lean hashes anything: it is a label: what it is worth is what the hold of that sum in a sandbox is worth. -/
noncomputable def Try.pinned : Pinned := { name := "ytopfanlkbepemaa", sum := "f3785970f5668cabc3b6b20c5e44f3f7794c7d3fc6a4a9d93bdc5e4df3ead8bc", checked := Try.checked }
namespace Rows
def none {H : Type} : Left H := { results := [], args := [] }

/-- 'asoflaw22.ArrangeCompacts': WHATEVER THE INPUT: true; the input reads as it did. -/
def arrangeCompactsSpec : ChangeSpec := { name := "arrangeCompacts", fn := fun _ => fun
  | [d1, d2, d3, d4, d5] => { results := [.lit (.bool true)], args := [d1, d2, d3, d4, d5] }
  | _ => none }
def arrangeCompactsRow : OpenClaim := { program := "ytopfanlkbepemaa", sum := "f3785970f5668cabc3b6b20c5e44f3f7794c7d3fc6a4a9d93bdc5e4df3ead8bc", func := "asof/asoflaw22.ArrangeCompacts", spec := "arrangeCompacts", inPlace := ["slices.overlaps[asof/api.Group]", "internal/bytealg.abigen_runtime_cmpstring"], unfollowed := true, recurses := true, plainKeys := false, apart := false }
def ArrangeCompactsSaid : Prop := arrangeCompactsRow.holds Try.pinned (OpenSpec.ofChange arrangeCompactsSpec)

/-- ITS FALSE NEIGHBOUR: 'it returns false'. Refute it at one input. -/
def arrangeCompactsWrong : ChangeSpec := { name := "arrangeCompacts", fn := fun _ => fun
  | [d1, d2, d3, d4, d5] => { results := [.lit (.bool false)], args := [d1, d2, d3, d4, d5] }
  | _ => none }
def ArrangeCompactsWrongFalsely : Prop := arrangeCompactsRow.holds Try.pinned (OpenSpec.ofChange arrangeCompactsWrong)

/-- 'asoflaw22.ArrangeCommutes': WHATEVER THE INPUT: true; the input reads as it did. -/
def arrangeCommutesSpec : ChangeSpec := { name := "arrangeCommutes", fn := fun _ => fun
  | [d1, d2, d3, d4] => { results := [.lit (.bool true)], args := [d1, d2, d3, d4] }
  | _ => none }
def arrangeCommutesRow : OpenClaim := { program := "ytopfanlkbepemaa", sum := "f3785970f5668cabc3b6b20c5e44f3f7794c7d3fc6a4a9d93bdc5e4df3ead8bc", func := "asof/asoflaw22.ArrangeCommutes", spec := "arrangeCommutes", inPlace := ["slices.overlaps[asof/api.Group]", "internal/bytealg.abigen_runtime_cmpstring"], unfollowed := true, recurses := true, plainKeys := false, apart := false }
def ArrangeCommutesSaid : Prop := arrangeCommutesRow.holds Try.pinned (OpenSpec.ofChange arrangeCommutesSpec)

/-- ITS FALSE NEIGHBOUR: 'it returns false'. Refute it at one input. -/
def arrangeCommutesWrong : ChangeSpec := { name := "arrangeCommutes", fn := fun _ => fun
  | [d1, d2, d3, d4] => { results := [.lit (.bool false)], args := [d1, d2, d3, d4] }
  | _ => none }
def ArrangeCommutesWrongFalsely : Prop := arrangeCommutesRow.holds Try.pinned (OpenSpec.ofChange arrangeCommutesWrong)

/-- 'asoflaw22.ArrangeOrder': WHATEVER THE INPUT: true; the input reads as it did. -/
def arrangeOrderSpec : ChangeSpec := { name := "arrangeOrder", fn := fun _ => fun
  | [d1, d2, d3] => { results := [.lit (.bool true)], args := [d1, d2, d3] }
  | _ => none }
def arrangeOrderRow : OpenClaim := { program := "ytopfanlkbepemaa", sum := "f3785970f5668cabc3b6b20c5e44f3f7794c7d3fc6a4a9d93bdc5e4df3ead8bc", func := "asof/asoflaw22.ArrangeOrder", spec := "arrangeOrder", inPlace := ["slices.overlaps[asof/api.Group]", "internal/bytealg.abigen_runtime_cmpstring"], unfollowed := true, recurses := true, plainKeys := false, apart := false }
def ArrangeOrderSaid : Prop := arrangeOrderRow.holds Try.pinned (OpenSpec.ofChange arrangeOrderSpec)

/-- ITS FALSE NEIGHBOUR: 'it returns false'. Refute it at one input. -/
def arrangeOrderWrong : ChangeSpec := { name := "arrangeOrder", fn := fun _ => fun
  | [d1, d2, d3] => { results := [.lit (.bool false)], args := [d1, d2, d3] }
  | _ => none }
def ArrangeOrderWrongFalsely : Prop := arrangeOrderRow.holds Try.pinned (OpenSpec.ofChange arrangeOrderWrong)

/-- 'asoflaw22.ArrangeMatchesReads': WHATEVER THE INPUT: true; the input reads as it did. -/
def arrangeMatchesReadsSpec : ChangeSpec := { name := "arrangeMatchesReads", fn := fun _ => fun
  | [d1, d2, d3, d4, d5] => { results := [.lit (.bool true)], args := [d1, d2, d3, d4, d5] }
  | _ => none }
def arrangeMatchesReadsRow : OpenClaim := { program := "ytopfanlkbepemaa", sum := "f3785970f5668cabc3b6b20c5e44f3f7794c7d3fc6a4a9d93bdc5e4df3ead8bc", func := "asof/asoflaw22.ArrangeMatchesReads", spec := "arrangeMatchesReads", inPlace := ["slices.overlaps[asof/api.Group]", "internal/bytealg.abigen_runtime_cmpstring"], unfollowed := true, recurses := true, plainKeys := false, apart := false }
def ArrangeMatchesReadsSaid : Prop := arrangeMatchesReadsRow.holds Try.pinned (OpenSpec.ofChange arrangeMatchesReadsSpec)

/-- ITS FALSE NEIGHBOUR: 'it returns false'. Refute it at one input. -/
def arrangeMatchesReadsWrong : ChangeSpec := { name := "arrangeMatchesReads", fn := fun _ => fun
  | [d1, d2, d3, d4, d5] => { results := [.lit (.bool false)], args := [d1, d2, d3, d4, d5] }
  | _ => none }
def ArrangeMatchesReadsWrongFalsely : Prop := arrangeMatchesReadsRow.holds Try.pinned (OpenSpec.ofChange arrangeMatchesReadsWrong)

/-- 'asoflaw22.ArrangePurges': WHATEVER THE INPUT: true; the input reads as it did. -/
def arrangePurgesSpec : ChangeSpec := { name := "arrangePurges", fn := fun _ => fun
  | [d1, d2, d3, d4, d5] => { results := [.lit (.bool true)], args := [d1, d2, d3, d4, d5] }
  | _ => none }
def arrangePurgesRow : OpenClaim := { program := "ytopfanlkbepemaa", sum := "f3785970f5668cabc3b6b20c5e44f3f7794c7d3fc6a4a9d93bdc5e4df3ead8bc", func := "asof/asoflaw22.ArrangePurges", spec := "arrangePurges", inPlace := ["slices.overlaps[asof/api.Group]", "internal/bytealg.abigen_runtime_cmpstring"], unfollowed := true, recurses := true, plainKeys := false, apart := false }
def ArrangePurgesSaid : Prop := arrangePurgesRow.holds Try.pinned (OpenSpec.ofChange arrangePurgesSpec)

/-- ITS FALSE NEIGHBOUR: 'it returns false'. Refute it at one input. -/
def arrangePurgesWrong : ChangeSpec := { name := "arrangePurges", fn := fun _ => fun
  | [d1, d2, d3, d4, d5] => { results := [.lit (.bool false)], args := [d1, d2, d3, d4, d5] }
  | _ => none }
def ArrangePurgesWrongFalsely : Prop := arrangePurgesRow.holds Try.pinned (OpenSpec.ofChange arrangePurgesWrong)

/-- 'asoflaw22.ArrangeMatchesBuild': WHATEVER THE INPUT: true; the input reads as it did. -/
def arrangeMatchesBuildSpec : ChangeSpec := { name := "arrangeMatchesBuild", fn := fun _ => fun
  | [d1, d2, d3] => { results := [.lit (.bool true)], args := [d1, d2, d3] }
  | _ => none }
def arrangeMatchesBuildRow : OpenClaim := { program := "ytopfanlkbepemaa", sum := "f3785970f5668cabc3b6b20c5e44f3f7794c7d3fc6a4a9d93bdc5e4df3ead8bc", func := "asof/asoflaw22.ArrangeMatchesBuild", spec := "arrangeMatchesBuild", inPlace := ["slices.overlaps[asof/api.Group]", "internal/bytealg.abigen_runtime_cmpstring"], unfollowed := true, recurses := true, plainKeys := false, apart := false }
def ArrangeMatchesBuildSaid : Prop := arrangeMatchesBuildRow.holds Try.pinned (OpenSpec.ofChange arrangeMatchesBuildSpec)

/-- ITS FALSE NEIGHBOUR: 'it returns false'. Refute it at one input. -/
def arrangeMatchesBuildWrong : ChangeSpec := { name := "arrangeMatchesBuild", fn := fun _ => fun
  | [d1, d2, d3] => { results := [.lit (.bool false)], args := [d1, d2, d3] }
  | _ => none }
def ArrangeMatchesBuildWrongFalsely : Prop := arrangeMatchesBuildRow.holds Try.pinned (OpenSpec.ofChange arrangeMatchesBuildWrong)

/-- 'asoflaw22.ArrangeStaysValid': WHATEVER THE INPUT: true; the input reads as it did. -/
def arrangeStaysValidSpec : ChangeSpec := { name := "arrangeStaysValid", fn := fun _ => fun
  | [d1, d2, d3, d4] => { results := [.lit (.bool true)], args := [d1, d2, d3, d4] }
  | _ => none }
def arrangeStaysValidRow : OpenClaim := { program := "ytopfanlkbepemaa", sum := "f3785970f5668cabc3b6b20c5e44f3f7794c7d3fc6a4a9d93bdc5e4df3ead8bc", func := "asof/asoflaw22.ArrangeStaysValid", spec := "arrangeStaysValid", inPlace := ["slices.overlaps[asof/api.Group]", "internal/bytealg.abigen_runtime_cmpstring"], unfollowed := true, recurses := true, plainKeys := false, apart := false }
def ArrangeStaysValidSaid : Prop := arrangeStaysValidRow.holds Try.pinned (OpenSpec.ofChange arrangeStaysValidSpec)

/-- ITS FALSE NEIGHBOUR: 'it returns false'. Refute it at one input. -/
def arrangeStaysValidWrong : ChangeSpec := { name := "arrangeStaysValid", fn := fun _ => fun
  | [d1, d2, d3, d4] => { results := [.lit (.bool false)], args := [d1, d2, d3, d4] }
  | _ => none }
def ArrangeStaysValidWrongFalsely : Prop := arrangeStaysValidRow.holds Try.pinned (OpenSpec.ofChange arrangeStaysValidWrong)

/- THE SECOND FORM. 'bulk': how many values and letters a reading holds, each counted each time it is reached (what is shared counts as often as it is met; a slice's spare places count too). A statement '..UptoSaid' is the law's where the arguments, and the package variables that the reading takes, are together of bulk at most 1048576: NARROWER than '..Said'. Prove '..Said' where nothing that the law and all that it calls make is longer than what came in: it says more and counts as full. Else prove '..UptoSaid'. A law counts once. -/
mutual
def uptoBulk {H : Type} : DataW H → Nat
  | .lit (.string bytes) => bytes.length + 1
  | .lit _ => 1
  | .nil => 1
  | .ptr d => uptoBulk d + 1
  | .slice elems spare => uptoBulkAll elems + uptoBulkAll spare + 1
  | .agg parts => uptoBulkAll parts + 1
  | .iface _ d => uptoBulk d + 1
  | .map entries => uptoBulkEntries entries + 1
  | .held _ => 1
def uptoBulkAll {H : Type} : List (DataW H) → Nat
  | [] => 0
  | d :: r => uptoBulk d + uptoBulkAll r
def uptoBulkEntries {H : Type} : List (Lit × DataW H) → Nat
  | [] => 0
  | x :: r => uptoBulkEntry x + uptoBulkEntries r
def uptoBulkEntry {H : Type} : Lit × DataW H → Nat
  | (.string bytes, d) => bytes.length + uptoBulk d + 1
  | (_, d) => uptoBulk d + 1
 end
def uptoSmall : (H : Type) → List (DataW H) → Bool := fun _ ds => decide (uptoBulkAll ds ≤ 1048576)
def OpenSpec.upto (s : _root_.Go.ChangeSpec) : _root_.Go.OpenSpec := { _root_.Go.OpenSpec.ofChange s with cond := some uptoSmall }

/-- 'asoflaw22.ArrangeCompacts', WHERE WHAT IT READS IS OF BULK AT MOST 1048576: true; the input reads as it did. -/
def arrangeCompactsUptoRow : OpenClaim := { program := "ytopfanlkbepemaa", sum := "f3785970f5668cabc3b6b20c5e44f3f7794c7d3fc6a4a9d93bdc5e4df3ead8bc", func := "asof/asoflaw22.ArrangeCompacts", spec := "arrangeCompacts", inPlace := ["slices.overlaps[asof/api.Group]", "internal/bytealg.abigen_runtime_cmpstring"], unfollowed := true, recurses := true, plainKeys := false, apart := false, narrowed := true }
def ArrangeCompactsUptoSaid : Prop := arrangeCompactsUptoRow.holds Try.pinned (OpenSpec.upto arrangeCompactsSpec)

/-- 'asoflaw22.ArrangeCommutes', WHERE WHAT IT READS IS OF BULK AT MOST 1048576: true; the input reads as it did. -/
def arrangeCommutesUptoRow : OpenClaim := { program := "ytopfanlkbepemaa", sum := "f3785970f5668cabc3b6b20c5e44f3f7794c7d3fc6a4a9d93bdc5e4df3ead8bc", func := "asof/asoflaw22.ArrangeCommutes", spec := "arrangeCommutes", inPlace := ["slices.overlaps[asof/api.Group]", "internal/bytealg.abigen_runtime_cmpstring"], unfollowed := true, recurses := true, plainKeys := false, apart := false, narrowed := true }
def ArrangeCommutesUptoSaid : Prop := arrangeCommutesUptoRow.holds Try.pinned (OpenSpec.upto arrangeCommutesSpec)

/-- 'asoflaw22.ArrangeOrder', WHERE WHAT IT READS IS OF BULK AT MOST 1048576: true; the input reads as it did. -/
def arrangeOrderUptoRow : OpenClaim := { program := "ytopfanlkbepemaa", sum := "f3785970f5668cabc3b6b20c5e44f3f7794c7d3fc6a4a9d93bdc5e4df3ead8bc", func := "asof/asoflaw22.ArrangeOrder", spec := "arrangeOrder", inPlace := ["slices.overlaps[asof/api.Group]", "internal/bytealg.abigen_runtime_cmpstring"], unfollowed := true, recurses := true, plainKeys := false, apart := false, narrowed := true }
def ArrangeOrderUptoSaid : Prop := arrangeOrderUptoRow.holds Try.pinned (OpenSpec.upto arrangeOrderSpec)

/-- 'asoflaw22.ArrangeMatchesReads', WHERE WHAT IT READS IS OF BULK AT MOST 1048576: true; the input reads as it did. -/
def arrangeMatchesReadsUptoRow : OpenClaim := { program := "ytopfanlkbepemaa", sum := "f3785970f5668cabc3b6b20c5e44f3f7794c7d3fc6a4a9d93bdc5e4df3ead8bc", func := "asof/asoflaw22.ArrangeMatchesReads", spec := "arrangeMatchesReads", inPlace := ["slices.overlaps[asof/api.Group]", "internal/bytealg.abigen_runtime_cmpstring"], unfollowed := true, recurses := true, plainKeys := false, apart := false, narrowed := true }
def ArrangeMatchesReadsUptoSaid : Prop := arrangeMatchesReadsUptoRow.holds Try.pinned (OpenSpec.upto arrangeMatchesReadsSpec)

/-- 'asoflaw22.ArrangePurges', WHERE WHAT IT READS IS OF BULK AT MOST 1048576: true; the input reads as it did. -/
def arrangePurgesUptoRow : OpenClaim := { program := "ytopfanlkbepemaa", sum := "f3785970f5668cabc3b6b20c5e44f3f7794c7d3fc6a4a9d93bdc5e4df3ead8bc", func := "asof/asoflaw22.ArrangePurges", spec := "arrangePurges", inPlace := ["slices.overlaps[asof/api.Group]", "internal/bytealg.abigen_runtime_cmpstring"], unfollowed := true, recurses := true, plainKeys := false, apart := false, narrowed := true }
def ArrangePurgesUptoSaid : Prop := arrangePurgesUptoRow.holds Try.pinned (OpenSpec.upto arrangePurgesSpec)

/-- 'asoflaw22.ArrangeMatchesBuild', WHERE WHAT IT READS IS OF BULK AT MOST 1048576: true; the input reads as it did. -/
def arrangeMatchesBuildUptoRow : OpenClaim := { program := "ytopfanlkbepemaa", sum := "f3785970f5668cabc3b6b20c5e44f3f7794c7d3fc6a4a9d93bdc5e4df3ead8bc", func := "asof/asoflaw22.ArrangeMatchesBuild", spec := "arrangeMatchesBuild", inPlace := ["slices.overlaps[asof/api.Group]", "internal/bytealg.abigen_runtime_cmpstring"], unfollowed := true, recurses := true, plainKeys := false, apart := false, narrowed := true }
def ArrangeMatchesBuildUptoSaid : Prop := arrangeMatchesBuildUptoRow.holds Try.pinned (OpenSpec.upto arrangeMatchesBuildSpec)

/-- 'asoflaw22.ArrangeStaysValid', WHERE WHAT IT READS IS OF BULK AT MOST 1048576: true; the input reads as it did. -/
def arrangeStaysValidUptoRow : OpenClaim := { program := "ytopfanlkbepemaa", sum := "f3785970f5668cabc3b6b20c5e44f3f7794c7d3fc6a4a9d93bdc5e4df3ead8bc", func := "asof/asoflaw22.ArrangeStaysValid", spec := "arrangeStaysValid", inPlace := ["slices.overlaps[asof/api.Group]", "internal/bytealg.abigen_runtime_cmpstring"], unfollowed := true, recurses := true, plainKeys := false, apart := false, narrowed := true }
def ArrangeStaysValidUptoSaid : Prop := arrangeStaysValidUptoRow.holds Try.pinned (OpenSpec.upto arrangeStaysValidSpec)

end Rows
end Go.Proofs.Ytopfanlkbepemaa
