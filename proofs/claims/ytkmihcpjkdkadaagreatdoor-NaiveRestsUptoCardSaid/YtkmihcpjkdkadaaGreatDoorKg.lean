/- Merged out of my texts Q8. -/
import Derived.Test.YtkmihcpjkdkadaaGreatDoorKA
import Derived.Test.YtkmihcpjkdkadaaGreatDoorRows
import Derived.JoinedCond
import GoSem.ClaimSeven
set_option linter.unusedSimpArgs false
set_option maxRecDepth 100000
set_option linter.unusedVariables false
open Go.Proofs.Tryz
namespace Go.Proofs.YtkmihcpjkdkadaaGreatDoor
open Go.ChangeShapes
theorem qD1:(Rows.naiveRestsUptoRow.wf (OpenSpec.ofChange (Rows.OpenSpec.upto Rows.naiveRestsSpec).bare))=true:=by kernel_rfl
theorem qoa:(laidOutB prog)=true:=by kernel_rfl
theorem qEg:(mapsRowed prog)=true:=by kernel_rfl
theorem qD8:(Tryz.f3.params.all (prog.readableRec ·))=true:=by kernel_rfl
theorem qEe:(namedTie prog Rows.naiveRestsUptoRow.named (Rows.OpenSpec.upto Rows.naiveRestsSpec).bare.vars)=true:=by kernel_rfl
theorem qEa:(prog.stops == [])=true:=by kernel_rfl
theorem qEc:(prog.stopKnobs == [])=true:=by kernel_rfl
theorem qEh:(Rows.naiveRestsUptoRow.maps == (Tryz.f3.params.toList++(Rows.OpenSpec.upto Rows.naiveRestsSpec).bare.plain.varTypes prog).any (prog.mapsRec ·))=true:=by kernel_rfl
theorem qEq:(Rows.naiveRestsUptoRow.ifaces == (Tryz.f3.params.toList++(Rows.OpenSpec.upto Rows.naiveRestsSpec).bare.plain.varTypes prog).any (prog.ifacesRec ·))=true:=by kernel_rfl
theorem qEi:(Rows.naiveRestsUptoRow.mapsOut == prog.mapsAmong Tryz.f3.resultTypes.toList)=true:=by kernel_rfl
theorem qEn:(Rows.naiveRestsUptoRow.loops == (Tryz.f3.params.toList++(Rows.OpenSpec.upto Rows.naiveRestsSpec).bare.plain.varTypes prog).any (prog.loopsFrom ·))=true:=by kernel_rfl
theorem qD0:(Rows.naiveRestsUptoRow.wideKeys == (Tryz.f3.params.toList++(Rows.OpenSpec.upto Rows.naiveRestsSpec).bare.plain.varTypes prog++Tryz.f3.resultTypes.toList).any (prog.wideKeysFrom ·))=true:=by kernel_rfl
theorem qD2:((Rows.OpenSpec.upto Rows.naiveRestsSpec).bare.vars.all (prog.varReadable ·))=true:=by kernel_rfl
theorem qD7:(Tryz.f3.resultTypes.all (fun t=>prog.readableRec t && decide (t < prog.types.size)))=true:=by kernel_rfl
theorem qEp:(Rows.naiveRestsUptoRow.ifacesOut == Tryz.f3.resultTypes.toList.any (prog.ifacesRec ·))=true:=by kernel_rfl
theorem qEl:(Rows.naiveRestsUptoRow.loopsOut == Tryz.f3.resultTypes.toList.any (prog.loopsFrom ·))=true:=by kernel_rfl
theorem qEb:(Rows.naiveRestsUptoRow.plainKeys == prog.plainKeys)=true:=by kernel_rfl
theorem qD6:(prog.stopsHeard)=true:=by kernel_rfl
theorem qEk:(prog.mayEnter)=true:=by kernel_rfl
theorem qEm:(Rows.naiveRestsUptoRow.lifted == prog.liftsFinal)=true:=by kernel_rfl
theorem qEj:(prog.make == some Rows.naiveRestsUptoRow.make)=true:=by kernel_rfl
theorem qEd:(Rows.naiveRestsUptoRow.pinned == Rows.naiveRestsUptoRow.pinnedBy)=true:=by kernel_rfl
theorem qD4:(Rows.naiveRestsUptoRow.veiled == (Tryz.f3.params.toList++(Rows.OpenSpec.upto Rows.naiveRestsSpec).bare.plain.varTypes prog++Tryz.f3.resultTypes.toList).any (prog.veiledRec ·))=true:=by kernel_rfl
theorem qD3:(Rows.naiveRestsUptoRow.veiledFits prog Tryz.f3.params.toList (Tryz.f3.params.toList++(Rows.OpenSpec.upto Rows.naiveRestsSpec).bare.plain.varTypes prog++Tryz.f3.resultTypes.toList))=true:=by kernel_rfl
theorem qaw : prog.funcNamed "asof/asoflaw18.NaiveRests" = some 3 := by kernel_rfl
theorem qln:prog.looks []=false:=by kernel_rfl
theorem qrw:prog.funcs.any Func.goes=false:=by kernel_rfl
theorem qct {P:Program} {c:OpenClaim} (h:P.funcs.any Func.goes=false) (j:c.start=.entering):c.goesBy P=false:=by
 unfold OpenClaim.goesBy Program.goesAt Program.goesFrom;rw [j,qP3];cases k:P.funcNamed c.func with
 | none=>rfl
 | some f =>
  show P.goes f=false;unfold Program.goes;rw [h,qPu,qP3,List.any_eq_false];intro g _;cases d:P.funcs[g]? with
  | none=>simp
  | some fn =>
   rw [Option.any_some];exact fun e=>by
    have a:P.funcs.any Func.goes=true:=Array.any_eq_true'.2 ⟨fn,qR1 d,e⟩;rw [h] at a;cases a
theorem qsa:false=Rows.naiveRestsUptoRow.goesBy prog:=(qct qrw rfl).symm
theorem ka {a b:Bool} (d:a=true) (hb:b=true):(a && b)=true:=by rw [d,hb];rfl
end Go.Proofs.YtkmihcpjkdkadaaGreatDoor
