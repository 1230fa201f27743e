/- For every input of bulk at most 1048576 asoflaw18.NaiveCounts returns true, and each argument reads behind the call az it read before; tied to the program's text. No further condition. -/
import Derived.Test.YtkdgbjhbpbgdeaaGreatDoorKg
import Derived.Lay
import Derived.Deep.DeepHandedRow
import Derived.Deep.DeepWitnessRowRef
import Derived.Test.YtkdgbjhbpbgdeaaGreatDoorCards
import Derived.Test.YtkdgbjhbpbgdeaaGreatDoorTie
import Derived.OpenShut
set_option linter.unusedSimpArgs false
open Go.Proofs.Tryz
open Go.VL Go.Ar Go.Lo Go.Sg
namespace Go.Proofs.YtkdgbjhbpbgdeaaGreatDoor
open Go.ChangeShapes Go.WideShapes Go.ChangeAt Go.RowKit
theorem own:ownKnob prog.godebug=none:=by kernel_rfl
theorem qCu:laidOutB prog=true:=qoa
abbrev qK4:List TypeId:=[22,114,110,112,71,47,43,93,45,35,60,57,41,3,9,37,33,294,39,31]
theorem qLs:qf6 prog qK4=true:=by kernel_rfl
noncomputable def Wl (os:Os):Go.World:=Go.World.laidAll prog os qxa
theorem qw9 (os:Os) (args:Array Value):laidMet prog qxa ((Wl os).forCall (fun _ _=>0) ⟨#[],args,[]⟩).memory :=
 laidMet_laidAll args (by kernel_rfl) (by kernel_rfl)
abbrev qum:Array Value:=#[.slice none 0 0,.string ⟨#[]⟩,.int .i64 0,.int .i64 0]
theorem reads (os:Os) {H:Type} (enc:TypeId × Value->H):∃ places,DataW.whole enc prog ((Wl os).forCall (fun _ _=>0) ⟨#[],qum,[]⟩).memory Tryz.f3.params.toList Rows.naiveCountsSpec.vars false qum.toList 8=some ([.nil,.lit (.string []),.lit (.int .i64 0),.lit (.int .i64 0)],[],places) :=
 ⟨[],by kernel_rfl⟩
set_option maxRecDepth 100000 in
theorem qCt (a:List V) (h:qdq prog Tryz.f3.params.toList a) (hb:V.bulkAs a<=1048576):zk prog 3 a (.lit (.bool true)):=by
 rw [params3] at h;obtain⟨z,r,d0,rfl,d,h⟩:=h.cons;obtain⟨A,r,d1,rfl,e,h⟩:=h.cons;obtain⟨C,r,d2,rfl,j,h⟩:=h.cons;obtain⟨D,r,d3,rfl,k,h⟩:=h.cons;obtain rfl:=h.nil;obtain⟨u,n,o,p,q⟩:=qDf d (km (Vv x6) hb);obtain⟨w,rfl⟩:=qJb e;obtain⟨x,rfl⟩:=qk0 j;obtain⟨y,rfl⟩:=qk0 k;exact Ok.le (.cons n (.c1 (.c1 (.c1 .nil)))) (qI6 u w x y o p q)
set_option maxRecDepth 100000 in
theorem lifted (os:Os) (started:os.Started) (H:Type) (enc:TypeId × Value->H) (F:Stop.Interp) :
  ReturnsInHanded {} Tryz.checked os 3 .any ((Rows.OpenSpec.upto Rows.naiveCountsSpec).preRow enc prog Tryz.f3 Rows.naiveCountsUptoRow.domain false Rows.naiveCountsUptoRow.laid) (((Rows.OpenSpec.upto Rows.naiveCountsSpec).at F).post enc prog Tryz.f3 false true false false):=by
 obtain⟨places,G⟩:=reads os enc;refine returnsInHanded_of_row (C:=Tryz.checked) (s:=Rows.OpenSpec.upto Rows.naiveCountsSpec) own started (by kernel_rfl) func3
  (witness_row_atRef (enc:=enc) (C:=Tryz.checked) false (Wl os) qum (Go.World.laidAll_os _ _ _) (by kernel_rfl) (by kernel_rfl) (by kernel_rfl)
   (OpenSpec.preRow_of_cond 8 G (by kernel_rfl) (fun k d=>by cases d;kernel_rfl) (by kernel_rfl) (qw9 os _))) ?_
 intro W K args a gs before D j _ d _ o A _;have x:gs=[]:=by
  obtain⟨p,q,_,u,_⟩:=j;exact(trodVars_none u).1
 subst x;have w:bulkDs a<=1048576:=by
  have e:Rows.uptoBulkAll (a++[])<=1048576:=of_decide_eq_true (d _ rfl);rw [wl,bulks_eq] at e;exact e
 refine qre (s:=Rows.naiveCountsSpec) (tb:=4) (T:=qK4) rfl qCu qLs ?_ rfl Ty.un4 D j ?_ (qDm o A) (fun J h I=>qCt J h (km I w))
 ·rw [params3];intro t n;simp only [xb,y8,or_false] at n;rcases n with rfl | rfl | rfl | rfl <;> exact⟨by kernel_rfl,by kernel_rfl,of_decide_eq_true (by kernel_rfl)⟩
 ·intro y;have z:a.length=4:=y
  match a,z with
  | [e0,e1,e2,e3],_=>rfl
theorem qgq:joinedFacts prog 3 Tryz.f3 (Rows.OpenSpec.upto Rows.naiveCountsSpec).bare Rows.naiveCountsUptoRow=true:=by
 unfold joinedFacts;exact ka (ka (ka (ka (ka (ka (ka (ka (ka (ka (ka (ka (ka (ka (ka (ka (ka (ka (ka (ka (ka (ka (ka (ka (ka (ka (ka (ka (ka (ka (ka qD1 qoa) qEg) qD8) qEe) rfl) qEa) rfl) qEc) qEo) qD5) qD9) qEf) qEh) qEq) qEi) qEn) qD0) qD2) qD7) qEp) qEl) qEb) rfl) qD6) qEk) qEm) qEj) rfl) qEd) qD4) qD3
theorem qvn:Rows.NaiveCountsUptoSaid :=
 OpenClaim.holds_of_cond 3 Tryz.f3 rfl rfl rfl rfl rfl rfl rfl ⟨rfl,rfl,rfl,rfl,rfl⟩ rfl rfl rfl rfl rfl qaw func3 qgq
  (of_decide_eq_true (by kernel_rfl)) (by unfold Func.isWrapper;first | (rw [if_pos (by decide +kernel)];kernel_rfl) | (rw [if_neg (by decide +kernel)];exact⟨rfl,rfl⟩))
  (fun os started H a _ F=>by rw [OpenClaim.pre_eq_preRow];exact lifted os started H a F)
theorem plain (f : FuncId) (fn : Func) (e : Tryz.pinned.checked.prog.funcNamed "asof/asoflaw18.NaiveCounts" = some f) (h : Tryz.pinned.checked.prog.funcs[f]? = some fn) :
  false=Tryz.pinned.checked.prog.looks []/\∀ (j:Nat) t,fn.params[j]? = some t->Tryz.pinned.checked.prog.wantsStandIn t=false:=by
 obtain rfl : f = 3 := KL ((show prog.funcNamed "asof/asoflaw18.NaiveCounts" = some 3 from qaw).symm.trans e) |>.symm
 obtain rfl:fn=Tryz.f3:=(KL (func3.symm.trans h)).symm;refine⟨qln.symm,fun j t d=>?_⟩;rw [params3] at d;have a:=qR1 d;simp only [List.mem_toArray,xb,y8,or_false] at a;rcases a with rfl | rfl | rfl | rfl <;> exact(show prog.wantsStandIn _=false by kernel_rfl)
theorem holds:Rows.NaiveCountsUptoCardSaid :=
 Claim7.holds_tied_plain_at .later [] _ _ _ _ qvn (fun _ h=>by cases h) (by kernel_rfl) (fun _ h=>by cases h) naiveCountsUpto_row_tie rfl ⟨rfl,rfl⟩ (by kernel_rfl) rfl plain qsa
end Go.Proofs.YtkdgbjhbpbgdeaaGreatDoor
