/- For every input of bulk at most 1048576 asoflaw19.LowerAggregates returns true, and each argument reads behind the call as it read before; tied to the program's text. No further condition. -/
import Derived.Test.YtohdpcjaoiebkaaGreatDoorKf
import Derived.Test.YtohdpcjaoiebkaaGreatDoorCards
import Derived.Test.YtohdpcjaoiebkaaGreatDoorTie
import Derived.OpenShut
set_option linter.unusedVariables false
set_option linter.unusedSimpArgs false
namespace Go.Proofs.YtohdpcjaoiebkaaGreatDoor
open Go.VL Go.Ar Go.Lo Go.ChangeShapes Go.WideShapes Go.ChangeAt Go.RowKit
theorem reads (os:Os) {H:Type} (enc:TypeId × Value→H):∃ places,DataW.whole enc Tryz.prog ((Xd os).forCall (fun _ _=>0) ⟨#[],#[wC],[]⟩).memory Tryz.f3.params.toList Rows.lowerAggregatesSpec.vars false #[wC].toList 8=some ([dC],[],places) :=
 ⟨[],by kernel_rfl⟩
set_option maxRecDepth 100000 in
theorem qu7 (zs:List V) (h:Uw Tryz.prog Tryz.f3.params.toList zs) (hb:V.bulkAs zs≤1048576):zc Tryz.prog 3 zs (.lit (.bool true)):=by
 rw [Tryz.params3] at h
 obtain⟨a0,r,d0,rfl,h0,h⟩:=h.cons
 obtain rfl:=h.nil
 obtain⟨c,l0,k0⟩:=Ct.in_cat h0 (Nat.le_trans (Jj List.mem_cons_self) hb)
 exact Ok.le (.cons l0 .nil) (qAk 1000000 c (Nat.le_refl _) k0)
set_option maxRecDepth 100000 in
theorem qAa (os:Os) (started:os.Started) (H:Type) (enc:TypeId × Value→H) (F:Stop.Interp) :
  ReturnsInHanded {} Tryz.checked os 3 .any ((Rows.OpenSpec.upto Rows.lowerAggregatesSpec).preRow enc Tryz.prog Tryz.f3 Rows.lowerAggregatesUptoRow.domain false Rows.lowerAggregatesUptoRow.laid) (((Rows.OpenSpec.upto Rows.lowerAggregatesSpec).at F).post enc Tryz.prog Tryz.f3 false true false false):=by
 obtain⟨places,hx⟩:=reads os enc
 refine returnsInHanded_of_row (C:=Tryz.checked) (s:=Rows.OpenSpec.upto Rows.lowerAggregatesSpec) own started (by kernel_rfl) Tryz.func3
  (witness_row_atRef (enc:=enc) (C:=Tryz.checked) false (Xd os) #[wC] (World.laidAll_os _ _ _) (by kernel_rfl) (by kernel_rfl) (by kernel_rfl)
   (OpenSpec.preRow_of_cond 8 hx (by kernel_rfl) (fun k hk=>by cases hk;kernel_rfl) (by kernel_rfl) (qqx os _))) ?_
 intro W base args ds gs before hval hW _ hk _ hL hsh _
 have hgs:gs=[]:=by
  obtain⟨p,q,_,hV,_⟩:=hW
  exact(trodVars_none hV).1
 subst hgs
 have hbulk:bulkDs ds≤1048576:=by
  have h1:Rows.uptoBulkAll (ds++[])≤1048576:=of_decide_eq_true (hk _ rfl)
  rw [List.append_nil,bulks_eq] at h1
  exact h1
 refine qk6 (s:=Rows.lowerAggregatesSpec) (tb:=4) (T:=qB4) rfl qu8 qDg ?_ rfl Ty.un4 hval hW ?_ (qvp hL hsh) (fun zs h hz=>qu7 zs h (Nat.le_trans hz hbulk))
 ·rw [Tryz.params3]
  intro t ht
  simp only [List.mem_cons,List.not_mem_nil,or_false] at ht
  subst ht;exact⟨by kernel_rfl,by kernel_rfl,of_decide_eq_true (by kernel_rfl)⟩
 ·intro hl
  have hn:ds.length=1:=hl
  match ds,hn with
  | [e0],_=>rfl
theorem qpk:Rows.LowerAggregatesUptoSaid :=
 OpenClaim.holds_of_cond 3 Tryz.f3 rfl rfl rfl rfl rfl rfl rfl ⟨rfl,rfl,rfl,rfl,rfl⟩ rfl rfl rfl rfl rfl (by kernel_rfl) Tryz.func3 (by kernel_rfl)
  (of_decide_eq_true (by kernel_rfl)) (by unfold Func.isWrapper;first | (rw [if_pos (by decide +kernel)];kernel_rfl) | (rw [if_neg (by decide +kernel)];exact⟨rfl,rfl⟩))
  (fun os started H enc _ F=>by rw [OpenClaim.pre_eq_preRow];exact qAa os started H enc F)
theorem plain (f : FuncId) (fn : Func) (hf : Tryz.pinned.checked.prog.funcNamed "asof/asoflaw19.LowerAggregates" = some f) (hfn : Tryz.pinned.checked.prog.funcs[f]? = some fn) :
  false=Tryz.pinned.checked.prog.looks []∧∀ (j:Nat) t,fn.params[j]? = some t→Tryz.pinned.checked.prog.wantsStandIn t=false:=by
 obtain rfl : f = 3 := Option.some.inj ((show Tryz.prog.funcNamed "asof/asoflaw19.LowerAggregates" = some 3 by kernel_rfl).symm.trans hf) |>.symm
 obtain rfl:fn=Tryz.f3:=(Option.some.inj (Tryz.func3.symm.trans hfn)).symm
 refine⟨by kernel_rfl,fun j t ht=>?_⟩
 rw [Tryz.params3] at ht
 have hm:=Array.mem_of_getElem? ht
 simp only [List.mem_toArray,List.mem_cons,List.not_mem_nil,or_false] at hm
 subst hm;exact(show Tryz.prog.wantsStandIn _=false by kernel_rfl)
theorem holds:Rows.LowerAggregatesUptoCardSaid :=
 Claim7.holds_tied_plain_at .later [] _ _ _ _ qpk (fun _ h=>by cases h) (by kernel_rfl) (fun _ h=>by cases h) lowerAggregatesUpto_row_tie rfl ⟨rfl,rfl⟩ (by kernel_rfl) rfl plain (by kernel_rfl)
end Go.Proofs.YtohdpcjaoiebkaaGreatDoor
