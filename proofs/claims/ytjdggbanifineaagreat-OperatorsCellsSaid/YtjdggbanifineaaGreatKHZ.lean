/- For every input asoflaw21.OperatorsCells returns true, and each argument reads behind the call as it read before. No further condition. (Printed by mkfin.py.) -/
import Derived.Test.YtjdggbanifineaaGreatKf
set_option linter.unusedSimpArgs false
namespace Go.Proofs.YtjdggbanifineaaGreat
open Go.VL Go.Ar Go.Lo Go.Proofs.YtjdggbanifineaaGreat.Arr Go.ChangeShapes Go.WideShapes Go.ChangeAt Go.RowKit
set_option maxRecDepth 100000 in
theorem law_any (zs:List V) (h:TAs Tryz.prog 12 Tryz.f4.params.toList zs):OkP Tryz.prog 4 zs (.lit (.bool true)):=by
 rw [Tryz.params4] at h
 obtain⟨a0,r,rfl,h0,h⟩:=h.cons
 obtain⟨a1,r,rfl,h1,h⟩:=h.cons
 obtain⟨a2,r,rfl,h2,h⟩:=h.cons
 obtain⟨a3,r,rfl,h3,h⟩:=h.cons
 obtain⟨a4,r,rfl,h4,h⟩:=h.cons
 obtain rfl:=h.nil
 obtain⟨x0,rfl⟩:=in_str h0
 obtain⟨x1,l1,p1⟩:=in_picks h1
 obtain⟨x2,l2,p2⟩:=in_picks h2
 obtain⟨x3,rfl⟩:=in_str h3
 obtain⟨x4,rfl⟩:=in_int h4
 exact Ok.le (.cons (Le.refl _) (.cons l1 (.cons l2 (.cons (Le.refl _) (.cons (Le.refl _) .nil))))) (cells_law x0 x1 x2 x3 x4 (Nat.le_trans p1 (by decide)) (Nat.le_trans p2 (by decide)))
theorem reads (os:Os) {H:Type} (enc:TypeId × Value→H):∃ places,DataW.whole enc Tryz.prog ((laidWorld os).forCall (fun _ _=>0) ⟨#[],#[.string ⟨#[]⟩,.slice none 0 0,.slice none 0 0,.string ⟨#[]⟩,.int .i64 0],[]⟩).memory Tryz.f4.params.toList Rows.operatorsCellsSpec.vars false #[.string ⟨#[]⟩,.slice none 0 0,.slice none 0 0,.string ⟨#[]⟩,.int .i64 0].toList 8=some ([.lit (.string []),.nil,.nil,.lit (.string []),.lit (.int .i64 0)],[],places) :=
 ⟨[],by kernel_rfl⟩
set_option maxRecDepth 100000 in
theorem lifted (os:Os) (started:os.Started) (H:Type) (enc:TypeId × Value→H) (F:Stop.Interp) :
  ReturnsInHanded {} Tryz.checked os 4 .any ((OpenSpec.ofChange Rows.operatorsCellsSpec).preRow enc Tryz.prog Tryz.f4 Rows.operatorsCellsRow.domain false Rows.operatorsCellsRow.laid) (((OpenSpec.ofChange Rows.operatorsCellsSpec).at F).post enc Tryz.prog Tryz.f4 false true false false):=by
 obtain⟨places,hx⟩:=reads os enc
 refine returnsInHanded_of_row (C:=Tryz.checked) (s:=OpenSpec.ofChange Rows.operatorsCellsSpec) Tryz.own started (by kernel_rfl) Tryz.func4
  (witness_row_atRef (enc:=enc) (C:=Tryz.checked) false (laidWorld os) #[.string ⟨#[]⟩,.slice none 0 0,.slice none 0 0,.string ⟨#[]⟩,.int .i64 0] (World.laidAll_os _ _ _) (by kernel_rfl) (by kernel_rfl) (by kernel_rfl)
   (OpenSpec.preRow_of_cond 8 hx (by kernel_rfl) (fun k hk=>by cases hk) (by kernel_rfl) (laid_met os _))) ?_
 intro W base args ds gs before hval hW _ hk _ hL hsh _
 have hgs:gs=[]:=by
  obtain⟨p,q,_,hV,_⟩:=hW
  exact(trodVars_none hV).1
 subst hgs
 refine law_post (s:=Rows.operatorsCellsSpec) (tb:=4) (d:=12) rfl Tryz.laidOut ?_ rfl Ty.un4 hval hW ?_ (glob_of hsh) (fun zs h _=>law_any zs h)
 ·rw [Tryz.params4]
  intro t ht
  simp only [List.mem_cons,List.not_mem_nil,or_false] at ht
  rcases ht with rfl | rfl | rfl | rfl | rfl <;> exact⟨by kernel_rfl,by kernel_rfl,of_decide_eq_true (by kernel_rfl)⟩
 ·intro hl
  have hn:ds.length=5:=hl
  match ds,hn with
  | [d0,d1,d2,d3,d4],_=>rfl
theorem holds:Rows.OperatorsCellsSaid :=
 OpenClaim.holds_of_cond 4 Tryz.f4 rfl rfl rfl rfl rfl rfl rfl ⟨rfl,rfl,rfl,rfl,rfl⟩ rfl rfl rfl rfl rfl (by kernel_rfl) Tryz.func4 (by kernel_rfl)
  (of_decide_eq_true (by kernel_rfl)) (by unfold Func.isWrapper;first | (rw [if_pos (by decide +kernel)];kernel_rfl) | (rw [if_neg (by decide +kernel)];exact⟨rfl,rfl⟩))
  (fun os started H enc _ F=>by rw [OpenClaim.pre_eq_preRow];exact lifted os started H enc F)
end Go.Proofs.YtjdggbanifineaaGreat
