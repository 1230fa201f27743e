/- For every input of bulk at most 1048576 asoflaw22.ArrangeHistories returns true, and each argument reads behind the call as it read before. No further condition. -/
import Derived.Test.YtopfanlkbepemaaGreatKe
import Derived.Shelf.Vars
import Derived.Lay
import Derived.Deep.DeepHandedRow
import Derived.Deep.DeepWitnessRowRef
set_option linter.unusedSimpArgs false
namespace Go.Proofs.YtopfanlkbepemaaGreat
open Go.VL Go.Ar Go.Lo Go.Proofs.YtopfanlkbepemaaGreat.Arr Go.ChangeShapes Go.WideShapes Go.ChangeAt Go.RowKit
theorem Tryz.own:ownKnob Tryz.prog.godebug=none:=by kernel_rfl
theorem Tryz.laidOut:laidOutB Tryz.prog=true:=by kernel_rfl
abbrev tysE:List TypeId:=[22,96,75,77,94,80,92,156,78,83,40,41,90,3,9,85,81,231,87,88,24]
theorem goodE:goodS Tryz.prog tysE=true:=by kernel_rfl
set_option maxRecDepth 100000 in
theorem law_any (zs:List V) (h:TAxs Tryz.prog Tryz.f3.params.toList zs) (hb:V.bulkAs zs≤1048576):OkP Tryz.prog 3 zs (.lit (.bool true)):=by
 rw [Tryz.params3] at h
 obtain⟨a0,r,d0,rfl,h0,h⟩:=h.cons
 obtain⟨a1,r,d1,rfl,h1,h⟩:=h.cons
 obtain⟨a2,r,d2,rfl,h2,h⟩:=h.cons
 obtain⟨a3,r,d3,rfl,h3,h⟩:=h.cons
 obtain rfl:=h.nil
 obtain⟨x0,l0,p0,q0⟩:=in_etrs h0 (Nat.le_trans (bulkAs_mem List.mem_cons_self) hb)
 obtain⟨x1,rfl⟩:=in_str h1
 obtain⟨x2,x3,rfl⟩:=in_ival h2
 obtain⟨x4,rfl⟩:=in_int h3
 exact Ok.le (.cons l0 (.cons (Le.refl _) (.cons (Le.refl _) (.cons (Le.refl _) .nil)))) (hist_ok x0 x1 x2 x3 x4 p0 q0)
abbrev laidL:List (String × DataW Unit):=[]
noncomputable def laidWorld (os:Os):World:=World.laidAll Tryz.prog os laidL
theorem laid_met (os:Os) (args:Array Value):laidMet Tryz.prog laidL ((laidWorld os).forCall (fun _ _=>0) ⟨#[],args,[]⟩).memory :=
 laidMet_laidAll args (by kernel_rfl) (by kernel_rfl)
theorem glob_of {W:World} (hsh:W.ShapedOpen Tryz.prog):Glob W fun b _=>b < W.heap.size:=by
 have hI:∀ b o x,W.cell? ⟨b,o,none⟩=some x→(fun b _=>b < W.heap.size:Cells) b o:=fun b o x hx=>by
  unfold World.cell? at hx
  show b < W.heap.size
  by_cases h:b < W.heap.size
  ·exact h
  ·rw [Array.getElem?_eq_none (by simpa using h)] at hx;simp at hx
 refine⟨fun p hp=>(by cases hp),fun g hg=>?_⟩
 obtain rfl:=List.mem_singleton.1 hg
 obtain⟨m,hm⟩:=cell_of_shapedOpen_int (P:=Tryz.prog) (g:=0) (t:=3) (zero:=#[.int .i64 0]) hsh (of_decide_eq_true (by kernel_rfl)) (by kernel_rfl) rfl (by kernel_rfl) (by kernel_rfl) Ty.un3
 exact⟨m,hm,hI _ _ _ hm⟩
abbrev wArgs:Array Value:=#[.slice none 0 0,.string ⟨#[]⟩,.agg #[.int .i64 0,.int .i64 0],.int .i64 0]
theorem reads (os:Os) {H:Type} (enc:TypeId × Value→H):∃ places,DataW.whole enc Tryz.prog ((laidWorld os).forCall (fun _ _=>0) ⟨#[],wArgs,[]⟩).memory Tryz.f3.params.toList Rows.arrangeHistoriesSpec.vars false wArgs.toList 8=some ([.nil,.lit (.string []),.agg [.lit (.int .i64 0),.lit (.int .i64 0)],.lit (.int .i64 0)],[],places) :=
 ⟨[],by kernel_rfl⟩
set_option maxRecDepth 100000 in
theorem lifted (os:Os) (started:os.Started) (H:Type) (enc:TypeId × Value→H) (F:Stop.Interp) :
  ReturnsInHanded {} Tryz.checked os 3 .any ((Rows.OpenSpec.upto Rows.arrangeHistoriesSpec).preRow enc Tryz.prog Tryz.f3 Rows.arrangeHistoriesUptoRow.domain false Rows.arrangeHistoriesUptoRow.laid) (((Rows.OpenSpec.upto Rows.arrangeHistoriesSpec).at F).post enc Tryz.prog Tryz.f3 false true false false):=by
 obtain⟨places,hx⟩:=reads os enc
 refine returnsInHanded_of_row (C:=Tryz.checked) (s:=Rows.OpenSpec.upto Rows.arrangeHistoriesSpec) Tryz.own started (by kernel_rfl) Tryz.func3
  (witness_row_atRef (enc:=enc) (C:=Tryz.checked) false (laidWorld os) wArgs (World.laidAll_os _ _ _) (by kernel_rfl) (by kernel_rfl) (by kernel_rfl)
   (OpenSpec.preRow_of_cond 8 hx (by kernel_rfl) (fun k hk=>by cases hk;kernel_rfl) (by kernel_rfl) (laid_met os _))) ?_
 intro W base args ds gs before hval hW _ hk _ hL hsh _
 have hgs:gs=[]:=by
  obtain⟨p,q,_,hV,_⟩:=hW
  exact(trodVars_none hV).1
 subst hgs
 have hbulk:bulkDs ds≤1048576:=by
  have h1:Rows.uptoBulkAll (ds++[])≤1048576:=of_decide_eq_true (hk _ rfl)
  rw [List.append_nil,bulks_eq] at h1
  exact h1
 refine law_postR (s:=Rows.arrangeHistoriesSpec) (tb:=4) (T:=tysE) rfl Tryz.laidOut goodE ?_ rfl Ty.un4 hval hW ?_ (glob_of hsh) (fun zs h hz=>law_any zs h (Nat.le_trans hz hbulk))
 ·rw [Tryz.params3]
  intro t ht
  simp only [List.mem_cons,List.not_mem_nil,or_false] at ht
  rcases ht with rfl | rfl | rfl | rfl <;> exact⟨by kernel_rfl,by kernel_rfl,of_decide_eq_true (by kernel_rfl)⟩
 ·intro hl
  have hn:ds.length=4:=hl
  match ds,hn with
  | [d0,d1,d2,d3],_=>rfl
theorem holds:Rows.ArrangeHistoriesUptoSaid :=
 OpenClaim.holds_of_cond 3 Tryz.f3 rfl rfl rfl rfl rfl rfl rfl ⟨rfl,rfl,rfl,rfl,rfl⟩ rfl rfl rfl rfl rfl (by kernel_rfl) Tryz.func3 (by kernel_rfl)
  (of_decide_eq_true (by kernel_rfl)) (by unfold Func.isWrapper;first | (rw [if_pos (by decide +kernel)];kernel_rfl) | (rw [if_neg (by decide +kernel)];exact⟨rfl,rfl⟩))
  (fun os started H enc _ F=>by rw [OpenClaim.pre_eq_preRow];exact lifted os started H enc F)
end Go.Proofs.YtopfanlkbepemaaGreat
