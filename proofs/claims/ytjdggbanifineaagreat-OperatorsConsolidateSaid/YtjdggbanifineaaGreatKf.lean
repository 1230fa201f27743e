/- Merged out of my texts H9 HA HB. -/
import Derived.Test.YtjdggbanifineaaGreatKe
import Derived.Test.YtjdggbanifineaaGreatKb
import Derived.Test.YtjdggbanifineaaGreatKVG
import Derived.Test.YtjdggbanifineaaGreatRows
import Derived.ProofKit
import Derived.Shelf.Vars
import Derived.Lay
import Derived.Deep.DeepHandedRow
import Derived.Deep.DeepWitnessRowRef
set_option linter.unusedSimpArgs false
set_option maxRecDepth 100000
set_option linter.defProp false
namespace Go.Ar
open Go.VL Go.Sg Go.Lo
abbrev rEx (seq ev n:Int):Rw:=⟨⟨sS,seq⟩,sClicks,sU,ev,[num n],0,0⟩
theorem LeL.last11 {a b c d e f g h i j k v v':V} (hv:Le v v'):LeL [a,b,c,d,e,f,g,h,i,j,k,v] [a,b,c,d,e,f,g,h,i,j,k,v']:=.cons (Le.refl _) (.cons (Le.refl _) (.cons (Le.refl _) (.cons (Le.refl _) (.cons (Le.refl _) (.cons (Le.refl _) (.cons (Le.refl _) (.cons (Le.refl _) (.cons (Le.refl _) (.cons (Le.refl _) (.cons (Le.refl _) (.cons hv .nil)))))))))))
theorem LeSum (y2 y3:Value):Le (.agg [vint 5,vstr sSum,vstr es0,vstr sClicks,vint 0,vint 0,vstr es0,nilS,vint 0,vint 1,vint 0,.list (some y3) 12 [xN,[vint 7,vstr sLt,vstr es0,vstr es0,vint 0,vint 0,vstr es0,nilS,vint 0,vint 0,vint 0,.list (some y2) 12 [xN,x9]]]]) (.agg xSum) :=
 Le.agg (LeL.last11 fun w I x hx=>Le.list _ _ _ w I x (Le.rows (.cons (LeL.refl _) (.cons (LeL.last11 (Le.list _ _ _)) .nil)) w I x hx))
def dEx:List Dlt:=[⟨rEx 1 10 4,1,1⟩,⟨rEx 2 12 9,1,1⟩,⟨rEx 1 10 4,5,-1⟩,⟨rEx 1 12 5,5,1⟩]
def pEx:List Pk:=[(⟨sU,10,⟨sS,1⟩,num 4,1⟩,1),(⟨sU,10,⟨sS,1⟩,num 4,5⟩,-1),(⟨sU,12,⟨sS,1⟩,num 5,5⟩,1)]
theorem sel_ex:selM dEx=pEx:=by decide +kernel
theorem dEx_ok:∀ d ∈ dEx,d.row.table=sClicks∧∃ m,d.row.fields=[num m]∧inW m:=by
 intro d hd
 simp only [dEx,List.mem_cons,List.not_mem_nil,or_false] at hd
 rcases hd with rfl | rfl | rfl | rfl
 ·exact⟨rfl,4,rfl,by unfold inW;decide⟩
 ·exact⟨rfl,9,rfl,by unfold inW;decide⟩
 ·exact⟨rfl,4,rfl,by unfold inW;decide⟩
 ·exact⟨rfl,5,rfl,by unfold inW;decide⟩
theorem srtG (L:List Cl) (h:L.Pairwise (fun a b=>a.1≤b.1)):∀ i (h:i+1 < L.length),L[i].1≤L[i+1].1:=fun i h'=>List.pairwise_iff_getElem.1 h i (i+1) (by omega) h' (by omega)
theorem pEx_ok:∀ p ∈ pEx,inW p.2∧inW p.1.val.n:=by unfold inW;decide +kernel
theorem cells4:cellsM (fam sSum) pEx sU 4=[(10,(1,(4,([],[]))))]:=by decide +kernel
theorem cells5:cellsM (fam sSum) pEx sU 5=[(12,(1,(5,([],[]))))]:=by decide +kernel
end Go.Ar
namespace Go.Proofs.YtjdggbanifineaaGreat
open Go.VL Go.Ar Go.Sg Go.Lo Go.Proofs.YtjdggbanifineaaGreat Go.Proofs.YtjdggbanifineaaGreat.Arr
theorem merge_ex:gaM ((exC [3,10,12,20]).map floorC).length ((exC [3,10,12,20]).map floorC)=[(0,(1,(3,([],[])))),(10,(2,(22,([],[])))),(20,(1,(20,([],[]))))]:=by decide +kernel
theorem mergeEx_ok:OkP Tryz.prog 35 [vstr sSum,vCls (exC [3,10,12,20]),vint 10] (vCls [(0,(1,(3,([],[])))),(10,(2,(22,([],[])))),(20,(1,(20,([],[]))))]):=by
 have h:=merge_ok (exC [3,10,12,20]) (by decide +kernel) (by decide +kernel) (by decide +kernel) (srtG _ (by decide +kernel))
 rw [merge_ex] at h
 exact h
def tbH90:=(aI (aI Ty.t26 (aI Ty.t28 Ty.t3)) (aI Ty.t82 (aI Ty.t84 Ty.t9)))
theorem rowEx_ok (seq ev n:Int):OkP Tryz.prog 31 [vint seq,vint ev,vint n] (.agg (cRow (rEx seq ev n))):=by
 refine Ok.of_ex Ty.mixed Tryz.func31 rfl (by simp [Tryz.ntmps31]) (by kernel_rfl) fun F w0 I0=>?_
 simp only [↓rA,rB,buildOk,nt_is,Int.reduceEq,Int.reduceLE,Int.reduceLT,Int.reduceToNat,Nat.reduceAdd,Nat.reduceEqDiff,Nat.reduceLT,Nat.reduceLeDiff,Nat.reduceMul,Nat.reduceSub,reduceCtorEq,tbH90,Tryz.results31]
 refine fun b6 h6=>?_;replace h6:=newb h6;try simp only [Nb] at h6
 simp only [↓rA,rB,buildOk,nt_is,Int.reduceEq,Int.reduceLE,Int.reduceLT,Int.reduceToNat,Nat.reduceAdd,Nat.reduceEqDiff,Nat.reduceLT,Nat.reduceLeDiff,Nat.reduceMul,Nat.reduceSub,reduceCtorEq,tbH90,Tryz.results31,h6]
 intro y
 exact⟨_,[],[],Le.agg (.cons (Le.refl _) (.cons (Le.refl _) (.cons (Le.refl _) (.cons (Le.refl _) (.cons (Le.refl _) (.cons (Le.list _ _ _) (LeL.refl _))))))),List.nil_sublist _,List.nil_sublist _,rfl,rfl,rfl⟩
theorem t14:Go.R1.tick 14:=⟨by decide,by decide⟩
theorem t13:Go.R1.tick 13:=⟨by decide,by decide⟩
abbrev c10:List Cl:=[(10,(1,(10,([],[])))),(12,(1,(12,([],[]))))]
theorem winA_ok:OkP Tryz.prog 36 [.agg [vint 2,vint 5],vCls (exC [3,10,12,20]),vint 0,vint 0,vint 14] (vCls c10) :=
 within_ok 2 5 0 0 14 (exC [3,10,12,20]) 10 14 (.inr ⟨by decide,by decide,by decide,by decide,by decide⟩) t14 ⟨by decide,by decide⟩ (by decide +kernel) (by decide +kernel) [(3,(1,(3,([],[])))),(10,(1,(10,([],[])))),(12,(1,(12,([],[]))))] (by decide +kernel) (by decide) (fun _=>⟨by decide,rfl⟩) (fun h=>absurd h (by decide)) c10 (by decide +kernel)
theorem winB_ok:OkP Tryz.prog 36 [.agg [vint 4,vint 2],vCls (exC [3,10,12,20]),vint 0,vint 0,vint 13] (vCls c10) :=
 within_ok 4 2 0 0 13 (exC [3,10,12,20]) 10 12 (.inr ⟨by decide,by decide,by decide,by decide,by decide⟩) t13 ⟨by decide,by decide⟩ (by decide +kernel) (by decide +kernel) [(3,(1,(3,([],[])))),(10,(1,(10,([],[])))),(12,(1,(12,([],[]))))] (by decide +kernel) (by decide) (fun h=>absurd rfl h) (fun _=>⟨by decide +kernel,by decide +kernel,by decide +kernel,fun st h hb hn=>by
  have h3:st < 3:=h
  have:st=0∨st=1∨st=2:=by omega
  rcases this with rfl | rfl | rfl
  ·exact absurd (hn 1 (by decide) (by decide)) (by decide)
  ·rfl
  ·rcases hb with h | h | h
   ·exact absurd h (by decide)
   ·exact absurd h (by decide)
   ·exact absurd (by decide) h⟩) c10 (by decide +kernel)
theorem winC_ok:OkP Tryz.prog 36 [.agg [vint 1,vint 0],vCls (exC [3,10,12,20]),vint 10,vint 21,vint 14] (vCls [(12,(1,(12,([],[]))))]) :=
 within_ok 1 0 10 21 14 (exC [3,10,12,20]) 0 14 (.inl ⟨rfl,rfl⟩) t14 ⟨by decide,by decide⟩ (by decide +kernel) (by decide +kernel) [(12,(1,(12,([],[]))))] (by decide +kernel) (by decide) (fun _=>⟨rfl,rfl⟩) (fun h=>absurd h (by decide)) _ (by decide +kernel)
def tbH91:=(aI (aI (aI (aI (aI Ty.c31 Ty.c32) (aI Ty.c33 Ty.c34)) (aI (aI Ty.c35 Ty.c36) (aI Ty.c8 (aI Ty.t117 Ty.t22)))) (aI (aI (aI Ty.t233 Ty.t26) (aI Ty.t28 Ty.t3)) (aI (aI Ty.t30 Ty.t31) (aI Ty.t4 (aI Ty.t49 Ty.t51))))) (aI (aI (aI (aI Ty.t52 Ty.t53) (aI Ty.t55 Ty.t57)) (aI (aI Ty.t65 Ty.t69) (aI Ty.t71 (aI Ty.t73 Ty.t74)))) (aI (aI (aI Ty.t76 Ty.t78) (aI Ty.t79 (aI Ty.t81 Ty.t82))) (aI (aI Ty.t84 Ty.t87) (aI Ty.t88 (aI Ty.t9 Ty.t91))))))
set_option maxHeartbeats 4000000 in
theorem example_ok:OkP Tryz.prog 11 [] (vbool true):=by
 refine Ok.of_ex Ty.mixed Tryz.func11 rfl (by simp [Tryz.ntmps11]) (by kernel_rfl) fun F w0 I0=>?_
 simp only [↓rA,rB,buildOk,nt_is,Int.reduceEq,Int.reduceLE,Int.reduceLT,Int.reduceToNat,Nat.reduceAdd,Nat.reduceEqDiff,Nat.reduceLT,Nat.reduceLeDiff,Nat.reduceMul,Nat.reduceSub,reduceCtorEq,tbH91,Tryz.results11]
 intro y1
 refine fun b1 h1=>?_;replace h1:=newb h1;try simp only [Nb] at h1
 simp only [↓rA,rB,buildOk,nt_is,Int.reduceEq,Int.reduceLE,Int.reduceLT,Int.reduceToNat,Nat.reduceAdd,Nat.reduceEqDiff,Nat.reduceLT,Nat.reduceLeDiff,Nat.reduceMul,Nat.reduceSub,reduceCtorEq,tbH91,Tryz.results11,h1]
 refine fun b2 h2=>?_;replace h2:=newb h2;try simp only [Nb] at h2
 simp only [↓rA,rB,buildOk,nt_is,Int.reduceEq,Int.reduceLE,Int.reduceLT,Int.reduceToNat,Nat.reduceAdd,Nat.reduceEqDiff,Nat.reduceLT,Nat.reduceLeDiff,Nat.reduceMul,Nat.reduceSub,reduceCtorEq,tbH91,Tryz.results11,h1,h2]
 refine fun b3 h3=>?_;replace h3:=newb h3;try simp only [Nb] at h3
 have hh:=And.intro h1 (And.intro h2 h3)
 simp only [↓rA,rB,buildOk,nt_is,Int.reduceEq,Int.reduceLE,Int.reduceLT,Int.reduceToNat,Nat.reduceAdd,Nat.reduceEqDiff,Nat.reduceLT,Nat.reduceLeDiff,Nat.reduceMul,Nat.reduceSub,reduceCtorEq,tbH91,Tryz.results11,hh]
 intro y2 y3
 refine fun b4 h4=>?_;replace h4:=newb h4;try simp only [Nb] at h4
 simp only [↓rA,rB,buildOk,nt_is,Int.reduceEq,Int.reduceLE,Int.reduceLT,Int.reduceToNat,Nat.reduceAdd,Nat.reduceEqDiff,Nat.reduceLT,Nat.reduceLeDiff,Nat.reduceMul,Nat.reduceSub,reduceCtorEq,tbH91,Tryz.results11,hh,h4]
 refine OkF_of _ (rowEx_ok 1 10 4) ?_
 simp only [↓rA,rB,buildOk,nt_is,Int.reduceEq,Int.reduceLE,Int.reduceLT,Int.reduceToNat,Nat.reduceAdd,Nat.reduceEqDiff,Nat.reduceLT,Nat.reduceLeDiff,Nat.reduceMul,Nat.reduceSub,reduceCtorEq,tbH91,Tryz.results11,hh,h4]
 refine OkF_of _ (rowEx_ok 2 12 9) ?_
 simp only [↓rA,rB,buildOk,nt_is,Int.reduceEq,Int.reduceLE,Int.reduceLT,Int.reduceToNat,Nat.reduceAdd,Nat.reduceEqDiff,Nat.reduceLT,Nat.reduceLeDiff,Nat.reduceMul,Nat.reduceSub,reduceCtorEq,tbH91,Tryz.results11,hh,h4]
 refine OkF_of _ (rowEx_ok 1 10 4) ?_
 simp only [↓rA,rB,buildOk,nt_is,Int.reduceEq,Int.reduceLE,Int.reduceLT,Int.reduceToNat,Nat.reduceAdd,Nat.reduceEqDiff,Nat.reduceLT,Nat.reduceLeDiff,Nat.reduceMul,Nat.reduceSub,reduceCtorEq,tbH91,Tryz.results11,hh,h4]
 refine OkF_of _ (rowEx_ok 1 12 5) ?_
 simp only [↓rA,rB,buildOk,nt_is,Int.reduceEq,Int.reduceLE,Int.reduceLT,Int.reduceToNat,Nat.reduceAdd,Nat.reduceEqDiff,Nat.reduceLT,Nat.reduceLeDiff,Nat.reduceMul,Nat.reduceSub,reduceCtorEq,tbH91,Tryz.results11,hh,h4]
 intro y4
 refine OkF_le (.cons (Le.agg (.cons (Le.refl _) (.cons (Le.refl _) (.cons (Le.list _ _ _) (LeL.refl _))))) (.cons (LeSum y2 y3) (.cons (Le.list _ _ _) .nil))) _ (select_ok dEx dEx_ok (by decide)) ?_
 rw [sel_ex]
 simp only [↓rA,rB,buildOk,nt_is,Int.reduceEq,Int.reduceLE,Int.reduceLT,Int.reduceToNat,Nat.reduceAdd,Nat.reduceEqDiff,Nat.reduceLT,Nat.reduceLeDiff,Nat.reduceMul,Nat.reduceSub,reduceCtorEq,tbH91,Tryz.results11,hh,h4]
 refine OkF_of _ (cells_ok sSum pEx sU 4 (by decide) pEx_ok (by decide)) ?_
 rw [cells4]
 simp only [↓rA,rB,buildOk,nt_is,Int.reduceEq,Int.reduceLE,Int.reduceLT,Int.reduceToNat,Nat.reduceAdd,Nat.reduceEqDiff,Nat.reduceLT,Nat.reduceLeDiff,Nat.reduceMul,Nat.reduceSub,reduceCtorEq,tbH91,Tryz.results11,hh,h4]
 refine OkF_of _ (cells_ok sSum pEx sU 5 (by decide) pEx_ok (by decide)) ?_
 rw [cells5]
 have n3:((3:Nat):Int)=3:=rfl
 have m4:(4:Int) % 18446744073709551616=4:=by decide
 have m5:(5:Int) % 18446744073709551616=5:=by decide
 have m22:(22:Int) % 18446744073709551616=22:=by decide
 simp only [↓rA,rB,buildOk,nt_is,Int.reduceEq,Int.reduceLE,Int.reduceLT,Int.reduceToNat,Nat.reduceAdd,Nat.reduceEqDiff,Nat.reduceLT,Nat.reduceLeDiff,Nat.reduceMul,Nat.reduceSub,reduceCtorEq,tbH91,Tryz.results11,hh,h4,pEx,n3]
 intro y5
 refine OkF_of _ (at_ok [(10,(1,(4,([],[]))))] [10] (by decide) _ rfl) ?_
 simp only [↓rA,rB,buildOk,nt_is,Int.reduceEq,Int.reduceLE,Int.reduceLT,Int.reduceToNat,Nat.reduceAdd,Nat.reduceEqDiff,Nat.reduceLT,Nat.reduceLeDiff,Nat.reduceMul,Nat.reduceSub,reduceCtorEq,tbH91,Tryz.results11,hh,h4,m4]
 intro y6
 refine OkF_of _ (at_ok [(12,(1,(5,([],[]))))] [12] (by decide) _ rfl) ?_
 simp only [↓rA,rB,buildOk,nt_is,Int.reduceEq,Int.reduceLE,Int.reduceLT,Int.reduceToNat,Nat.reduceAdd,Nat.reduceEqDiff,Nat.reduceLT,Nat.reduceLeDiff,Nat.reduceMul,Nat.reduceSub,reduceCtorEq,tbH91,Tryz.results11,hh,h4,m5]
 intro y7
 refine OkF_of _ (exCells_ok [3,10,12,20] _ (by decide) (by decide)) ?_
 simp only [↓rA,rB,buildOk,nt_is,Int.reduceEq,Int.reduceLE,Int.reduceLT,Int.reduceToNat,Nat.reduceAdd,Nat.reduceEqDiff,Nat.reduceLT,Nat.reduceLeDiff,Nat.reduceMul,Nat.reduceSub,reduceCtorEq,tbH91,Tryz.results11,hh,h4]
 refine OkF_of _ mergeEx_ok ?_
 simp only [↓rA,rB,buildOk,nt_is,Int.reduceEq,Int.reduceLE,Int.reduceLT,Int.reduceToNat,Nat.reduceAdd,Nat.reduceEqDiff,Nat.reduceLT,Nat.reduceLeDiff,Nat.reduceMul,Nat.reduceSub,reduceCtorEq,tbH91,Tryz.results11,hh,h4]
 refine OkF_of _ winA_ok ?_
 simp only [↓rA,rB,buildOk,nt_is,Int.reduceEq,Int.reduceLE,Int.reduceLT,Int.reduceToNat,Nat.reduceAdd,Nat.reduceEqDiff,Nat.reduceLT,Nat.reduceLeDiff,Nat.reduceMul,Nat.reduceSub,reduceCtorEq,tbH91,Tryz.results11,hh,h4]
 intro y8
 refine OkF_of _ (at_ok c10 [10,12] (by decide) _ rfl) ?_
 simp only [↓rA,rB,buildOk,nt_is,Int.reduceEq,Int.reduceLE,Int.reduceLT,Int.reduceToNat,Nat.reduceAdd,Nat.reduceEqDiff,Nat.reduceLT,Nat.reduceLeDiff,Nat.reduceMul,Nat.reduceSub,reduceCtorEq,tbH91,Tryz.results11,hh,h4]
 refine OkF_of _ winB_ok ?_
 simp only [↓rA,rB,buildOk,nt_is,Int.reduceEq,Int.reduceLE,Int.reduceLT,Int.reduceToNat,Nat.reduceAdd,Nat.reduceEqDiff,Nat.reduceLT,Nat.reduceLeDiff,Nat.reduceMul,Nat.reduceSub,reduceCtorEq,tbH91,Tryz.results11,hh,h4]
 intro y9
 refine OkF_of _ (at_ok c10 [10,12] (by decide) _ rfl) ?_
 simp only [↓rA,rB,buildOk,nt_is,Int.reduceEq,Int.reduceLE,Int.reduceLT,Int.reduceToNat,Nat.reduceAdd,Nat.reduceEqDiff,Nat.reduceLT,Nat.reduceLeDiff,Nat.reduceMul,Nat.reduceSub,reduceCtorEq,tbH91,Tryz.results11,hh,h4]
 refine OkF_of _ winC_ok ?_
 simp only [↓rA,rB,buildOk,nt_is,Int.reduceEq,Int.reduceLE,Int.reduceLT,Int.reduceToNat,Nat.reduceAdd,Nat.reduceEqDiff,Nat.reduceLT,Nat.reduceLeDiff,Nat.reduceMul,Nat.reduceSub,reduceCtorEq,tbH91,Tryz.results11,hh,h4]
 intro ya
 refine OkF_of _ (at_ok [(12,(1,(12,([],[]))))] [12] (by decide) _ rfl) ?_
 simp only [↓rA,rB,buildOk,nt_is,Int.reduceEq,Int.reduceLE,Int.reduceLT,Int.reduceToNat,Nat.reduceAdd,Nat.reduceEqDiff,Nat.reduceLT,Nat.reduceLeDiff,Nat.reduceMul,Nat.reduceSub,reduceCtorEq,tbH91,Tryz.results11,hh,h4]
 intro yb
 refine OkF_of _ (at_ok [(0,(1,(3,([],[])))),(10,(2,(22,([],[])))),(20,(1,(20,([],[]))))] [0,10,20] (by decide) _ rfl) ?_
 simp only [↓rA,rB,buildOk,nt_is,Int.reduceEq,Int.reduceLE,Int.reduceLT,Int.reduceToNat,Nat.reduceAdd,Nat.reduceEqDiff,Nat.reduceLT,Nat.reduceLeDiff,Nat.reduceMul,Nat.reduceSub,reduceCtorEq,tbH91,Tryz.results11,hh,h4,m22,n3]
 exact ret_done rfl
end Go.Proofs.YtjdggbanifineaaGreat
set_option linter.unusedSimpArgs false
set_option maxRecDepth 100000
set_option linter.defProp false
namespace Go.Ar
open Go.VL Go.Sg Go.Lo
abbrev revN (l:List Pk) (j:Nat):List Pk:=l++(l.map negP).reverse.take j
theorem revN_next (l:List Pk) (j:Nat) (h:j < l.length):revN l (j+1)=revN l j++[negP (l[l.length - 1 - j]'(by omega))]:=by
 unfold revN
 rw [List.take_succ_eq_append_getElem (by simp;exact h),List.append_assoc,List.getElem_reverse]
 simp
theorem put_key (k:PK) (g:Int):∀ (l:List Pk) (q:Pk),q ∈ put ordP addW k g l→q.1=k∨∃ p ∈ l,p.1=q.1
 | [],q,h=>by
  unfold put at h
  split at h
  ·exact absurd h List.not_mem_nil
  ·exact .inl (by rw [List.mem_singleton.1 h])
 | p::l,q,h=>by
  have ih:=put_key k g l q
  unfold put at h
  split at h
  ·rcases List.mem_cons.1 h with rfl | h
   ·exact .inr ⟨_,List.mem_cons_self,rfl⟩
   ·rcases ih h with h | ⟨r,hr,e⟩
    ·exact .inl h
    ·exact .inr ⟨r,List.mem_cons_of_mem _ hr,e⟩
  ·split at h
   ·split at h
    ·exact .inr ⟨q,List.mem_cons_of_mem _ h,rfl⟩
    ·rcases List.mem_cons.1 h with rfl | h
     ·exact .inl rfl
     ·exact .inr ⟨q,List.mem_cons_of_mem _ h,rfl⟩
   ·split at h
    ·exact .inr ⟨q,h,rfl⟩
    ·rcases List.mem_cons.1 h with rfl | h
     ·exact .inl rfl
     ·exact .inr ⟨q,h,rfl⟩
theorem puts_key:∀ (m l:List Pk) (q:Pk),q ∈ puts ordP addW l m→(∃ p ∈ m,p.1=q.1)∨∃ p ∈ l,p.1=q.1
 | [],l,q,h=>.inr ⟨q,h,rfl⟩
 | p::m,l,q,h=>by
  rcases puts_key m (put ordP addW p.1 p.2 l) q h with⟨r,hr,e⟩ | ⟨r,hr,e⟩
  ·exact .inl ⟨r,List.mem_cons_of_mem _ hr,e⟩
  ·rcases put_key p.1 p.2 l r hr with h | ⟨s,hs,e'⟩
   ·exact .inl ⟨p,List.mem_cons_self,by rw [← h,e]⟩
   ·exact .inr ⟨s,hs,by rw [e',e]⟩
theorem consP_in {l:List Pk} (h:Few 1000 l) (hl:l.length≤60) (hin:∀ p ∈ l,inW p.2∧inW p.1.val.n):∀ p ∈ consP l,inW p.2∧inW p.1.val.n:=fun p hp=>by
 refine⟨(consP_few h (by omega)).inW (by omega) p hp,?_⟩
 rcases puts_key l [] p hp with⟨q,hq,e⟩ | ⟨q,hq,_⟩
 ·rw [← e]
  exact(hin q hq).2
 ·exact absurd hq List.not_mem_nil
theorem cellsM_bd {f n:Nat} (h0:¬ f=0) {l:List Pk} (hl:l.length≤n) (h:∀ p ∈ l,inW p.2) (key:Str) (tick:Int):Bd n (cellsM f l key tick):=by
 have hg:=(GoodC.upd h0 (ps:=l.filter (selB key tick)) (GoodC.nil f 0) fun p hp=>h p (List.mem_filter.1 hp).1).bd
 have hln:(l.filter (selB key tick)).length≤n:=Nat.le_trans (List.length_filter_le _ _) hl
 exact⟨Nat.le_trans hg.1 (by omega),fun c hc=>⟨Nat.le_trans (hg.2 c hc).1 (by omega),Nat.le_trans (hg.2 c hc).2 (by omega)⟩⟩
theorem bothP_len (l:List Pk):(bothP l).length=l.length+l.length:=by unfold bothP;simp
theorem bothP_in {l:List Pk} (h:Few 1000 l) (hin:∀ p ∈ l,inW p.2∧inW p.1.val.n):∀ p ∈ bothP l,inW p.2∧inW p.1.val.n:=fun p hp=>by
 rcases List.mem_append.1 hp with h1 | h1
 ·exact hin p h1
 ·obtain⟨q,hq,rfl⟩:=List.mem_map.1 (List.mem_reverse.1 h1)
  refine⟨?_,(hin q hq).2⟩
  have:=h q hq
  unfold inW negP
  simp only
  omega
end Go.Ar
namespace Go.Proofs.YtjdggbanifineaaGreat
open Go.VL Go.Ar Go.Sg Go.Lo Go.Proofs.YtjdggbanifineaaGreat Go.Proofs.YtjdggbanifineaaGreat.Arr
def tbHA0:=(aI (aI (aI (aI Ty.c10 Ty.c11) (aI Ty.c13 (aI Ty.c14 Ty.c6))) (aI (aI Ty.c7 (aI Ty.c8 Ty.t117)) (aI Ty.t22 (aI Ty.t26 Ty.t28)))) (aI (aI (aI Ty.t3 (aI Ty.t30 Ty.t31)) (aI Ty.t4 (aI Ty.t49 Ty.t51))) (aI (aI Ty.t52 (aI Ty.t53 Ty.t55)) (aI Ty.t57 (aI Ty.t65 Ty.t9)))))
set_option maxHeartbeats 1000000 in
theorem consolidate_law (op:Str) (l:List Pk) (key:Str) (tick:Int) (hl:l.length≤9223372036854775807):OkP Tryz.prog 5 [vstr op,vPks l,vstr key,vint tick] (vbool true):=by
 refine Ok.of_ex Ty.mixed Tryz.func5 rfl (by simp [Tryz.ntmps5]) (by kernel_rfl) fun F w0 I0=>?_
 simp only [↓rA,rB,buildOk,nt_is,Int.reduceEq,Int.reduceLE,Int.reduceLT,Int.reduceToNat,Nat.reduceAdd,Nat.reduceEqDiff,Nat.reduceLT,Nat.reduceLeDiff,Nat.reduceMul,Nat.reduceSub,reduceCtorEq,tbHA0,Tryz.results5]
 refine OkF_of _ (proper_ok l hl) ?_
 cases hp:propM l
 ·simp only [↓rA,rB,buildOk,nt_is,Int.reduceEq,Int.reduceLE,Int.reduceLT,Int.reduceToNat,Nat.reduceAdd,Nat.reduceEqDiff,Nat.reduceLT,Nat.reduceLeDiff,Nat.reduceMul,Nat.reduceSub,reduceCtorEq,tbHA0,Tryz.results5]
  exact ret_done rfl
 simp only [↓rA,rB,buildOk,nt_is,Int.reduceEq,Int.reduceLE,Int.reduceLT,Int.reduceToNat,Nat.reduceAdd,Nat.reduceEqDiff,Nat.reduceLT,Nat.reduceLeDiff,Nat.reduceMul,Nat.reduceSub,reduceCtorEq,tbHA0,Tryz.results5]
 refine OkF_of _ (known_ok op) ?_
 by_cases h0:fam op=0
 ·simp only [↓rA,rB,buildOk,nt_is,Int.reduceEq,Int.reduceLE,Int.reduceLT,Int.reduceToNat,Nat.reduceAdd,Nat.reduceEqDiff,Nat.reduceLT,Nat.reduceLeDiff,Nat.reduceMul,Nat.reduceSub,reduceCtorEq,tbHA0,Tryz.results5,h0]
  exact ret_done rfl
 obtain⟨h60,hfew,hin⟩:=prop_few hp
 simp only [↓rA,rB,buildOk,nt_is,Int.reduceEq,Int.reduceLE,Int.reduceLT,Int.reduceToNat,Nat.reduceAdd,Nat.reduceEqDiff,Nat.reduceLT,Nat.reduceLeDiff,Nat.reduceMul,Nat.reduceSub,reduceCtorEq,tbHA0,Tryz.results5,h0]
 refine OkF_of _ (consP_ok l (by omega) (fun p h=>(hin p h).1)) ?_
 simp only [↓rA,rB,buildOk,nt_is,Int.reduceEq,Int.reduceLE,Int.reduceLT,Int.reduceToNat,Nat.reduceAdd,Nat.reduceEqDiff,Nat.reduceLT,Nat.reduceLeDiff,Nat.reduceMul,Nat.reduceSub,reduceCtorEq,tbHA0,Tryz.results5]
 refine Or2.l ?_
 simp only [↓rA,rB,buildOk,nt_is,Int.reduceEq,Int.reduceLE,Int.reduceLT,Int.reduceToNat,Nat.reduceAdd,Nat.reduceEqDiff,Nat.reduceLT,Nat.reduceLeDiff,Nat.reduceMul,Nat.reduceSub,reduceCtorEq,tbHA0,Tryz.results5,List.length_map]
 refine fun y1=>⟨by omega,fun y2=>?_⟩
 refine EX_forS Ty.mixed (by kernel_rfl) l.length (fun i S=>(∃ y,S.rows=[⟨y,9,30⟩]∧S.σ 10=.list (some y) 9 ((revN l i).map cPk))∧S.boxes=[]∧S.σ 0=vstr op∧S.σ 1=vPks l∧S.σ 2=vstr key∧S.σ 3=vint tick∧S.σ 9=vPks (consP l)∧S.σ 11=vint ((l.length:Int) - 1 - i)) ⟨_,_,List.Sublist.refl _,List.Sublist.refl _,?_⟩ (fun i S hi ⟨⟨y,gr,g10⟩,gb,g0,g1,g2,g3,g9,g11⟩=>?_) (fun S ⟨⟨y,gr,g10⟩,gb,g0,g1,g2,g3,g9,g11⟩=>?_)
 ·simp only [↓rA,rB,buildOk,nt_is,Int.reduceEq,Int.reduceLE,Int.reduceLT,Int.reduceToNat,Nat.reduceAdd,Nat.reduceEqDiff,Nat.reduceLT,Nat.reduceLeDiff,Nat.reduceMul,Nat.reduceSub,reduceCtorEq,tbHA0,Tryz.results5]
  refine⟨⟨y2,rfl,?_⟩,?_⟩
  ·rw [show revN l 0=l by simp [revN]]
  ·rw [wrap_id (by omega) (by omega)]
   simp
 ·have hst:=revN_next l i hi
  have e2:(l.length:Int) - 1 - ((i+1:Nat):Int)=(l.length:Int) - 1 - i - 1:=by omega
  obtain⟨j,hj,e1,hst,hfe⟩:∃ j,∃ h:j < l.length,((l.length:Int) - 1 - i=j)∧revN l (i+1)=revN l i++[negP l[j]]∧(-1000≤l[j].2∧l[j].2≤1000):=⟨l.length - 1 - i,by omega,by omega,hst,hfew _ (List.getElem_mem (by omega))⟩
  have hrl:(revN l i).length≤120:=by unfold revN;rw [List.length_append,List.length_take,List.length_reverse,List.length_map];omega
  rw [e2,e1,hst]
  rw [e1] at g11
  have w1:=wrap_id (n:=(j:Int) - 1) (by omega) (by omega)
  have hj0:0≤(j:Int):=Int.natCast_nonneg j
  have w2:IntKind.i64.wrap (0 - l[j].2)=-l[j].2:=by rw [wrap_id (by omega) (by omega)];omega
  simp only [↓rA,rB,buildOk,nt_is,Int.reduceEq,Int.reduceLE,Int.reduceLT,Int.reduceToNat,Nat.reduceAdd,Nat.reduceEqDiff,Nat.reduceLT,Nat.reduceLeDiff,Nat.reduceMul,Nat.reduceSub,reduceCtorEq,tbHA0,Tryz.results5,gb,gr,g10,g0,g1,g2,g3,g9,g11,Int.ofNat_lt,hj,hj0,List.length_map,getD_map _ _ _ hj,w1]
  generalize l[j]=p at hfe w2 ⊢
  refine fun b12 h12=>?_;replace h12:=newb h12;try simp only [Nb] at h12
  simp only [↓rA,rB,buildOk,nt_is,Int.reduceEq,Int.reduceLE,Int.reduceLT,Int.reduceToNat,Nat.reduceAdd,Nat.reduceEqDiff,Nat.reduceLT,Nat.reduceLeDiff,Nat.reduceMul,Nat.reduceSub,reduceCtorEq,tbHA0,Tryz.results5,gb,gr,g10,g0,g1,g2,g3,g9,g11,h12,w1,w2]
  refine fun y3=>takeRF_2 ?_
  simp only [↓rA,rB,buildOk,nt_is,Int.reduceEq,Int.reduceLE,Int.reduceLT,Int.reduceToNat,Nat.reduceAdd,Nat.reduceEqDiff,Nat.reduceLT,Nat.reduceLeDiff,Nat.reduceMul,Nat.reduceSub,reduceCtorEq,tbHA0,Tryz.results5,gb,gr,g10,g0,g1,g2,g3,g9,g11,h12,w1,w2,List.length_map]
  refine⟨by omega,fun y4=>?_⟩
  refine⟨[],[⟨y4,9,30⟩],List.nil_sublist _,List.Sublist.cons_cons _ (List.nil_sublist _),⟨y4,rfl,?_⟩,rfl,?_⟩
  ·simp only [↓rA,rB,buildOk,nt_is,Int.reduceEq,Int.reduceLE,Int.reduceLT,Int.reduceToNat,Nat.reduceAdd,Nat.reduceEqDiff,Nat.reduceLT,Nat.reduceLeDiff,Nat.reduceMul,Nat.reduceSub,reduceCtorEq,tbHA0,Tryz.results5,g10,w2]
   rw [List.map_append (l₁:=revN l i)]
   rfl
  ·simp only [↓rA,rB,buildOk,nt_is,Int.reduceEq,Int.reduceLE,Int.reduceLT,Int.reduceToNat,Nat.reduceAdd,Nat.reduceEqDiff,Nat.reduceLT,Nat.reduceLeDiff,Nat.reduceMul,Nat.reduceSub,reduceCtorEq,tbHA0,Tryz.results5,g0,g1,g2,g3,g9]
 ·have e3:(l.length:Int) - 1 - l.length=-1:=by omega
  rw [e3] at g11
  have hrb:revN l l.length=bothP l:=by unfold revN bothP;rw [List.take_of_length_le (by simp)]
  rw [hrb] at g10
  have hbl:=bothP_len l
  have hcl:=consP_len l
  have hbin:=bothP_in hfew hin
  have hcin:=consP_in hfew h60 hin
  simp only [↓rA,rB,buildOk,nt_is,Int.reduceEq,Int.reduceLE,Int.reduceLT,Int.reduceToNat,Nat.reduceAdd,Nat.reduceEqDiff,Nat.reduceLT,Nat.reduceLeDiff,Nat.reduceMul,Nat.reduceSub,reduceCtorEq,tbHA0,Tryz.results5,gb,gr,g10,g0,g1,g2,g3,g9,g11,Int.reduceLE]
  refine OkF_of _ (cells_ok op (consP l) key tick h0 hcin (by omega)) ?_
  rw [cells_cons (fam op) hfew (by omega)]
  simp only [↓rA,rB,buildOk,nt_is,Int.reduceEq,Int.reduceLE,Int.reduceLT,Int.reduceToNat,Nat.reduceAdd,Nat.reduceEqDiff,Nat.reduceLT,Nat.reduceLeDiff,Nat.reduceMul,Nat.reduceSub,reduceCtorEq,tbHA0,Tryz.results5,gb,gr,g10,g0,g1,g2,g3,g9,g11]
  refine OkF_of _ (cells_ok op l key tick h0 hin (by omega)) ?_
  simp only [↓rA,rB,buildOk,nt_is,Int.reduceEq,Int.reduceLE,Int.reduceLT,Int.reduceToNat,Nat.reduceAdd,Nat.reduceEqDiff,Nat.reduceLT,Nat.reduceLeDiff,Nat.reduceMul,Nat.reduceSub,reduceCtorEq,tbHA0,Tryz.results5,gb,gr,g10,g0,g1,g2,g3,g9,g11]
  have hbd:=cellsM_bd (n:=60) h0 h60 (fun p hp=>(hin p hp).1) key tick
  refine OkF_of _ (sameC_ok _ (Nat.le_trans hbd.1 (by decide)) (fun c hc=>⟨Nat.le_trans (hbd.2 c hc).1 (by decide),Nat.le_trans (hbd.2 c hc).2 (by decide)⟩)) ?_
  simp only [↓rA,rB,buildOk,nt_is,Int.reduceEq,Int.reduceLE,Int.reduceLT,Int.reduceToNat,Nat.reduceAdd,Nat.reduceEqDiff,Nat.reduceLT,Nat.reduceLeDiff,Nat.reduceMul,Nat.reduceSub,reduceCtorEq,tbHA0,Tryz.results5,gb,gr,g10,g0,g1,g2,g3,g9,g11]
  refine OkF_of _ (consP_ok (consP l) (by omega) (fun p h=>(hcin p h).1)) ?_
  rw [cons_cons (fun p hp=>(hin p hp).1)]
  simp only [↓rA,rB,buildOk,nt_is,Int.reduceEq,Int.reduceLE,Int.reduceLT,Int.reduceToNat,Nat.reduceAdd,Nat.reduceEqDiff,Nat.reduceLT,Nat.reduceLeDiff,Nat.reduceMul,Nat.reduceSub,reduceCtorEq,tbHA0,Tryz.results5,gb,gr,g10,g0,g1,g2,g3,g9,g11]
  refine OkF_of _ (sameP_ok (consP l) (by omega)) ?_
  simp only [↓rA,rB,buildOk,nt_is,Int.reduceEq,Int.reduceLE,Int.reduceLT,Int.reduceToNat,Nat.reduceAdd,Nat.reduceEqDiff,Nat.reduceLT,Nat.reduceLeDiff,Nat.reduceMul,Nat.reduceSub,reduceCtorEq,tbHA0,Tryz.results5,gb,gr,g10,g0,g1,g2,g3,g9,g11]
  refine OkF_le (.cons (Le.list _ _ _) .nil) _ (consP_ok (bothP l) (by omega) (fun p h=>(hbin p h).1)) ?_
  rw [cons_both hfew]
  simp only [↓rA,rB,buildOk,nt_is,Int.reduceEq,Int.reduceLE,Int.reduceLT,Int.reduceToNat,Nat.reduceAdd,Nat.reduceEqDiff,Nat.reduceLT,Nat.reduceLeDiff,Nat.reduceMul,Nat.reduceSub,reduceCtorEq,tbHA0,Tryz.results5,gb,gr,g10,g0,g1,g2,g3,g9,g11]
  refine OkF_le (.cons (Le.refl _) (.cons (Le.list _ _ _) (LeL.refl _))) _ (cells_ok op (bothP l) key tick h0 hbin (by omega)) ?_
  rw [cells_both (fam op) hfew]
  simp only [↓rA,rB,buildOk,nt_is,Int.reduceEq,Int.reduceLE,Int.reduceLT,Int.reduceToNat,Nat.reduceAdd,Nat.reduceEqDiff,Nat.reduceLT,Nat.reduceLeDiff,Nat.reduceMul,Nat.reduceSub,reduceCtorEq,tbHA0,Tryz.results5,gb,gr,g10,g0,g1,g2,g3,g9,g11]
  refine OkF_of _ example_ok ?_
  simp only [↓rA,rB,buildOk,nt_is,Int.reduceEq,Int.reduceLE,Int.reduceLT,Int.reduceToNat,Nat.reduceAdd,Nat.reduceEqDiff,Nat.reduceLT,Nat.reduceLeDiff,Nat.reduceMul,Nat.reduceSub,reduceCtorEq,tbHA0,Tryz.results5,gb,gr,g10,g0,g1,g2,g3,g9,g11]
  exact ret_done rfl
end Go.Proofs.YtjdggbanifineaaGreat
set_option linter.unusedSimpArgs false
set_option maxRecDepth 100000
namespace Go.Proofs.YtjdggbanifineaaGreat
open Go.VL Go.Ar Go.ChangeShapes Go.WideShapes Go.ChangeAt Go.RowKit
theorem Tryz.own:ownKnob Tryz.prog.godebug=none:=by kernel_rfl
theorem Tryz.laidOut:laidOutB Tryz.prog=true:=by kernel_rfl
theorem inv_int {d:Nat} {v:List V} (h:TV Tryz.prog d 3 v):∃ n,v=[vint n]:=by
 cases d with
 | zero=>exact h.elim
 | succ d =>
  simp only [TV,Ty.un3] at h
  obtain⟨n,rfl,_⟩:=h
  exact⟨n,rfl⟩
theorem inv_str {d:Nat} {v:List V} (h:TV Tryz.prog d 9 v):∃ s:Str,v=[vstr s]:=by
 cases d with
 | zero=>exact h.elim
 | succ d =>
  simp only [TV,Ty.un9] at h
  obtain⟨s,rfl,_⟩:=h
  exact⟨s,rfl⟩
theorem inv_fid {d:Nat} {vs:List V} (h:TV Tryz.prog d 26 vs):∃ i:FID,vs=cFID i:=by
 cases d with
 | zero=>exact h.elim
 | succ d =>
  simp only [TV,Tryz.underlying26,TVF] at h
  obtain⟨x,y,rfl,hx,y1,y2,rfl,hy,rfl⟩:=h
  obtain⟨s,rfl⟩:=inv_str hx
  obtain⟨n,rfl⟩:=inv_int hy
  exact⟨⟨s,n⟩,rfl⟩
theorem inv_val {d:Nat} {vs:List V} (h:TV Tryz.prog d 28 vs):∃ v:Val,vs=cVal v:=by
 cases d with
 | zero=>exact h.elim
 | succ d =>
  simp only [TV,Tryz.underlying28,TVF] at h
  obtain⟨x,y,rfl,hx,y1,y2,rfl,hy,z1,z2,rfl,hz,rfl⟩:=h
  obtain⟨k,rfl⟩:=inv_int hx
  obtain⟨n,rfl⟩:=inv_int hy
  obtain⟨s,rfl⟩:=inv_str hz
  exact⟨⟨k,n,s⟩,rfl⟩
theorem inv_pick {d:Nat} {vs:List V} (h:TV Tryz.prog d 30 vs):∃ p:Pk,vs=cPk p:=by
 cases d with
 | zero=>exact h.elim
 | succ d =>
  simp only [TV,Tryz.underlying30,TVF] at h
  obtain⟨x1,y1,rfl,h1,x2,y2,rfl,h2,x3,y3,rfl,h3,x4,y4,rfl,h4,x5,y5,rfl,h5,x6,y6,rfl,h6,rfl⟩:=h
  obtain⟨k,rfl⟩:=inv_str h1
  obtain⟨i,rfl⟩:=inv_fid h2
  obtain⟨e,rfl⟩:=inv_int h3
  obtain⟨v,rfl⟩:=inv_val h4
  obtain⟨t,rfl⟩:=inv_int h5
  obtain⟨n,rfl⟩:=inv_int h6
  exact⟨(⟨k,e,i,v,t⟩,n),rfl⟩
theorem in_picks {d:Nat} {a:V} (h:TA Tryz.prog d 22 a):∃ l:List Pk,Le a (vPks l)∧l.length≤maxLen:=by
 unfold TA at h
 simp only [Ty.ag22] at h
 cases d with
 | zero=>exact h.elim
 | succ d =>
  simp only [TV,Tryz.underlying22] at h
  rcases h with h | ⟨es,h,hm,hes⟩
  ·cases h
   exact⟨[],Le.nil 9,Nat.zero_le _⟩
  ·have hc:Tryz.prog.cellsOf 30=9:=by kernel_rfl
   rw [hc] at h
   cases h
   have:∃ xs:List Pk,es=xs.map cPk:=by
    clear hc hm
    induction es with
    | nil=>exact⟨[],rfl⟩
    | cons e r ih =>
     obtain⟨n,rfl⟩:=inv_pick (hes e List.mem_cons_self)
     obtain⟨xs,rfl⟩:=ih fun x hx=>hes x (List.mem_cons_of_mem _ hx)
     exact⟨n::xs,rfl⟩
   obtain⟨xs,rfl⟩:=this
   rw [List.length_map] at hm
   exact⟨xs,Le.refl _,hm⟩
theorem in_int {d:Nat} {a:V} (h:TA Tryz.prog d 3 a):∃ n,a=vint n:=by
 unfold TA at h
 simp only [Ty.ag3] at h
 obtain⟨n,h⟩:=inv_int h
 cases h
 exact⟨n,rfl⟩
theorem in_str {d:Nat} {a:V} (h:TA Tryz.prog d 9 a):∃ s,a=vstr s:=by
 unfold TA at h
 simp only [Ty.ag9] at h
 obtain⟨s,h⟩:=inv_str h
 cases h
 exact⟨s,rfl⟩
abbrev laidL:List (String × DataW Unit):=[]
noncomputable def laidWorld (os:Os):World:=World.laidAll Tryz.prog os laidL
theorem laid_met (os:Os) (args:Array Value):laidMet Tryz.prog laidL ((laidWorld os).forCall (fun _ _=>0) ⟨#[],args,[]⟩).memory :=
 laidMet_laidAll args (by kernel_rfl) (by kernel_rfl)
theorem glob_of {W:World} (hsh:W.ShapedOpen Tryz.prog):Glob W fun b _=>b < W.heap.size:=by
 have hI:∀ b o x,W.cell? ⟨b,o,none⟩=some x→(fun b _=>b < W.heap.size:Cells) b o:=fun b o x hx=>by
  unfold World.cell? at hx
  show b < W.heap.size
  by_cases h:b < W.heap.size
  ·exact h
  ·rw [Array.getElem?_eq_none (by simpa using h)] at hx;simp at hx
 refine⟨fun p hp=>(by cases hp),fun g hg=>?_⟩
 obtain rfl:=List.mem_singleton.1 hg
 obtain⟨m,hm⟩:=cell_of_shapedOpen_int (P:=Tryz.prog) (g:=0) (t:=3) (zero:=#[.int .i64 0]) hsh (of_decide_eq_true (by kernel_rfl)) (by kernel_rfl) rfl (by kernel_rfl) (by kernel_rfl) Ty.un3
 exact⟨m,hm,hI _ _ _ hm⟩
end Go.Proofs.YtjdggbanifineaaGreat
