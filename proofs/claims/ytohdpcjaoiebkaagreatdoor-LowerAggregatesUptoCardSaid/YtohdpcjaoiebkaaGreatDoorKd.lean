/- Merged out of my texts O9 CB OA OB CC CD CE CF CG CH CI CJ CK CL CM CN CO CP. -/
import Derived.Test.YtohdpcjaoiebkaaGreatDoorKc
import Derived.Test.YtohdpcjaoiebkaaGreatDoorKb
import Derived.Test.YtohdpcjaoiebkaaGreatDoorKVH
set_option linter.unusedVariables false
set_option linter.unusedSimpArgs false
set_option maxRecDepth 100000
set_option linter.defProp false
namespace Go.Proofs.YtohdpcjaoiebkaaGreatDoor
open Go.VL Go.Ar Go.Lo Go.Proofs.YtohdpcjaoiebkaaGreatDoor
theorem qru (n:Int):zc Tryz.prog 110 [vint n] (qv (Wv n 8)):=by
 have fb:∀ {a b:Bool},a=b→V.lit (.bool a)=qv b:=fun h=>by rw [h]
 refine Ok.of_ex Ty.mixed Tryz.func110 rfl (by simp [Tryz.ntmps110]) (by kernel_rfl) fun F w0 I0=>?_
 by_cases h:(8:Int) < n
 ·simp only [↓rA,rB,Nat.reduceEqDiff,reduceCtorEq,Tryz.results110,h]
  exact qa (fb (by simp [Wv,h]))
 ·simp only [↓rA,rB,Nat.reduceEqDiff,reduceCtorEq,Tryz.results110,h]
  exact qa (fb (by simp [Wv,h]))
def XM:=(aI (aI Ty.t3 Ty.t4) (aI Ty.t5 Ty.t9))
theorem Yk (s:Str):zc Tryz.prog 109 [qm s] (qv (wS s)):=by
 have fb:∀ {a b:Bool},a=b→V.lit (.bool a)=qv b:=fun h=>by rw [h]
 refine Ok.of_ex Ty.mixed Tryz.func109 rfl (by simp [Tryz.ntmps109]) (by kernel_rfl) fun F w0 I0=>?_
 by_cases e0:s.size=0
 ·have e0':(s.size:Int) < 1:=by omega
  simp only [↓rA,rB,Nat.reduceEqDiff,reduceCtorEq,XM,Tryz.results109,e0']
  exact qa (fb (by rw [wS,if_pos e0]))
 have e0':¬ (s.size:Int) < 1:=by omega
 have e0p:0 < s.size:=by omega
 have e0i:(0:Int) < s.size:=by omega
 by_cases e1:24 < s.size
 ·have e1':(24:Int) < s.size:=by omega
  simp only [↓rA,rB,Nat.reduceEqDiff,reduceCtorEq,XM,Tryz.results109,e0',e1']
  exact qa (fb (by rw [wS,if_neg e0,if_pos e1]))
 have e1':¬ (24:Int) < s.size:=by omega
 by_cases e2:((s.data.toList.getD 0 0).toNat:Int) < 97
 ·simp only [↓rA,rB,Int.reduceToNat,Nat.reduceEqDiff,reduceCtorEq,XM,Tryz.results109,e0',e1',e0i,e2]
  exact qa (fb (by rw [wS,if_neg e0,if_neg e1,if_pos e2]))
 by_cases e3:(122:Int) < (s.data.toList.getD 0 0).toNat
 ·simp only [↓rA,rB,Int.reduceToNat,Nat.reduceEqDiff,reduceCtorEq,XM,Tryz.results109,e0',e1',e0i,e2,e3]
  exact qa (fb (by rw [wS,if_neg e0,if_neg e1,if_neg e2,if_pos e3]))
 simp only [↓rA,rB,Int.reduceToNat,Nat.reduceEqDiff,reduceCtorEq,XM,Tryz.results109,e0',e1',e0i,e2,e3]
 have hw:wS s=s.data.toList.all wordC:=by rw [wS,if_neg e0,if_neg e1,if_neg e2,if_neg e3]
 refine qB Ty.mixed (by kernel_rfl) s.size (fun i S=>(s.data.toList.take i).all wordC=true∧S.boxes=[]∧S.rows=[]∧S.σ 0=qm s∧S.σ 3=vint i) ⟨0,?_⟩ (fun i S hi ⟨hf,gb,gr,g0,g3⟩=>?_) (fun S ⟨hf,gb,gr,g0,g3⟩=>?_)
 ·simp only [rB,reduceCtorEq]
  try exact rfl
 ·have hl:i < s.data.toList.length:=by simpa using hi
  have ht:=jc (p:=wordC) hl
  have hb:=jd (p:=wordC) hl
  rw [← jX s i hi] at ht hb
  generalize hcd:s.data.toList.getD i 0=c at ht hb
  have hwi:=qk (i:=i) (N:=s.size) hi (by omega)
  by_cases p1:(97:Int)≤c.toNat <;> by_cases p2:(c.toNat:Int)≤122 <;> by_cases p3:(48:Int)≤c.toNat <;> by_cases p4:(c.toNat:Int)≤57 <;> by_cases p5:(c.toNat:Int)=95 <;>
  first
  | (exact absurd p5 (by omega))
  | (
    have hc:wordC c=true:=by simp [wordC];omega
    simp only [↓rA,rB,Int.reduceLE,Nat.reduceEqDiff,reduceCtorEq,XM,gb,gr,g0,g3,Int.ofNat_lt,hi,hcd,p1,p2,p3,p4,p5,hwi]
    exact⟨0,by rw [ht,hf,hc];rfl⟩)
  | (
    have hc:wordC c=false:=by simp [wordC];omega
    simp only [↓rA,rB,Nat.reduceEqDiff,reduceCtorEq,XM,gb,gr,g0,g3,Int.ofNat_lt,hi,hcd,p1,p2,p3,p4,p5]
    exact qa (fb (by rw [hw,hb hc])))
 ·simp only [↓rA,rB,Nat.reduceEqDiff,reduceCtorEq,XM,gb,gr,g0,g3,Int.ofNat_lt,Nat.lt_irrefl]
  rw [List.take_of_length_le (by simp)] at hf
  exact qa (fb (by rw [hw,hf]))
def XL:=(aI (aI (aI Ty.c109 Ty.c110) (aI Ty.t126 Ty.t27)) (aI (aI Ty.t3 Ty.t36) (aI Ty.t4 Ty.t9)))
theorem yC (u:List kK):zc Tryz.prog 71 [qG u] (vint (xI u)):=by
 have fi:∀ {a b:Int},a=b→V.lit (.int .i64 a)=vint b:=fun h=>by rw [h]
 refine Ok.of_ex Ty.mixed Tryz.func71 rfl (by simp [Tryz.ntmps71]) (by kernel_rfl) fun F w0 I0=>?_
 by_cases e0:4 < u.length
 ·have e0':(4:Int) < u.length:=by omega
  simp only [↓rA,rB,reduceCtorEq,XL,Tryz.results71,List.length_map,e0']
  exact qa (fi (by rw [xI,if_pos e0]))
 have e0':¬ (4:Int) < u.length:=by omega
 have hu:xI u=vP none u:=by rw [xI,if_neg e0]
 simp only [↓rA,rB,reduceCtorEq,XL,Tryz.results71,List.length_map,e0']
 refine qB Ty.mixed (by kernel_rfl) u.length (fun i S=>vP (vU u i) (u.drop i)=xI u∧S.boxes=[]∧S.rows=[]∧S.σ 0=qG u∧S.σ 3=vint i) ⟨0,?_⟩ (fun i S hi ⟨hf,gb,gr,g0,g3⟩=>?_) (fun S ⟨hf,gb,gr,g0,g3⟩=>?_)
 ·simp only [rB,reduceCtorEq]
  first | exact hu.symm | exact⟨hu.symm,rfl⟩
 ·have hwi:=qk (i:=i) (N:=u.length) hi (by omega)
  rw [List.drop_eq_getElem_cons hi,vP] at hf
  have hn:vU u (i+1)=some u[i].name:=by simp [vU,hi]
  simp only [↓rA,rB,Nat.reduceEqDiff,reduceCtorEq,XL,gb,g0,g3,Int.ofNat_lt,hi,List.length_map,qd _ _ _ hi]
  refine qg _ (Yk _) ?_
  cases e1:wS u[i].name
  ·rw [if_pos e1] at hf
   simp only [↓rA,rB,gr]
   exact qa (fi hf)
  rw [if_neg (by rw [e1];decide)] at hf
  by_cases e2:u[i].exp=0
  ·rw [if_pos e2] at hf
   simp only [↓rA,rB,Nat.reduceEqDiff,reduceCtorEq,XL,gr,g0,g3,e2,Int.ofNat_lt,hi,List.length_map,qd _ _ _ hi]
   exact qa (fi hf)
  rw [if_neg e2] at hf
  simp only [↓rA,rB,Nat.reduceEqDiff,reduceCtorEq,XL,gr,g0,g3,e2,Int.ofNat_lt,hi,List.length_map,qd _ _ _ hi]
  refine qg _ (qru _) ?_
  cases e3:Wv u[i].exp 8
  ·rw [if_neg (by rw [e3];decide)] at hf
   cases i with
   | zero =>
    simp only [↓rA,rB,Int.reduceLT,Int.reduceToNat,Nat.reduceAdd,Nat.reduceEqDiff,reduceCtorEq,gr,g0,g3]
    exact⟨0,by rw [hn];simpa [vU] using hf,rfl⟩
   | succ j =>
    have hj:j < u.length:=by omega
    have hp:vU u (j+1)=some u[j].name:=by simp [vU,hj]
    rw [hp] at hf
    have h0:(0:Int) < ((j+1:Nat):Int):=by omega
    have hs:((j+1:Nat):Int) - 1=(j:Int):=by omega
    have hws:=zl (n:=(j:Int)) (by omega) (by omega)
    cases e4:leS u[j+1].name u[j].name
    ·have e4':=e4
     unfold leS at e4'
     rw [if_neg (by simp only [Option.any_some,e4];decide)] at hf
     simp only [↓rA,rB,Nat.reduceEqDiff,reduceCtorEq,XL,gr,g0,g3,hwi,h0,hs,hws,List.length_map,Int.ofNat_lt,hi,hj,qd _ _ _ hi,qd _ _ _ hj,e4']
     exact⟨0,by rw [hn];exact hf⟩
    ·have e4':=e4
     unfold leS at e4'
     rw [if_pos (by simp only [Option.any_some,e4])] at hf
     simp only [↓rA,rB,Nat.reduceEqDiff,reduceCtorEq,XL,gr,g0,g3,h0,hs,hws,List.length_map,Int.ofNat_lt,hi,hj,qd _ _ _ hi,qd _ _ _ hj,e4']
     exact qa (fi hf)
  ·rw [if_pos e3] at hf
   simp only [↓rA,rB,Nat.reduceEqDiff,gr]
   exact qa (fi hf)
 ·simp only [↓rA,rB,Nat.reduceEqDiff,reduceCtorEq,XL,gb,gr,g0,g3,Int.ofNat_lt,Nat.lt_irrefl,List.length_map]
  rw [List.drop_eq_nil_of_le (Nat.le_refl _),vP] at hf
  exact qa (fi hf)
def qoh:=(aI (aI Ty.t126 (aI Ty.t3 Ty.t36)) (aI Ty.t4 (aI Ty.t43 Ty.t9)))
theorem zB (k:Int) (u:List kK) (of:Str):zc Tryz.prog 70 [.agg [vint k,qG u,qm of]] (qv (decide (k=2∨k=3))):=by
 refine Ok.of_ex Ty.mixed Tryz.func70 rfl (by simp [Tryz.ntmps70]) (by kernel_rfl) fun F w0 I0=>?_
 simp only [↓rA,rB,qf,Nat.reduceLT]
 refine fun b1 h1=>?_;replace h1:=qn h1;try simp only [Nb] at h1
 by_cases e1:k=2
 ·simp only [↓rA,rB,Int.reduceEq,Nat.reduceAdd,Nat.reduceEqDiff,qoh,Tryz.results70,e1]
  exact qa (by simp [])
 ·by_cases e2:k=3
  ·simp only [↓rA,rB,Int.reduceEq,Nat.reduceAdd,Nat.reduceEqDiff,qoh,Tryz.results70,e2]
   exact qa (by simp [])
  ·simp only [↓rA,rB,Nat.reduceAdd,Nat.reduceEqDiff,qoh,Tryz.results70,e1,e2]
   exact qa (by simp [])
def j7:=(aI (aI (aI Ty.c37 Ty.c70) (aI Ty.c71 (aI Ty.t126 Ty.t27))) (aI (aI Ty.t3 Ty.t36) (aI Ty.t4 (aI Ty.t43 Ty.t9))))
theorem Zd (k:Int) (u:List kK) (of:Str):zc Tryz.prog 38 [vTy k u of] (vint (zT k u of)):=by
 have fi:∀ {a b:Int},a=b→V.lit (.int .i64 a)=vint b:=fun h=>by rw [h]
 refine Ok.of_ex Ty.mixed Tryz.func38 rfl (by simp [Tryz.ntmps38]) (by kernel_rfl) fun F w0 I0=>?_
 simp only [↓rA,rB,qf,Nat.reduceLT]
 refine fun b1 h1=>?_;replace h1:=qn h1;try simp only [Nb] at h1
 by_cases e0:k < 1
 ·simp only [↓rA,rB,Nat.reduceAdd,Nat.reduceEqDiff,j7,Tryz.results38,e0]
  exact qa (fi (by simp [zT,e0]))
 by_cases e1:5 < k
 ·simp only [↓rA,rB,Nat.reduceAdd,Nat.reduceEqDiff,j7,Tryz.results38,e0,e1]
  exact qa (fi (by simp [zT,e0,e1]))
 have go:∀ x:Int,zT k u of=x→((k=5∧qP of=true∧¬ 0 < u.length)∨(¬ k=5∧of=es0∧(k=2∨k=3))∨(¬ k=5∧of=es0∧¬ (k=2∨k=3)∧¬ 0 < u.length))→x=if ¬ xI u=0 then 70 else if ZW u=false then 70 else 0:=by
  rintro x rfl h
  rw [zT,if_neg e0,if_neg e1]
  rcases h with⟨rfl,en,e2⟩ | ⟨e5,eo,en⟩ | ⟨e5,eo,en,e2⟩
  ·rw [if_neg (fun h=>e2 h.1),if_pos rfl,if_neg (fun e=>by rw [qP,if_pos e] at en;cases en),if_neg (by rw [en];decide)]
  ·rw [if_neg (fun h=>h.2 en),if_neg e5,if_neg (fun h=>h eo)]
  ·rw [if_neg (fun h=>e2 h.1),if_neg e5,if_neg (fun h=>h eo)]
 by_cases hc:(k=5∧qP of=true∧¬ 0 < u.length)∨(¬ k=5∧of=es0∧(k=2∨k=3))∨(¬ k=5∧of=es0∧¬ (k=2∨k=3)∧¬ 0 < u.length)
 ·have ht:=go _ rfl hc
  rw [ht]
  clear go ht
  have h0:(0 < u.length)=((0:Int) < u.length):=by simp
  rw [h0] at hc
  rcases hc with c | c | c <;>
  (first
   | (
     simp only [↓rA,rB,Int.reduceLT,Nat.reduceAdd,Nat.reduceEqDiff,j7,e0,e1,c]
     refine qg _ (zJ of) ?_
     simp only [↓rA,rB,Nat.reduceAdd,Nat.reduceEqDiff,j7,c]
     refine qg _ (zB _ _ _) ?_)
   | (
     simp only [↓rA,rB,Nat.reduceAdd,Nat.reduceEqDiff,j7,e0,e1,c]
     refine qg _ (zB _ _ _) ?_)) <;>
  (
    simp only [↓rA,rB,Int.reduceEq,Nat.reduceAdd,Nat.reduceEqDiff,j7,c,List.length_map]
    refine qg _ (yC u) ?_
    by_cases eu:xI u=0
    case neg =>
     simp only [↓rA,rB,Int.reduceEq,Tryz.results38,eu]
     exact qa (fi (by first | rfl | rw [if_pos eu]))
    rw [if_neg (fun h=>h eu)]
    have hl4:=kM eu
    simp only [↓rA,rB,Int.reduceEq,Tryz.results38,eu]
    refine qB Ty.mixed (by kernel_rfl) u.length (fun i S=>(u.take i).all (fun f=>qP f.name)=true∧(∃ a b,S.boxes=[(b1,.c [a,qG u,b])])∧S.rows=[]∧S.σ 1=ptr b1∧S.σ 3=vint i) ⟨0,?_⟩ (fun i S hi ⟨hf,⟨a,b,gb⟩,gr,g1,g3⟩=>?_) (fun S ⟨hf,⟨a,b,gb⟩,gr,g1,g3⟩=>?_)
    ·simp only [rB,Nat.reduceEqDiff]
     first | exact⟨⟨_,_,rfl⟩,rfl⟩ | exact⟨_,_,rfl⟩ | exact⟨rfl,⟨_,_,rfl⟩,rfl⟩
    ·have hwi:=qk (i:=i) (N:=u.length) hi (by omega)
     have ht:=jc (p:=fun f:kK=>qP f.name) hi
     have hb:=jd (p:=fun f:kK=>qP f.name) hi
     simp only [↓rA,rB,Nat.reduceAdd,Nat.reduceEqDiff,j7,gb,g1,g3,Int.ofNat_lt,hi,List.length_map,qd _ _ _ hi]
     refine qg _ (zJ _) ?_
     cases e:qP u[i].name
     ·simp only [↓rA,rB,gr]
      exact qa (fi (by rw [ZW,hb e];rfl))
     ·simp only [↓rA,rB,Nat.reduceEqDiff,gr,g1,g3,hwi]
      exact⟨0,by rw [ht,hf,e];rfl,a,b,rfl⟩
    ·simp only [↓rA,rB,Nat.reduceAdd,Nat.reduceEqDiff,j7,gb,gr,g1,g3,Int.ofNat_lt,Nat.lt_irrefl,List.length_map]
     rw [List.take_of_length_le (Nat.le_refl _)] at hf
     exact qa (fi (by rw [ZW,hf];rfl)))
 ·have h0:(0 < u.length)=((0:Int) < u.length):=by simp
  have ht:zT k u of=3:=by
   rw [zT,if_neg e0,if_neg e1]
   split
   ·rfl
   ·rename_i h2
    split
    ·rename_i e5
     split
     ·rfl
     ·split
      ·rfl
      ·rename_i eo en
       exact absurd (.inl ⟨e5,by simpa using en,fun h=>h2 ⟨h,by omega⟩⟩) hc
    ·rename_i e5
     split
     ·rfl
     ·rename_i eo
      by_cases en:k=2∨k=3
      ·exact absurd (.inr (.inl ⟨e5,Classical.not_not.1 eo,en⟩)) hc
      ·exact absurd (.inr (.inr ⟨e5,Classical.not_not.1 eo,en,fun h=>h2 ⟨h,en⟩⟩)) hc
  rw [ht]
  rw [h0] at hc
  by_cases e5:k=5
  ·have nn:¬ (k=2∨k=3):=by omega
   simp only [↓rA,rB,Int.reduceLT,Nat.reduceAdd,Nat.reduceEqDiff,j7,e5]
   refine qg _ (zJ of) ?_
   cases en:qP of
   ·simp only [↓rA,rB,Nat.reduceEqDiff,Tryz.results38,e5]
    exact qa rfl
   ·have e2:(0:Int) < u.length:=Classical.not_not.1 fun h=>hc (.inl ⟨e5,en,h⟩)
    subst e5
    simp only [↓rA,rB,Nat.reduceAdd,Nat.reduceEqDiff,j7]
    refine qg _ (zB _ _ _) ?_
    simp only [↓rA,rB,Int.reduceEq,Nat.reduceAdd,Nat.reduceEqDiff,j7,Tryz.results38,e2,List.length_map]
    exact qa rfl
  ·by_cases eo:of=es0
   ·have nn:¬ (k=2∨k=3):=fun h=>hc (.inr (.inl ⟨e5,eo,h⟩))
    have e2:(0:Int) < u.length:=Classical.not_not.1 fun h=>hc (.inr (.inr ⟨e5,eo,nn,h⟩))
    simp only [↓rA,rB,Nat.reduceAdd,Nat.reduceEqDiff,j7,e0,e1,e5,eo]
    refine qg _ (zB _ _ _) ?_
    simp only [↓rA,rB,Nat.reduceAdd,Nat.reduceEqDiff,j7,Tryz.results38,e2,nn,List.length_map]
    exact qa rfl
   ·simp only [↓rA,rB,Nat.reduceAdd,Nat.reduceEqDiff,j7,Tryz.results38,e0,e1,e5,eo]
    exact qa rfl
end Go.Proofs.YtohdpcjaoiebkaaGreatDoor
set_option linter.unusedSimpArgs false
set_option maxRecDepth 100000
set_option linter.defProp false
namespace Go.Proofs.YtohdpcjaoiebkaaGreatDoor
open Go.VL Go.Ar Go.Lo Go.Proofs.YtohdpcjaoiebkaaGreatDoor
def qh9:=(aI (aI Ty.t126 Ty.t3) (aI Ty.t36 (aI Ty.t4 Ty.t9)))
theorem xj (u v:List kK) (hu:u.length≤big):zc Tryz.prog 58 [qG u,qG v] (qv (decide (u=v))):=by
 have fb:∀ {a b:Bool},a=b→V.lit (.bool a)=qv b:=fun h=>by rw [h]
 unfold big at hu
 refine Ok.of_ex Ty.mixed Tryz.func58 rfl (by simp [Tryz.ntmps58]) (by kernel_rfl) fun F w0 I0=>?_
 by_cases hl:¬ u.length=v.length
 ·have hl':¬ (u.length:Int)=v.length:=by omega
  simp only [↓rA,rB,Nat.reduceEqDiff,reduceCtorEq,qh9,Tryz.results58,List.length_map,hl']
  exact qa (fb (decide_eq_false fun e=>hl (by rw [e])).symm)
 have hl':(u.length:Int)=v.length:=by omega
 have hl:u.length=v.length:=by omega
 simp only [↓rA,rB,Nat.reduceEqDiff,reduceCtorEq,qh9,Tryz.results58,List.length_map,hl']
 refine qB Ty.mixed (by kernel_rfl) v.length (fun i S=>u.take i=v.take i∧S.boxes=[]∧S.rows=[]∧S.σ 0=qG u∧S.σ 1=qG v∧S.σ 5=vint i) ⟨0,?_⟩ (fun i S hi ⟨hf,gb,gr,g0,g1,g5⟩=>?_) (fun S ⟨hf,gb,gr,g0,g1,g5⟩=>?_)
 ·simp only [rB,Nat.reduceEqDiff,reduceCtorEq]
  try exact rfl
 ·have hwi:=qk (i:=i) (N:=v.length) hi (by omega)
  have hiu:i < u.length:=by omega
  simp only [↓rA,rB,Nat.reduceAdd,Nat.reduceEqDiff,reduceCtorEq,qh9,g0,g1,g5,hl',Int.ofNat_lt,hi,List.length_map,qd _ _ _ hi,qd _ _ _ hiu]
  refine qe (fun hc=>?_) (fun hc=>?_)
  ·simp only [↓rA,rB,gb,gr]
   refine qa (fb (decide_eq_false fun e=>?_).symm)
   subst e
   simp at hc
  ·simp only [↓rA,rB,Nat.reduceEqDiff,reduceCtorEq,gb,gr,g0,g1,g5,hwi]
   refine⟨0,?_⟩
   rw [List.take_succ_eq_append_getElem hi,List.take_succ_eq_append_getElem hiu,hf]
   have:u[i]=v[i]:=by
    rw [qiu]
    simpa using hc
   rw [this]
 ·simp only [↓rA,rB,Nat.reduceEqDiff,reduceCtorEq,qh9,gb,gr,g0,g5,hl',List.length_map,Int.ofNat_lt,Nat.lt_irrefl]
  rw [List.take_of_length_le (Nat.le_refl _),List.take_of_length_le (by omega)] at hf
  exact qa (fb (decide_eq_true hf).symm)
def Zp:=(aI (aI (aI Ty.c58 Ty.t126) (aI Ty.t29 (aI Ty.t3 Ty.t35))) (aI (aI Ty.t36 Ty.t38) (aI Ty.t4 (aI Ty.t40 Ty.t9))))
theorem qis (a b:Hd) (x y:List E) (hu:a.unit.length≤big):zc Tryz.prog 27 [.agg (cH a (zD x)),.agg (cH b (zD y))] (qv (decide (a=b))):=by
 have fb:∀ {a b:Bool},a=b→V.lit (.bool a)=qv b:=fun h=>by rw [h]
 refine Ok.of_ex Ty.mixed Tryz.func27 rfl (by simp [Tryz.ntmps27]) (by kernel_rfl) fun F w0 I0=>?_
 simp only [↓rA,rB,qf,Nat.reduceLT]
 refine fun b1 h1=>?_;replace h1:=qn h1;try simp only [Nb] at h1
 simp only [↓rA,rB,qf,Nat.reduceEqDiff,Nat.reduceLT]
 refine fun b2 h2=>?_;replace h2:=qn h2;try simp only [Nb] at h2
 by_cases e0:a.kind=b.kind
 case neg =>
  simp only [↓rA,rB,Nat.reduceAdd,Nat.reduceEqDiff,Zp,Tryz.results27,h2,e0]
  exact qa (fb (decide_eq_false fun e=>e0 (by rw [e])).symm)
 by_cases e1:a.op=b.op
 case neg =>
  simp only [↓rA,rB,Nat.reduceAdd,Nat.reduceEqDiff,Zp,Tryz.results27,h2,e0,e1]
  exact qa (fb (decide_eq_false fun e=>e1 (by rw [e])).symm)
 by_cases e2:a.name=b.name
 case neg =>
  simp only [↓rA,rB,Nat.reduceAdd,Nat.reduceEqDiff,Zp,Tryz.results27,h2,e0,e1,e2]
  exact qa (fb (decide_eq_false fun e=>e2 (by rw [e])).symm)
 by_cases e3:a.table=b.table
 case neg =>
  simp only [↓rA,rB,Nat.reduceAdd,Nat.reduceEqDiff,Zp,Tryz.results27,h2,e0,e1,e2,e3]
  exact qa (fb (decide_eq_false fun e=>e3 (by rw [e])).symm)
 have v4:=qhu a.val b.val
 have v7:=qnv a b
 by_cases e4:a.val=b.val
 case neg =>
  simp only [↓rA,rB,Nat.reduceAdd,Nat.reduceEqDiff,Nat.reduceLeDiff,Zp,Tryz.results27,h2,e0,e1,e2,e3,e4,v4]
  exact qa (fb (decide_eq_false fun e=>e4 (by rw [e])).symm)
 simp only [↓rA,rB,Nat.reduceAdd,Nat.reduceEqDiff,Nat.reduceLeDiff,Zp,h2,e0,e1,e2,e3,e4]
 refine qg _ (xj a.unit b.unit hu) ?_
 by_cases e5:a.unit=b.unit
 case neg =>
  simp only [↓rA,rB,Nat.reduceEqDiff,Tryz.results27,e5]
  exact qa (fb (decide_eq_false fun e=>e5 (by rw [e])).symm)
 by_cases e6:a.param=b.param
 case neg =>
  simp only [↓rA,rB,Nat.reduceAdd,Nat.reduceEqDiff,Zp,Tryz.results27,h2,e5,e6]
  exact qa (fb (decide_eq_false fun e=>e6 (by rw [e])).symm)
 by_cases e7:a.wk=b.wk∧a.ws=b.ws
 case neg =>
  simp only [↓rA,rB,Nat.reduceAdd,Nat.reduceEqDiff,Nat.reduceLeDiff,Zp,Tryz.results27,h2,e5,e6,e7,v7]
  exact qa (fb (decide_eq_false fun e=>e7 (by rw [e];exact⟨rfl,rfl⟩)).symm)
 simp only [↓rA,rB,Nat.reduceAdd,Nat.reduceEqDiff,Nat.reduceLeDiff,Zp,Tryz.results27,h2,e5,e6,e7]
 exact qa (fb (decide_eq_true (by rw [qf7];exact⟨e0,e1,e2,e3,by rw [e4];exact⟨rfl,rfl,rfl⟩,e5,e6,e7.1,e7.2⟩)).symm)
def UV:=(aI (aI (aI Ty.c27 Ty.c9) (aI Ty.t126 (aI Ty.t29 Ty.t3))) (aI (aI Ty.t35 (aI Ty.t36 Ty.t38)) (aI Ty.t4 (aI Ty.t40 Ty.t9))))
theorem Zu:∀ a:E,kI a→∀ b:E,zc Tryz.prog 9 [vE a,vE b] (qv (decide (a=b))):=by
 have fb:∀ {a b:Bool},a=b→V.lit (.bool a)=qv b:=fun h=>by rw [h]
 intro x
 induction x using E.ind with
 | h a l ih =>
 intro hf y
 obtain⟨b,m⟩:=y
 have hu:=hf.unit
 have hl:=hf.len
 have ha:=hf.args
 simp only [E.args,E.hd,big] at hl ha hu
 rw [vE,vE,zq,zq]
 have no:a ≠ b→decide (E.mk a l=E.mk b m)=false:=fun h=>decide_eq_false fun e=>h (by injection e)
 have no':l ≠ m→decide (E.mk a l=E.mk b m)=false:=fun h=>decide_eq_false fun e=>h (by injection e)
 refine Ok.of_ex Ty.mixed Tryz.func9 rfl (by simp [Tryz.ntmps9]) (by kernel_rfl) fun F w0 I0=>?_
 simp only [↓rA,rB,qf,Nat.reduceLT]
 refine fun b1 h1=>?_;replace h1:=qn h1;try simp only [Nb] at h1
 simp only [↓rA,rB,qf,Nat.reduceEqDiff,Nat.reduceLT]
 refine fun b2 h2=>?_;replace h2:=qn h2;try simp only [Nb] at h2
 simp only [↓rA,rB,Nat.reduceAdd,Nat.reduceEqDiff,UV,h2]
 refine qg _ (qis a b l m hu) ?_
 by_cases e0:a=b
 case neg =>
  simp only [↓rA,rB,Nat.reduceEqDiff,Tryz.results9,decide_eq_false e0]
  exact qa (fb (no e0).symm)
 by_cases he:¬ l.length=m.length
 ·have he':¬ (l.length:Int)=m.length:=by omega
  simp only [↓rA,rB,Nat.reduceAdd,Nat.reduceEqDiff,UV,Tryz.results9,h2,decide_eq_true e0,List.length_map,he']
  exact qa (fb (no' fun e=>he (by rw [e])).symm)
 have he':(l.length:Int)=m.length:=by omega
 simp only [↓rA,rB,Nat.reduceAdd,Nat.reduceEqDiff,UV,Tryz.results9,h2,decide_eq_true e0,List.length_map,he']
 refine qB Ty.mixed (by kernel_rfl) m.length (fun i S=>l.take i=m.take i∧S.boxes=[(b2,.c (cH b (zD m))),(b1,.c (cH a (zD l)))]∧S.rows=[]∧S.σ 2=ptr b1∧S.σ 3=ptr b2∧S.σ 5=vint i) ⟨0,?_⟩ (fun i S hi ⟨hq,gb,gr,g2,g3,g5⟩=>?_) (fun S ⟨hq,gb,gr,g2,g3,g5⟩=>?_)
 ·simp only [rB,Nat.reduceEqDiff]
  try exact rfl
 ·have hwi:=qk (i:=i) (N:=m.length) hi (by omega)
  have hil:i < l.length:=by omega
  simp only [↓rA,rB,Nat.reduceAdd,Nat.reduceEqDiff,UV,gb,g2,g3,g5,h2,he',Int.ofNat_lt,hi,List.length_map,qd _ _ _ hi,qd _ _ _ hil,qx]
  have hc:=ih l[i] (List.getElem_mem hil) (ha _ (List.getElem_mem hil)) m[i]
  simp only [vE,qx] at hc
  refine qF _ hc.v ?_
  by_cases e:l[i]=m[i]
  ·simp only [↓rA,rB,Nat.reduceEqDiff,gb,gr,g2,g3,g5,hwi,decide_eq_true e]
   exact⟨0,by rw [List.take_succ_eq_append_getElem hi,List.take_succ_eq_append_getElem hil,hq,e],rfl⟩
  ·simp only [↓rA,rB,gb,gr,decide_eq_false e]
   refine qa (fb (no' fun e'=>e ?_).symm)
   subst e'
   rfl
 ·simp only [↓rA,rB,Nat.reduceAdd,Nat.reduceEqDiff,UV,gb,gr,g2,g5,h2,he',List.length_map,Int.ofNat_lt,Nat.lt_irrefl]
  rw [List.take_of_length_le (Nat.le_refl _),List.take_of_length_le (by omega)] at hq
  exact qa (fb (decide_eq_true (by rw [e0,hq])).symm)
def qx1:=(aI (aI (aI Ty.c72 Ty.t126) (aI Ty.t29 (aI Ty.t3 Ty.t35))) (aI (aI Ty.t36 Ty.t38) (aI Ty.t4 (aI Ty.t40 Ty.t9))))
theorem qpi:∀ x:E,kI x→zc Tryz.prog 72 [vE x] (vint (IntKind.i64.wrap (zj x))):=by
 intro x
 induction x using E.ind with
 | h hd l ih =>
  intro hf
  have hl:=hf.len
  have ha:=hf.args
  simp only [E.args,big] at hl ha
  rw [vE,zq]
  refine Ok.of_ex Ty.mixed Tryz.func72 rfl (by simp [Tryz.ntmps72]) (by kernel_rfl) fun F w0 I0=>?_
  simp only [↓rA,rB,qf,Nat.reduceLT]
  refine fun b1 h1=>?_;replace h1:=qn h1;try simp only [Nb] at h1
  simp only [↓rA,rB,Tryz.results72]
  refine qB Ty.mixed (by kernel_rfl) l.length (fun i S=>S.boxes=[(b1,.c (cH hd (zD l)))]∧S.rows=[]∧S.σ 1=ptr b1∧S.σ 3=vint (IntKind.i64.wrap (1+sizeEs (l.take i)))∧S.σ 4=vint i) ⟨0,?_⟩ (fun i S hi ⟨gb,gr,g1,g3,g4⟩=>?_) (fun S ⟨gb,gr,g1,g3,g4⟩=>?_)
  ·simp only [rB,Nat.reduceEqDiff]
   exact congrArg (fun n=>V.lit (.int .i64 n)) (by decide)
  ·have hwi:=qk (i:=i) (N:=l.length) hi (by omega)
   have hx:=List.getElem_mem hi
   have hc:=ih l[i] hx (ha _ hx)
   rw [vE,qx] at hc
   simp only [↓rA,rB,Nat.reduceAdd,Nat.reduceEqDiff,qx1,gb,g1,g3,g4,Int.ofNat_lt,hi,List.length_map,qd _ _ _ hi,qx]
   refine qg _ hc ?_
   simp only [↓rA,rB,Nat.reduceEqDiff,gr,g1,g4,hwi]
   refine⟨0,rfl,?_⟩
   rw [qhr,List.take_succ_eq_append_getElem hi,z8]
   exact congrArg (fun n=>V.lit (.int .i64 (IntKind.i64.wrap n))) (by simp only [sizeEs];omega)
  ·simp only [↓rA,rB,Nat.reduceAdd,Nat.reduceEqDiff,qx1,gb,gr,g1,g3,g4,Int.ofNat_lt,Nat.lt_irrefl,List.length_map]
   refine qa ?_
   rw [qR,List.take_of_length_le (Nat.le_refl _)]
   exact congrArg (fun n=>V.lit (.int .i64 (IntKind.i64.wrap n))) (by omega)
def qx0:=(aI (aI (aI Ty.c73 Ty.t126) (aI Ty.t29 (aI Ty.t3 Ty.t35))) (aI (aI Ty.t36 Ty.t38) (aI Ty.t4 (aI Ty.t40 Ty.t9))))
theorem qmc:∀ x:E,kI x→qZ x≤big→zc Tryz.prog 73 [vE x] (vint (qZ x)):=by
 intro x
 induction x using E.ind with
 | h hd l ih =>
  intro hf hb
  have hl:=hf.len
  have ha:=hf.args
  simp only [E.args,big] at hl ha
  rw [wL] at hb
  unfold big at hb
  rw [vE,zq]
  refine Ok.of_ex Ty.mixed Tryz.func73 rfl (by simp [Tryz.ntmps73]) (by kernel_rfl) fun F w0 I0=>?_
  simp only [↓rA,rB,qf,Nat.reduceLT]
  refine fun b1 h1=>?_;replace h1:=qn h1;try simp only [Nb] at h1
  simp only [↓rA,rB,Tryz.results73]
  refine qB Ty.mixed (by kernel_rfl) l.length (fun i S=>S.boxes=[(b1,.c (cH hd (zD l)))]∧S.rows=[]∧S.σ 1=ptr b1∧S.σ 3=vint (depthEs (l.take i))∧S.σ 4=vint i) ⟨0,?_⟩ (fun i S hi ⟨gb,gr,g1,g3,g4⟩=>?_) (fun S ⟨gb,gr,g1,g3,g4⟩=>?_)
  ·simp only [rB,Nat.reduceEqDiff]
   first | exact rfl | exact⟨rfl,rfl⟩
  ·have hwi:=qk (i:=i) (N:=l.length) hi (by omega)
   have hx:=List.getElem_mem hi
   have hd:=w8 hx
   have hc:=ih l[i] hx (ha _ hx) (by unfold big;omega)
   rw [vE,qx] at hc
   simp only [↓rA,rB,Nat.reduceAdd,Nat.reduceEqDiff,qx0,gb,g1,g3,g4,Int.ofNat_lt,hi,List.length_map,qd _ _ _ hi,qx]
   refine qg _ hc ?_
   simp only [↓rA,rB,Nat.reduceEqDiff,gr,g1,g4,hwi]
   refine⟨0,rfl,?_⟩
   rw [List.take_succ_eq_append_getElem hi,jZ]
   exact congrArg (fun n=>V.lit (.int .i64 n)) (by simp only [depthEs];split <;> omega)
  ·simp only [↓rA,rB,Nat.reduceAdd,Nat.reduceEqDiff,qx0,gb,gr,g1,g3,g4,Int.ofNat_lt,Nat.lt_irrefl,List.length_map]
   refine qa ?_
   rw [wL,List.take_of_length_le (Nat.le_refl _),zl (by omega) (by omega)]
   exact rfl
def qxz:=(aI (aI (aI Ty.t126 Ty.t29) (aI Ty.t3 Ty.t35)) (aI (aI Ty.t36 Ty.t38) (aI Ty.t40 Ty.t9)))
theorem VD:zc Tryz.prog 11 [] (vE tt):=by
 refine Ok.of_ex Ty.mixed Tryz.func11 rfl (by simp [Tryz.ntmps11]) (by kernel_rfl) fun F w0 I0=>?_
 simp only [↓rA,rB,qxz]
 refine fun b0 h0=>?_;replace h0:=qn h0;try simp only [Nb] at h0
 simp only [↓rA,rB,qb,Nat.reduceAdd,Nat.reduceLeDiff,reduceCtorEq,qxz,Tryz.results11]
 exact⟨_,[],[],leE (h:=hTT) (l:=[]) (Le.nil 2) (Le.nil 12),List.nil_sublist _,List.nil_sublist _,rfl,rfl,rfl⟩
end Go.Proofs.YtohdpcjaoiebkaaGreatDoor
set_option linter.unusedSimpArgs false
set_option maxRecDepth 100000
set_option linter.defProp false
namespace Go.Proofs.YtohdpcjaoiebkaaGreatDoor
open Go.VL Go.Ar Go.Lo Go.Proofs.YtohdpcjaoiebkaaGreatDoor
def qog:=(aI (aI Ty.t3 Ty.t4) (aI Ty.t69 Ty.t9))
theorem Wx (l:List Str) (s:Str) (hl:l.length≤1000000):zc Tryz.prog 140 [qm s,kr l] (qv (xP l s)):=by
 have fb:∀ {a b:Bool},a=b→V.lit (.bool a)=qv b:=fun h=>by rw [h]
 refine Ok.of_ex Ty.mixed Tryz.func140 rfl (by simp [Tryz.ntmps140]) (by kernel_rfl) fun F w0 I0=>?_
 simp only [↓rA,rB,Tryz.results140]
 refine qB Ty.mixed (by kernel_rfl) l.length (fun i S=>xP (l.take i) s=false∧S.boxes=[]∧S.rows=[]∧S.σ 0=qm s∧S.σ 1=kr l∧S.σ 5=vint i) ⟨0,?_⟩ (fun i S hi ⟨hf,gb,gr,g0,g1,g5⟩=>?_) (fun S ⟨hf,gb,gr,g0,g1,g5⟩=>?_)
 ·simp only [rB,Nat.reduceEqDiff,reduceCtorEq]
  first | exact rfl | exact⟨rfl,rfl⟩
 ·have hwi:=qk (i:=i) (N:=l.length) hi (by omega)
  by_cases e:l[i]=s
  ·simp only [↓rA,rB,Nat.reduceEqDiff,reduceCtorEq,qog,gb,gr,g0,g1,g5,Int.ofNat_lt,hi,List.length_map,qd _ _ _ hi,e]
   exact qa (fb (we.2 (by rw [← e];exact List.getElem_mem hi)).symm)
  ·simp only [↓rA,rB,Nat.reduceEqDiff,reduceCtorEq,qog,gb,gr,g0,g1,g5,Int.ofNat_lt,hi,List.length_map,qd _ _ _ hi,e,hwi]
   refine⟨0,?_⟩
   have:xP (l.take (i+1)) s=false:=by
    unfold xP at hf ⊢
    rw [List.take_succ_eq_append_getElem hi,List.any_append,hf]
    simp only [List.any_cons,List.any_nil,Bool.or_false,Bool.false_or]
    exact decide_eq_false fun h=>e h.symm
   first | exact this | exact⟨this,rfl⟩
 ·simp only [↓rA,rB,Nat.reduceEqDiff,qog,gb,gr,g1,g5,Int.ofNat_lt,Nat.lt_irrefl,List.length_map]
  rw [List.take_of_length_le (Nat.le_refl _)] at hf
  exact qa (fb hf.symm)
def qCf:=(aI Ty.t69 Ty.t9)
theorem VS:zc Tryz.prog 141 [] (kr uf):=by
 refine Ok.of_ex Ty.mixed Tryz.func141 rfl (by simp [Tryz.ntmps141]) (by kernel_rfl) fun F w0 I0=>?_
 simp only [↓rA,rB,Nat.reduceAdd,Nat.reduceLT,Nat.reduceLeDiff,Nat.reduceMul,qCf,Tryz.results141]
 exact fun y=>⟨_,[],[],Le.list _ _ _,List.nil_sublist _,List.nil_sublist _,rfl,rfl,rfl⟩
def qCe:=(aI Ty.t69 Ty.t9)
theorem Yf:zc Tryz.prog 159 [] (kr Qu):=by
 refine Ok.of_ex Ty.mixed Tryz.func159 rfl (by simp [Tryz.ntmps159]) (by kernel_rfl) fun F w0 I0=>?_
 simp only [↓rA,rB,Nat.reduceAdd,Nat.reduceLT,Nat.reduceLeDiff,Nat.reduceMul,qCe,Tryz.results159]
 exact fun y=>⟨_,[],[],Le.list _ _ _,List.nil_sublist _,List.nil_sublist _,rfl,rfl,rfl⟩
theorem leH {b:Hd} {u c:V} {y:List E} (hu:Le u (qG b.unit)) (hc:Le c (zD y)):Le (.agg (cHu b u c)) (.agg (cH b (zD y))) :=
 yj (.cons (Le.refl _) (.cons (Le.refl _) (.cons (Le.refl _) (.cons (Le.refl _) (.cons (Le.refl _) (.cons (Le.refl _) (.cons (Le.refl _) (.cons hu (.cons (Le.refl _) (.cons (Le.refl _) (.cons (Le.refl _) (.cons hc .nil))))))))))))
theorem ZK (a b:Hd) (x:List E) (u c:V) (ha:a.unit.length≤big) (hu:Le u (qG b.unit)) (hc:Le c (zD [])):zc Tryz.prog 27 [.agg (cH a (zD x)),.agg (cHu b u c)] (qv (decide (a=b))) :=
 Ok.le (.cons (Le.refl _) (.cons (leH hu hc) .nil)) (qis a b x [] ha)
def Yw:=(aI Ty.t3 (aI Ty.t38 Ty.t4))
theorem qji (wk ws:Int):zc Tryz.prog 160 [.agg [vint wk,vint ws]] (qv (zy wk ws)):=by
 have fb:∀ {a b:Bool},a=b→V.lit (.bool a)=qv b:=fun h=>by rw [h]
 refine Ok.of_ex Ty.mixed Tryz.func160 rfl (by simp [Tryz.ntmps160]) (by kernel_rfl) fun F w0 I0=>?_
 simp only [↓rA,rB,qf,Nat.reduceLT]
 refine fun b1 h1=>?_;replace h1:=qn h1;try simp only [Nb] at h1
 by_cases k1:wk=1
 ·subst k1
  by_cases e:ws=0
  ·simp only [↓rA,rB,Nat.reduceAdd,Nat.reduceEqDiff,Yw,Tryz.results160,e]
   exact qa (fb (by simp [zy]))
  ·simp only [↓rA,rB,Nat.reduceAdd,Nat.reduceEqDiff,Yw,Tryz.results160,e]
   exact qa (fb (by simp [zy,e]))
 by_cases a:(1:Int) < wk
 case neg =>
  simp only [↓rA,rB,Nat.reduceAdd,Nat.reduceEqDiff,Yw,Tryz.results160,k1,a]
  exact qa (fb (by rw [zy,if_pos (by omega)]))
 by_cases b:wk≤4
 case neg =>
  simp only [↓rA,rB,Nat.reduceAdd,Nat.reduceEqDiff,Yw,Tryz.results160,k1,a,b]
  exact qa (fb (by rw [zy,if_neg (by omega),if_pos (by omega)]))
 by_cases c:(1:Int)≤ws
 case neg =>
  simp only [↓rA,rB,Nat.reduceAdd,Nat.reduceEqDiff,Yw,Tryz.results160,k1,a,b,c]
  refine qa (fb ?_)
  rw [zy,if_neg (by omega),if_neg (by omega)]
  split
  ·rfl
  ·rename_i h
   have hne:¬ ws=0:=fun e=>h fun hh=>k1 (hh.2 e)
   rw [if_pos (by omega)]
 simp only [↓rA,rB,Nat.reduceAdd,Nat.reduceEqDiff,Yw,Tryz.results160,k1,a,b,c]
 refine qa (fb ?_)
 rw [zy,if_neg (by omega),if_neg (by omega),if_neg (fun h=>h ⟨fun h=>absurd h k1,fun h=>by omega⟩),if_neg (by omega)]
 by_cases d:ws≤1099511627776
 ·rw [decide_eq_true d,if_neg (by omega)]
 ·rw [decide_eq_false d,if_pos (by omega)]
def UN:=(aI (aI (aI Ty.c158 (aI Ty.c27 Ty.c38)) (aI (aI Ty.t126 Ty.t27) (aI Ty.t29 Ty.t3))) (aI (aI Ty.t35 (aI Ty.t36 Ty.t38)) (aI (aI Ty.t4 Ty.t40) (aI Ty.t43 Ty.t9))))
theorem qfu (h:Hd) (l:List E) (hu:h.unit.length≤big) (hk:h.kind=1):zc Tryz.prog 138 [.agg (cH h (zD l))] (qv (qH h false && decide (h=zd h))):=by
 have fb:∀ {a b:Bool},a=b→V.lit (.bool a)=qv b:=fun h=>by rw [h]
 have hw:zd h={ xn 1 with val:=h.val,unit:=h.unit,name:=h.name }:=by rw [zd,if_pos hk]
 have hv:=qt3 h.val
 have ht:=Zd h.val.kind h.unit h.name
 have hfl:=ZK h { xn 1 with val:=h.val,unit:=h.unit,name:=h.name } l (qG h.unit) nilS hu (Le.refl _) (Le.nil 12)
 rw [hw,qH,if_pos hk]
 refine Ok.of_ex Ty.mixed Tryz.func138 rfl (by simp [Tryz.ntmps138]) (by kernel_rfl) fun F w0 I0=>?_
 simp only [↓rA,rB,qf,Nat.reduceLT]
 refine fun b1 h1=>?_;replace h1:=qn h1;try simp only [Nb] at h1
 simp only [↓rA,rB,Nat.reduceAdd,Nat.reduceEqDiff,Nat.reduceLeDiff,UN]
 refine qg _ hv ?_
 by_cases e:xu h.val=0
 case neg =>
  simp only [↓rA,rB,Nat.reduceEqDiff,Tryz.results138,e]
  exact qa (fb (by simp []))
 by_cases e1:h.val.n < 0
 ·simp only [↓rA,rB,Nat.reduceAdd,Nat.reduceEqDiff,UN,Tryz.results138,e,e1]
  exact qa (fb (by simp []))
 simp only [↓rA,rB,qb,Nat.reduceAdd,Nat.reduceEqDiff,Nat.reduceLeDiff,UN,e,e1]
 refine fun b3 h3=>?_;replace h3:=qn h3;try simp only [Nb] at h3
 simp only [↓rA,rB,Nat.reduceAdd,Nat.reduceEqDiff,UN]
 refine qg _ ht ?_
 by_cases e2:zT h.val.kind h.unit h.name=0
 case neg =>
  simp only [↓rA,rB,Nat.reduceEqDiff,Tryz.results138,e2]
  exact qa (fb (by simp []))
 simp only [↓rA,rB,qb,Nat.reduceAdd,Nat.reduceEqDiff,Nat.reduceLeDiff,UN,h3,e2]
 refine qg _ hfl ?_
 simp only [↓rA,rB,Nat.reduceEqDiff,Tryz.results138,e2]
 exact qa (fb (by simp [e,e1]))
theorem qqa (h:Hd):xr h=(xP Qu h.op && qP h.table && decide (KB h.op≤h.param) && decide (h.param≤J9 h.op) && zy h.wk h.ws):=by
 unfold xr
 cases xP Qu h.op
 ·rfl
 cases qP h.table
 ·rfl
 simp only [Bool.true_eq_false,if_false,Bool.true_and]
 by_cases a:h.param < KB h.op
 ·rw [if_pos a,decide_eq_false (by omega)];rfl
 rw [if_neg a,decide_eq_true (show KB h.op≤h.param by omega)]
 by_cases b:J9 h.op < h.param
 ·rw [if_pos b,decide_eq_false (by omega)];rfl
 rw [if_neg b,decide_eq_true (show h.param≤J9 h.op by omega)]
 rfl
def KX:=(aI (aI (aI Ty.c140 (aI Ty.c159 Ty.c160)) (aI (aI Ty.c27 Ty.c37) (aI Ty.t126 Ty.t29))) (aI (aI (aI Ty.t3 Ty.t35) (aI Ty.t36 Ty.t38)) (aI (aI Ty.t4 Ty.t40) (aI Ty.t69 Ty.t9))))
theorem qs1 (h:Hd) (l:List E) (hu:h.unit.length≤big) (hk:h.kind=5):zc Tryz.prog 139 [.agg (cH h (zD l))] (qv (xr h && decide (h=zd h))):=by
 have fb:∀ {a b:Bool},a=b→V.lit (.bool a)=qv b:=fun h=>by rw [h]
 have hw:zd h={ xn 5 with op:=h.op,table:=h.table,param:=h.param,wk:=h.wk,ws:=h.ws }:=by simp [zd,hk]
 have hfl:=ZK h { xn 5 with op:=h.op,table:=h.table,param:=h.param,wk:=h.wk,ws:=h.ws } l nilS nilS hu (Le.nil 2) (Le.nil 12)
 rw [hw]
 refine Ok.of_ex Ty.mixed Tryz.func139 rfl (by simp [Tryz.ntmps139]) (by kernel_rfl) fun F w0 I0=>?_
 simp only [↓rA,rB,qf,Nat.reduceLT]
 refine fun b1 h1=>?_;replace h1:=qn h1;try simp only [Nb] at h1
 have cs:(decide (h.op=yv)=true∧decide (h.op=jQ)=false∧J9 h.op=1000∧KB h.op=1)∨(decide (h.op=yv)=false∧decide (h.op=jQ)=true∧J9 h.op=1073741824∧KB h.op=1)∨(decide (h.op=yv)=false∧decide (h.op=jQ)=false∧J9 h.op=0∧KB h.op=0):=by
  by_cases e1:h.op=yv
  ·exact .inl ⟨decide_eq_true e1,decide_eq_false (by rw [e1];decide),by rw [J9,if_pos e1],by rw [KB,if_pos e1]⟩
  by_cases e2:h.op=jQ
  ·exact .inr (.inl ⟨decide_eq_false e1,decide_eq_true e2,by rw [J9,if_neg e1,if_pos e2],by rw [KB,if_neg e1,if_pos e2]⟩)
  ·exact .inr (.inr ⟨decide_eq_false e1,decide_eq_false e2,by rw [J9,if_neg e1,if_neg e2],by rw [KB,if_neg e1,if_neg e2]⟩)
 rw [qqa]
 have m1:min (1000:Int) 1=1:=by decide
 have m2:min (1073741824:Int) 1=1:=by decide
 have m3:min (0:Int) 1=0:=by decide
 rcases cs with⟨q1,q2,q3,q4⟩ | ⟨q1,q2,q3,q4⟩ | ⟨q1,q2,q3,q4⟩ <;>
 (
   rw [q3,q4]
   simp only [↓rA,rB,Nat.reduceAdd,Nat.reduceEqDiff,KX,q1,q2]
   refine qF _ Yf.v ?_
   simp only [↓rA,rB,Nat.reduceEqDiff,KX]
   refine qF _ (Wx Qu h.op (by decide)).v ?_
   cases em:xP Qu h.op
   ·simp only [↓rA,rB,Nat.reduceEqDiff,Tryz.results139]
    exact qa (fb rfl)
   simp only [↓rA,rB,Nat.reduceAdd,Nat.reduceEqDiff,KX]
   refine qF _ (zJ h.table).v ?_
   cases en:qP h.table
   ·simp only [↓rA,rB,Nat.reduceEqDiff,Tryz.results139]
    exact qa (fb rfl)
   simp only [↓rA,rB,Nat.reduceAdd,Nat.reduceEqDiff,Nat.reduceLeDiff,KX]
   refine qF _ (qji h.wk h.ws).v ?_
   cases ew:zy h.wk h.ws
   ·simp only [↓rA,rB,Nat.reduceEqDiff,Tryz.results139]
    exact qa (fb (by simp))
   by_cases p1:J9 h.op < h.param
   ·have z:decide (h.param≤J9 h.op)=false:=decide_eq_false (by omega)
    rw [q3] at p1 z
    simp only [↓rA,rB,Nat.reduceAdd,Nat.reduceEqDiff,KX,Tryz.results139,p1]
    exact qa (fb (by rw [z];simp))
   have z:decide (h.param≤J9 h.op)=true:=decide_eq_true (by omega)
   by_cases p2:h.param < KB h.op
   ·have z2:decide (KB h.op≤h.param)=false:=decide_eq_false (by omega)
    rw [q3] at p1
    rw [q4] at p2 z2
    simp only [↓rA,rB,Int.reduceLT,Nat.reduceAdd,Nat.reduceEqDiff,KX,Tryz.results139,p1,p2]
    exact qa (fb (by rw [z2];simp))
   have z2:decide (KB h.op≤h.param)=true:=decide_eq_true (by omega)
   rw [q3] at p1 z
   rw [q4] at p2 z2
   simp only [↓rA,rB,qb,Int.reduceLT,Nat.reduceAdd,Nat.reduceEqDiff,Nat.reduceLeDiff,KX,p1,p2]
   refine qg _ hfl ?_
   simp only [↓rA,rB,Int.reduceLT,Tryz.results139]
   exact qa (fb (by rw [z,z2];rfl)))
def kC:=(aI (aI (aI (aI Ty.c138 Ty.c139) (aI Ty.c140 Ty.c141)) (aI (aI Ty.c27 Ty.c37) (aI Ty.t126 Ty.t29))) (aI (aI (aI Ty.t3 Ty.t35) (aI Ty.t36 Ty.t38)) (aI (aI Ty.t4 Ty.t40) (aI Ty.t69 Ty.t9))))
theorem qqb (h:Hd) (l:List E) (ins:Bool) (hu:h.unit.length≤big):zc Tryz.prog 111 [.agg (cH h (zD l)),qv ins] (.tup [vint (xt h.kind),qv (qH h ins && decide (h=zd h))]):=by
 have ft:∀ {n m:Int} {a b:Bool},n=m→a=b→V.tup [V.lit (.int .i64 n),V.lit (.bool a)]=.tup [vint m,qv b]:=fun h h'=>by rw [h,h']
 have hfn:=ZK h { xn h.kind with name:=h.name } l nilS nilS hu (Le.nil 2) (Le.nil 12)
 have hfo:=ZK h { xn h.kind with op:=h.op } l nilS nilS hu (Le.nil 2) (Le.nil 12)
 have hlit:=qfu h l hu
 have hagg:=qs1 h l hu
 obtain⟨k,op,na,ta,va,un,pa,wk,ws⟩:=h
 generalize hN:decide ((⟨k,op,na,ta,va,un,pa,wk,ws⟩:Hd)={ xn k with name:=na })=N at hfn
 generalize hO:decide ((⟨k,op,na,ta,va,un,pa,wk,ws⟩:Hd)={ xn k with op:=op })=O at hfo
 refine Ok.of_ex Ty.mixed Tryz.func111 rfl (by simp [Tryz.ntmps111]) (by kernel_rfl) fun F w0 I0=>?_
 simp only [↓rA,rB,qf,Nat.reduceLT]
 refine fun b2 h2=>?_;replace h2:=qn h2;try simp only [Nb] at h2
 simp only [↓z6,↓zA,↓xm,↓kp,xy,qs,wh,List.toList_toArray,Tryz.results111]
 refine kz (fun S=>S.boxes=[(b2,.c (cH ⟨k,op,na,ta,va,un,pa,wk,ws⟩ (zD l)))]∧S.rows=[]∧S.σ 1=qv ins∧S.σ 2=ptr b2∧S.σ 6=qv (qP na && N)) ?_ ?_
 ·simp only [↓rA,rB,Nat.reduceAdd,Nat.reduceEqDiff,kC]
  refine qg _ (zJ na) ?_
  cases en:qP na
  ·simp only [↓rA,rB,Nat.reduceEqDiff]
  ·simp only [↓rA,rB,qb,Nat.reduceAdd,Nat.reduceEqDiff,Nat.reduceLeDiff,kC]
   refine qg _ hfn ?_
   simp only [↓rA,rB,Nat.reduceEqDiff]
   first | done | exact⟨rfl,rfl⟩ | exact rfl
 rintro S ⟨gb,gr,g1,g2,g6⟩
 simp only [↓rA,rB,qb,Nat.reduceAdd,Nat.reduceEqDiff,Nat.reduceLeDiff,kC,gb,g2]
 refine qg _ hfo ?_
 by_cases k1:k=1
 ·subst k1
  simp only [↓rA,rB,Nat.reduceAdd,Nat.reduceEqDiff,kC,gr,g2]
  refine qg _ (hlit rfl) ?_
  simp only [↓rA,rB,Nat.reduceEqDiff,gr]
  exact qa (ft rfl rfl)
 by_cases k2:k=2
 ·subst k2
  simp only [↓rA,rB,Int.reduceEq,Nat.reduceAdd,Nat.reduceEqDiff,kC,gr,g1,g2]
  cases ins
  ·simp only [↓rA,rB,Nat.reduceEqDiff,gr]
   exact qa (ft rfl (by simp [qH]))
  ·simp only [↓rA,rB,Nat.reduceEqDiff,gr,g6]
   exact qa (ft rfl (by rw [← hN];simp [qH,zd]))
 by_cases k3:k=3
 ·subst k3
  cases ins
  ·simp only [↓rA,rB,Int.reduceEq,Nat.reduceAdd,Nat.reduceEqDiff,kC,gr,g1,g2,g6]
   exact qa (ft rfl (by rw [← hN];simp [qH,zd]))
  ·simp only [↓rA,rB,Int.reduceEq,Nat.reduceAdd,Nat.reduceEqDiff,kC,gr,g1,g2]
   exact qa (ft rfl (by simp [qH]))
 by_cases k4:k=4
 ·subst k4
  cases ins
  ·simp only [↓rA,rB,Int.reduceEq,Nat.reduceAdd,Nat.reduceEqDiff,kC,gr,g1,g2,g6]
   exact qa (ft rfl (by rw [← hN];simp [qH,zd]))
  ·simp only [↓rA,rB,Int.reduceEq,Nat.reduceAdd,Nat.reduceEqDiff,kC,gr,g1,g2]
   exact qa (ft rfl (by simp [qH]))
 by_cases k5:k=5
 ·subst k5
  cases ins
  ·simp only [↓rA,rB,Int.reduceEq,Nat.reduceAdd,Nat.reduceEqDiff,kC,gr,g1,g2]
   refine qg _ (hagg rfl) ?_
   simp only [↓rA,rB,Nat.reduceEqDiff,gr]
   exact qa (ft rfl (by simp [qH]))
  ·simp only [↓rA,rB,Int.reduceEq,Nat.reduceAdd,Nat.reduceEqDiff,kC,gr,g1,g2]
   exact qa (ft rfl (by simp [qH]))
 by_cases k6:k=6
 ·subst k6
  cases O
  ·simp only [↓rA,rB,Int.reduceEq,Nat.reduceAdd,Nat.reduceEqDiff,kC,gr,g2]
   exact qa (ft rfl (by rw [show decide ((⟨6,op,na,ta,va,un,pa,wk,ws⟩:Hd)=zd ⟨6,op,na,ta,va,un,pa,wk,ws⟩)=false from hO];simp))
  ·simp only [↓rA,rB,Int.reduceEq,Nat.reduceAdd,Nat.reduceEqDiff,Nat.reduceLT,Nat.reduceLeDiff,Nat.reduceMul,kC,gr,g2]
   refine fun y=>qg _ (Ok.le (.cons (Le.refl _) (.cons (Le.list _ _ _) .nil)) (Wx unL op (by decide))) ?_
   simp only [↓rA,rB,Nat.reduceEqDiff,gr]
   exact qa (ft rfl (by rw [show decide ((⟨6,op,na,ta,va,un,pa,wk,ws⟩:Hd)=zd ⟨6,op,na,ta,va,un,pa,wk,ws⟩)=true from hO];simp [qH]))
 by_cases k7:k=7
 ·subst k7
  cases O
  ·simp only [↓rA,rB,Int.reduceEq,Nat.reduceAdd,Nat.reduceEqDiff,kC,gr,g2]
   exact qa (ft rfl (by rw [show decide ((⟨7,op,na,ta,va,un,pa,wk,ws⟩:Hd)=zd ⟨7,op,na,ta,va,un,pa,wk,ws⟩)=false from hO];simp))
  ·simp only [↓rA,rB,Int.reduceEq,Nat.reduceAdd,Nat.reduceEqDiff,kC,gr,g2]
   refine qF _ VS.v ?_
   simp only [↓rA,rB,Nat.reduceEqDiff,kC,gr]
   refine qF _ (Wx uf op (by decide)).v ?_
   simp only [↓rA,rB,Nat.reduceEqDiff,gr]
   exact qa (ft rfl (by rw [show decide ((⟨7,op,na,ta,va,un,pa,wk,ws⟩:Hd)=zd ⟨7,op,na,ta,va,un,pa,wk,ws⟩)=true from hO];simp [qH]))
 have bare:∀ k:Int,(k=8∨k=9)→(decide ((⟨k,op,na,ta,va,un,pa,wk,ws⟩:Hd)={ xn k with op:=op }) && decide (op=es0))=(qH ⟨k,op,na,ta,va,un,pa,wk,ws⟩ ins && decide ((⟨k,op,na,ta,va,un,pa,wk,ws⟩:Hd)=zd ⟨k,op,na,ta,va,un,pa,wk,ws⟩)):=by
  rintro k (rfl | rfl)
  ·rw [show qH ⟨8,op,na,ta,va,un,pa,wk,ws⟩ ins=true from rfl,show zd ⟨8,op,na,ta,va,un,pa,wk,ws⟩=xn 8 from rfl,Bool.true_and]
   by_cases e:op=es0
   ·subst e;simp
   ·rw [decide_eq_false e,Bool.and_false,decide_eq_false (fun h=>e (congrArg Hd.op h))]
  ·rw [show qH ⟨9,op,na,ta,va,un,pa,wk,ws⟩ ins=true from rfl,show zd ⟨9,op,na,ta,va,un,pa,wk,ws⟩=xn 9 from rfl,Bool.true_and]
   by_cases e:op=es0
   ·subst e;simp
   ·rw [decide_eq_false e,Bool.and_false,decide_eq_false (fun h=>e (congrArg Hd.op h))]
 by_cases k8:k=8
 ·subst k8
  have hb:=bare 8 (.inl rfl)
  rw [hO] at hb
  cases O
  ·simp only [↓rA,rB,Int.reduceEq,Nat.reduceAdd,Nat.reduceEqDiff,kC,gr,g2]
   exact qa (ft rfl (by rw [← hb];rfl))
  ·simp only [↓rA,rB,Int.reduceEq,Nat.reduceAdd,Nat.reduceEqDiff,kC,gr,g2]
   exact qa (ft rfl (by rw [← hb];rfl))
 by_cases k9:k=9
 ·subst k9
  have hb:=bare 9 (.inr rfl)
  rw [hO] at hb
  cases O
  ·simp only [↓rA,rB,Int.reduceEq,Nat.reduceAdd,Nat.reduceEqDiff,kC,gr,g2]
   exact qa (ft rfl (by rw [← hb];rfl))
  ·simp only [↓rA,rB,Int.reduceEq,Nat.reduceAdd,Nat.reduceEqDiff,kC,gr,g2]
   exact qa (ft rfl (by rw [← hb];rfl))
 simp only [↓rA,rB,Nat.reduceAdd,Nat.reduceEqDiff,kC,gr,g2,k1,k2,k3,k4,k5,k6,k7,k8,k9]
 exact qa (ft (by simp [xt,k4,k5,k6,k7,k8,k9]) (by simp [qH,k1,k2,k3,k4,k5,k6,k7,k8,k9]))
end Go.Proofs.YtohdpcjaoiebkaaGreatDoor
set_option linter.unusedSimpArgs false
set_option maxRecDepth 100000
set_option linter.defProp false
namespace Go.Proofs.YtohdpcjaoiebkaaGreatDoor
open Go.VL Go.Ar Go.Lo Go.Proofs.YtohdpcjaoiebkaaGreatDoor
theorem qax {a:E} {ins:Bool} (hp:qS a ins=true):decide (a=tt)=decide (a.hd=hdTrue):=by
 by_cases e:a.hd=hdTrue
 ·rw [decide_eq_true e]
  refine decide_eq_true ?_
  obtain⟨h,l⟩:=a
  simp only [E.hd] at e
  subst e
  obtain⟨_,_,p3,_,_⟩:=xF hp
  have:(l.length:Int)=0:=p3
  have:l=[]:=List.length_eq_zero_iff.1 (by omega)
  rw [this]
 ·rw [decide_eq_false e]
  exact decide_eq_false fun h=>e (by rw [h];rfl)
theorem QD {l:List E} {i:Nat} {ins:Bool} (h:i < l.length):properEs (l.take (i+1)) ins=(properEs (l.take i) ins && qS l[i] ins):=by
 rw [List.take_succ_eq_append_getElem h,kH]
 simp [properEs]
theorem JW {l:List E} {i:Nat} {ins:Bool} (h:i < l.length) (hp:qS l[i] ins=false):properEs l ins=false:=by
 rw [← List.take_append_drop (i+1) l,kH,QD h,hp]
 simp
def Zg:=(aI (aI (aI Ty.c11 (aI Ty.c111 Ty.c74)) (aI (aI Ty.c9 Ty.t126) (aI Ty.t138 Ty.t29))) (aI (aI Ty.t3 (aI Ty.t35 Ty.t36)) (aI (aI Ty.t38 Ty.t4) (aI Ty.t40 Ty.t9))))
theorem qvr:∀ x:E,∀ ins:Bool,kI x→zc Tryz.prog 74 [vE x,qv ins] (qv (qS x ins)):=by
 have fb:∀ {a b:Bool},a=b→V.lit (.bool a)=qv b:=fun h=>by rw [h]
 intro x
 induction x using E.ind with
 | h hd l ih =>
 intro ins hf
 have hl:=hf.len
 have hu:=hf.unit
 have ha:=hf.args
 simp only [E.args,E.hd] at hl hu ha
 unfold big at hl
 rw [vE,zq,vv]
 refine Ok.of_ex Ty.mixed Tryz.func74 rfl (by simp [Tryz.ntmps74]) (by kernel_rfl) fun F w0 I0=>?_
 simp only [↓rA,rB,qf,Nat.reduceLT]
 refine fun b2 h2=>?_;replace h2:=qn h2;try simp only [Nb] at h2
 simp only [↓rA,rB,Nat.reduceAdd,Nat.reduceEqDiff,Zg]
 refine qg _ (qqb hd l ins hu) ?_
 cases e:(qH hd ins && decide (hd=zd hd))
 ·simp only [↓rA,rB,Nat.reduceEqDiff,Tryz.results74]
  exact qa (fb (by simp))
 by_cases el:(l.length:Int)=xt hd.kind
 case neg =>
  simp only [↓rA,rB,Nat.reduceAdd,Nat.reduceEqDiff,Zg,Tryz.results74,List.length_map,el]
  exact qa (fb (by simp []))
 simp only [↓rA,rB,Nat.reduceAdd,Nat.reduceEqDiff,Zg,Tryz.results74,List.length_map,el]
 refine qB Ty.mixed (by kernel_rfl) l.length (fun i S=>properEs (l.take i) (ins || decide (hd.kind=5))=true∧S.boxes=[(b2,.c (cH hd (zD l)))]∧S.rows=[]∧S.σ 1=qv ins∧S.σ 2=ptr b2∧S.σ 5=vint l.length∧S.σ 7=vint i) ⟨0,?_⟩ (fun i S hi ⟨hp,gb,gr,g1,g2,g5,g7⟩=>?_) (fun S ⟨hp,gb,gr,g1,g2,g5,g7⟩=>?_)
 ·simp only [rB,Nat.reduceEqDiff,el]
  first | done | exact rfl | exact⟨rfl,rfl⟩ | exact⟨rfl,rfl,rfl⟩
 ·have hwi:=qk (i:=i) (N:=l.length) hi (by omega)
  have hx:=List.getElem_mem hi
  have ht:=QD (ins:=ins || decide (hd.kind=5)) hi
  have hb:=JW (ins:=ins || decide (hd.kind=5)) hi
  have hc:=ih l[i] hx (ins || decide (hd.kind=5)) (ha _ hx)
  rw [vE,qx] at hc
  cases ins
  ·simp only [Bool.false_or] at hc ht hb hp ⊢
   simp only [↓rA,rB,Nat.reduceAdd,Nat.reduceEqDiff,Zg,gb,g1,g2,g5,g7,Int.ofNat_lt,hi,List.length_map,qd _ _ _ hi,qx]
   refine qF _ hc.v ?_
   cases q:qS l[i] (decide (hd.kind=5))
   ·simp only [↓rA,rB,gb,gr]
    exact qa (fb (by rw [hb q];simp))
   ·simp only [↓rA,rB,Nat.reduceEqDiff,gb,gr,g1,g2,g5,g7,hwi]
    exact⟨0,by rw [ht,hp,q];rfl,rfl⟩
  ·simp only [Bool.true_or] at hc ht hb hp ⊢
   simp only [↓rA,rB,Nat.reduceAdd,Nat.reduceEqDiff,Zg,gb,g1,g2,g5,g7,Int.ofNat_lt,hi,List.length_map,qd _ _ _ hi,qx]
   refine qF _ hc.v ?_
   cases q:qS l[i] true
   ·simp only [↓rA,rB,gb,gr]
    exact qa (fb (by rw [hb q];simp))
   ·simp only [↓rA,rB,Nat.reduceEqDiff,gb,gr,g1,g2,g5,g7,hwi]
    exact⟨0,by rw [ht,hp,q];rfl,rfl⟩
 ·rw [List.take_of_length_le (Nat.le_refl _)] at hp
  rw [hp]
  simp only [Bool.true_and]
  by_cases k5:hd.kind=5
  case neg =>
   simp only [↓rA,rB,Nat.reduceAdd,Nat.reduceEqDiff,Zg,gb,gr,g2,g5,g7,Int.ofNat_lt,Nat.lt_irrefl,k5]
   exact qa (fb (by unfold kg;simp [k5]))
  by_cases kc:hd.op=yw
  case neg =>
   simp only [↓rA,rB,Nat.reduceAdd,Nat.reduceEqDiff,Zg,gb,gr,g2,g5,g7,Int.ofNat_lt,Nat.lt_irrefl,k5,kc]
   exact qa (fb (by unfold kg;rw [if_neg kc]))
  have l2:l.length=2:=by
   rw [k5] at el
   have:(l.length:Int)=2:=el
   omega
  match l,l2,hp,ha with
  | [a,c],_,hp,ha =>
  have hpa:qS a (ins || decide (hd.kind=5))=true:=jt _ _ |>.1 hp a List.mem_cons_self
  have hs:=Zu a (ha a List.mem_cons_self) tt
  rw [qax hpa] at hs
  have ht:=VD
  rw [vE,qx] at hs
  rw [vE,zq] at ht
  have hco:kg hd [a,c]=decide (a.hd=hdTrue):=by unfold kg;rw [if_pos kc,if_pos k5]
  rw [hco]
  rw [vE,zq] at hs
  simp only [↓rA,rB,Int.reduceToNat,Nat.reduceAdd,Nat.reduceEqDiff,Zg,gb,g2,g5,g7,Int.ofNat_lt,Nat.lt_irrefl,k5,kc,qx a]
  refine qF _ ht.v ?_
  simp only [↓rA,rB,Nat.reduceEqDiff,Zg]
  refine qF _ hs.v ?_
  simp only [↓rA,rB,Nat.reduceEqDiff]
  exact qa rfl
def qof:=(aI (aI (aI Ty.c72 (aI Ty.c73 Ty.c74)) (aI Ty.t126 (aI Ty.t27 Ty.t29))) (aI (aI Ty.t3 (aI Ty.t35 Ty.t36)) (aI (aI Ty.t38 Ty.t4) (aI Ty.t40 Ty.t9))))
theorem YO (x:E) (hf:kI x) (hb:qZ x≤big):zc Tryz.prog 39 [vE x] (vint (qY x)):=by
 have fi:∀ {a b:Int},a=b→V.lit (.int .i64 a)=vint b:=fun h=>by rw [h]
 have hs:=qpi x hf
 have hd:=qmc x hf hb
 have hp:=qvr x false hf
 rw [vE,qx] at hs hd hp ⊢
 refine Ok.of_ex Ty.mixed Tryz.func39 rfl (by simp [Tryz.ntmps39]) (by kernel_rfl) fun F w0 I0=>?_
 simp only [↓rA,rB,qf,Nat.reduceLT]
 refine fun b1 h1=>?_;replace h1:=qn h1;try simp only [Nb] at h1
 simp only [↓rA,rB,Nat.reduceAdd,Nat.reduceEqDiff,qof]
 refine qg _ hs ?_
 by_cases e1:64 < IntKind.i64.wrap (zj x:Int)
 ·simp only [↓rA,rB,Nat.reduceEqDiff,Tryz.results39,e1]
  exact qa (fi (by rw [qY,if_pos e1]))
 simp only [↓rA,rB,Nat.reduceAdd,Nat.reduceEqDiff,qof,e1]
 refine qg _ hd ?_
 by_cases e2:12 < qZ x
 ·have e2':(12:Int) < qZ x:=by omega
  simp only [↓rA,rB,Nat.reduceEqDiff,Tryz.results39,e2']
  exact qa (fi (by rw [qY,if_neg e1,if_pos e2]))
 have e2':¬ (12:Int) < qZ x:=by omega
 simp only [↓rA,rB,Nat.reduceAdd,Nat.reduceEqDiff,qof,e2']
 refine qg _ hp ?_
 cases e3:qS x false
 ·simp only [↓rA,rB,Tryz.results39]
  exact qa (fi (by rw [qY,if_neg e1,if_neg e2,if_neg (by rw [e3];decide)]))
 ·simp only [↓rA,rB,Tryz.results39]
  exact qa (fi (by rw [qY,if_neg e1,if_neg e2,if_pos e3]))
end Go.Proofs.YtohdpcjaoiebkaaGreatDoor
set_option linter.unusedSimpArgs false
set_option maxRecDepth 100000
namespace Go.Lo
open Go.VL Go.Ar
abbrev Qm (t:Typ):V:=.agg [vint t.kind,qG t.unit,qm t.of]
abbrev qD6:Typ:=⟨0,[],es0⟩
abbrev tab0:Tab:=⟨es0,es0,[],0⟩
abbrev ftr0:Ftr:=⟨es0,es0,qD6,exp0,0⟩
structure Chg where
 kind:Int
 table:Tab
 feature:Ftr
 name:Str
noncomputable instance:DecidableEq Chg:=fun a b=>Classical.propDecidable (a=b)
end Go.Lo
namespace Go.Proofs.YtohdpcjaoiebkaaGreatDoor
open Go.VL Go.Ar Go.Lo Go.Proofs.YtohdpcjaoiebkaaGreatDoor
def wv (t:Typ):Prop:=t.unit.length≤big
def Ks (t:Tab):Prop:=t.fields.length≤big∧∀ f ∈ t.fields,wv f.typ
def qdv (f:Ftr):Prop:=wv f.typ∧kI f.body
end Go.Proofs.YtohdpcjaoiebkaaGreatDoor
set_option linter.unusedSimpArgs false
set_option maxRecDepth 100000
namespace Go.Lo
open Go.VL Go.Ar
end Go.Lo
namespace Go.Proofs.YtohdpcjaoiebkaaGreatDoor
open Go.VL Go.Ar Go.Lo Go.Proofs.YtohdpcjaoiebkaaGreatDoor
abbrev OkB (P:Program) (f:FuncId) (zs:List V):Prop:=Ok P f zs [] fun v bs rs=>(∃ b:Bool,v=qv b)∧bs=[]∧rs=[]
abbrev OkI (P:Program) (f:FuncId) (zs:List V):Prop:=Ok P f zs [] fun v bs rs=>(∃ n:Int,v=vint n)∧bs=[]∧rs=[]
abbrev zFt:List V:=[qm es0,qm es0,vint 0,nilS,qm es0,vint 0,qm es0,qm es0,qm es0,vint 0,vint 0,qm es0,nilS,vint 0,vint 0,vint 0,nilS,vint 0]
theorem qAi:Le (.agg zFt) (.agg (uN ftr0)) :=
 yj (.cons (Le.refl _) (.cons (Le.refl _) (.cons (Le.refl _) (.cons (Le.nil 2) (.cons (Le.refl _) (.cons (Le.refl _) (.cons (Le.refl _) (.cons (Le.refl _) (.cons (Le.refl _) (.cons (Le.refl _) (.cons (Le.refl _) (.cons (Le.refl _) (.cons (Le.nil 2) (.cons (Le.refl _) (.cons (Le.refl _) (.cons (Le.refl _) (.cons (Le.nil 12) (.cons (Le.refl _) .nil))))))))))))))))))
def kF (s:Str):Bool:=!decide (s=es0) && (decide (s.size≤32) && s.data.toList.all (zM 33))
end Go.Proofs.YtohdpcjaoiebkaaGreatDoor
set_option linter.unusedSimpArgs false
set_option maxRecDepth 100000
namespace Go.Proofs.YtohdpcjaoiebkaaGreatDoor
open Go.VL Go.Ar Go.Lo Go.Proofs.YtohdpcjaoiebkaaGreatDoor
end Go.Proofs.YtohdpcjaoiebkaaGreatDoor
set_option linter.unusedSimpArgs false
set_option maxRecDepth 100000
set_option linter.defProp false
namespace Go.Proofs.YtohdpcjaoiebkaaGreatDoor
open Go.VL Go.Ar Go.Lo Go.Proofs.YtohdpcjaoiebkaaGreatDoor
abbrev UA (P:Program) (f:FuncId) (zs:List V):Prop:=Ok P f zs [] fun v bs rs=>(∃ (t:Typ) (n:Int),v=.tup [Qm t,vint n]∧wv t)∧bs=[]∧rs=[]
theorem zY (k:Int) (u:V) (uu:List kK) (o:Str) (n:Int) (X:List (Nat × B)) (Y:List Row) (hu:Le u (qG uu)) (hl:uu.length≤big) :
  ∃ v bs' rs',Le (.tup [.agg [vint k,u,qm o],vint n]) v∧bs'.Sublist X∧rs'.Sublist Y∧(∃ (t:Typ) (n:Int),v=.tup [Qm t,vint n]∧wv t)∧bs'=[]∧rs'=[] :=
 ⟨_,[],[],yV (.cons (yj (.cons (Le.refl _) (.cons hu (.cons (Le.refl _) .nil)))) (.cons (Le.refl _) .nil)),List.nil_sublist _,List.nil_sublist _,⟨⟨k,uu,o⟩,n,rfl,hl⟩,rfl,rfl⟩
theorem zG (k:Int) (o:Str) (n:Int) (X:List (Nat × B)) (Y:List Row) :
  ∃ v bs' rs',Le (.tup [.agg [vint k,nilS,qm o],vint n]) v∧bs'.Sublist X∧rs'.Sublist Y∧(∃ (t:Typ) (n:Int),v=.tup [Qm t,vint n]∧wv t)∧bs'=[]∧rs'=[] :=
 zY k nilS [] o n X Y (Le.nil 2) (by simp [big])
theorem ZN (n:Int) (X:List (Nat × B)) (Y:List Row):∃ v bs' rs',Le (vint n) v∧bs'.Sublist X∧rs'.Sublist Y∧(∃ n:Int,v=vint n)∧bs'=[]∧rs'=[] :=
 ⟨_,[],[],Le.refl _,List.nil_sublist _,List.nil_sublist _,⟨n,rfl⟩,rfl,rfl⟩
def K6:=(aI (aI (aI Ty.c58 Ty.t126) (aI Ty.t27 Ty.t3)) (aI (aI Ty.t36 Ty.t4) (aI Ty.t43 Ty.t9)))
theorem Uo (a b:Typ) (ha:wv a):OkI Tryz.prog 41 [Qm a,Qm b]:=by
 refine Ok.of_ex Ty.mixed Tryz.func41 rfl (by simp [Tryz.ntmps41]) (by kernel_rfl) fun F w0 I0=>?_
 simp only [↓rA,rB,qf,Nat.reduceLT]
 refine fun b1 h1=>?_;replace h1:=qn h1;try simp only [Nb] at h1
 simp only [↓rA,rB,qf,Nat.reduceEqDiff,Nat.reduceLT]
 refine fun b2 h2=>?_;replace h2:=qn h2;try simp only [Nb] at h2
 simp only [↓rA,rB,Nat.reduceAdd,Nat.reduceEqDiff,K6,h2]
 repeat' (first
  | (refine qe (fun hc=>?_) (fun hc=>?_) <;> (first | (subst hc;try simp only [↓rA,rB,qb,qf,Int.reduceEq,Int.reduceLE,Int.reduceLT,Int.reduceToNat,Nat.reduceAdd,Nat.reduceEqDiff,Nat.reduceLT,Nat.reduceLeDiff,Nat.reduceMul,Nat.reduceSub,reduceCtorEq,K6,Tryz.results41,h1,h2]) | (try simp only [↓rA,rB,Nat.reduceAdd,Nat.reduceEqDiff,K6,Tryz.results41,h2,hc])))
  | (refine qr (fun hc=>?_) (fun hc=>?_) <;> (first | (subst hc;try simp only [↓rA,rB,qb,qf,Int.reduceEq,Int.reduceLE,Int.reduceLT,Int.reduceToNat,Nat.reduceAdd,Nat.reduceEqDiff,Nat.reduceLT,Nat.reduceLeDiff,Nat.reduceMul,Nat.reduceSub,reduceCtorEq,K6,Tryz.results41,h1,h2]) | (try simp only [↓rA,rB,qb,qf,Int.reduceEq,Int.reduceLE,Int.reduceLT,Int.reduceToNat,Nat.reduceAdd,Nat.reduceEqDiff,Nat.reduceLT,Nat.reduceLeDiff,Nat.reduceMul,Nat.reduceSub,reduceCtorEq,K6,Tryz.results41,h1,h2,hc])))
  | (refine qq (fun hc=>?_) (fun hc=>?_) <;> (first | (subst hc;try simp only [↓rA,rB,qb,qf,Int.reduceEq,Int.reduceLE,Int.reduceLT,Int.reduceToNat,Nat.reduceAdd,Nat.reduceEqDiff,Nat.reduceLT,Nat.reduceLeDiff,Nat.reduceMul,Nat.reduceSub,reduceCtorEq,K6,Tryz.results41,h1,h2]) | (try simp only [↓rA,rB,Nat.reduceAdd,Nat.reduceEqDiff,K6,Tryz.results41,h2,hc])))
  | (refine qg _ (xj _ _ ha) ?_;try simp only [↓rA,rB])
  | exact ZN _ _ _)
def YB:=(aI (aI Ty.c58 (aI Ty.t126 Ty.t3)) (aI (aI Ty.t36 Ty.t4) (aI Ty.t43 Ty.t9)))
theorem zO (a b:Typ) (ha:wv a):OkB Tryz.prog 161 [Qm a,Qm b]:=by
 refine Ok.of_ex Ty.mixed Tryz.func161 rfl (by simp [Tryz.ntmps161]) (by kernel_rfl) fun F w0 I0=>?_
 simp only [↓rA,rB,qf,Nat.reduceLT]
 refine fun b1 h1=>?_;replace h1:=qn h1;try simp only [Nb] at h1
 simp only [↓rA,rB,qf,Nat.reduceEqDiff,Nat.reduceLT]
 refine fun b2 h2=>?_;replace h2:=qn h2;try simp only [Nb] at h2
 simp only [↓rA,rB,Nat.reduceAdd,Nat.reduceEqDiff,YB,h2]
 repeat' (first
  | (refine qe (fun hc=>?_) (fun hc=>?_) <;> (first | (subst hc;try simp only [↓rA,rB,qb,qf,Int.reduceEq,Int.reduceLE,Int.reduceLT,Int.reduceToNat,Nat.reduceAdd,Nat.reduceEqDiff,Nat.reduceLT,Nat.reduceLeDiff,Nat.reduceMul,Nat.reduceSub,reduceCtorEq,YB,Tryz.results161,h1,h2]) | (try simp only [↓rA,rB,Nat.reduceEqDiff,Tryz.results161,hc])))
  | (refine qr (fun hc=>?_) (fun hc=>?_) <;> (first | (subst hc;try simp only [↓rA,rB,qb,qf,Int.reduceEq,Int.reduceLE,Int.reduceLT,Int.reduceToNat,Nat.reduceAdd,Nat.reduceEqDiff,Nat.reduceLT,Nat.reduceLeDiff,Nat.reduceMul,Nat.reduceSub,reduceCtorEq,YB,Tryz.results161,h1,h2]) | (try simp only [↓rA,rB,Nat.reduceAdd,Nat.reduceEqDiff,YB,Tryz.results161,h2,hc])))
  | (refine qq (fun hc=>?_) (fun hc=>?_) <;> (first | (subst hc;try simp only [↓rA,rB,qb,qf,Int.reduceEq,Int.reduceLE,Int.reduceLT,Int.reduceToNat,Nat.reduceAdd,Nat.reduceEqDiff,Nat.reduceLT,Nat.reduceLeDiff,Nat.reduceMul,Nat.reduceSub,reduceCtorEq,YB,Tryz.results161,h1,h2]) | (try simp only [↓rA,rB,qb,qf,Int.reduceEq,Int.reduceLE,Int.reduceLT,Int.reduceToNat,Nat.reduceAdd,Nat.reduceEqDiff,Nat.reduceLT,Nat.reduceLeDiff,Nat.reduceMul,Nat.reduceSub,reduceCtorEq,YB,Tryz.results161,h1,h2,hc])))
  | (refine qg _ (xj _ _ ha) ?_;try simp only [↓rA,rB,Nat.reduceEqDiff])
  | exact⟨_,[],[],Le.refl _,List.nil_sublist _,List.nil_sublist _,⟨_,rfl⟩,rfl,rfl⟩)
def uq:=(aI (aI (aI Ty.c140 (aI Ty.c70 Ty.t126)) (aI (aI Ty.t27 Ty.t29) (aI Ty.t3 Ty.t35))) (aI (aI Ty.t36 (aI Ty.t38 Ty.t4)) (aI (aI Ty.t40 Ty.t43) (aI Ty.t69 Ty.t9))))
theorem qe1 (x:E) (a c:Typ) (ha:wv a):UA Tryz.prog 144 [vE x,Qm a,Qm c]:=by
 simp only [vE,qx]
 refine Ok.of_ex Ty.mixed Tryz.func144 rfl (by simp [Tryz.ntmps144]) (by kernel_rfl) fun F w0 I0=>?_
 simp only [↓rA,rB,qf,Nat.reduceLT]
 refine fun b1 h1=>?_;replace h1:=qn h1;try simp only [Nb] at h1
 simp only [↓rA,rB,qf,Nat.reduceEqDiff,Nat.reduceLT]
 refine fun b2 h2=>?_;replace h2:=qn h2;try simp only [Nb] at h2
 simp only [↓rA,rB,qf,Nat.reduceEqDiff,Nat.reduceLT]
 refine fun b3 h3=>?_;replace h3:=qn h3;try simp only [Nb] at h3
 simp only [↓rA,rB,uq]
 refine fun b6 h6=>?_;replace h6:=qn h6;try simp only [Nb] at h6
 simp only [↓rA,rB,Nat.reduceAdd,Nat.reduceEqDiff,uq,h6]
 by_cases e:c.kind=1
 case neg =>
  simp only [↓rA,rB,qb,Nat.reduceAdd,Nat.reduceEqDiff,uq,Tryz.results144,e]
  exact zG _ _ _ _ _
 simp only [↓rA,rB,Nat.reduceAdd,Nat.reduceEqDiff,Nat.reduceLT,Nat.reduceLeDiff,Nat.reduceMul,uq,h2,h3,h6,e]
 intro y1
 refine qg _ (Ok.le (.cons (Le.refl _) (.cons (Le.list _ _ _) .nil)) (Wx [⟨#[115,117,109]⟩,⟨#[109,101,97,110]⟩,⟨#[113,117,97,110,116,105,108,101]⟩,⟨#[100,101,99,97,121]⟩] x.hd.op (by decide))) ?_
 simp only [↓rA,rB,Nat.reduceAdd,Nat.reduceEqDiff,Nat.reduceLT,Nat.reduceLeDiff,Nat.reduceMul,uq,h2,h3,h6]
 intro y2
 refine qg _ (Ok.le (.cons (Le.refl _) (.cons (Le.list _ _ _) .nil)) (Wx [⟨#[109,105,110]⟩,⟨#[109,97,120]⟩] x.hd.op (by decide))) ?_
 simp only [↓rA,rB,Nat.reduceEqDiff]
 generalize xP [⟨#[115,117,109]⟩,⟨#[109,101,97,110]⟩,⟨#[113,117,97,110,116,105,108,101]⟩,⟨#[100,101,99,97,121]⟩] x.hd.op=p
 generalize xP [⟨#[109,105,110]⟩,⟨#[109,97,120]⟩] x.hd.op=q
 repeat' (first
  | (refine qe (fun hc=>?_) (fun hc=>?_) <;> (first | (subst hc;try simp only [↓rA,rB,qb,qf,Int.reduceEq,Int.reduceLE,Int.reduceLT,Int.reduceToNat,Nat.reduceAdd,Nat.reduceEqDiff,Nat.reduceLT,Nat.reduceLeDiff,Nat.reduceMul,Nat.reduceSub,reduceCtorEq,uq,Tryz.results144,h1,h2,h3,h6]) | (try simp only [↓rA,rB,qb,Nat.reduceAdd,Nat.reduceEqDiff,Nat.reduceLeDiff,uq,Tryz.results144,h2,h3,h6,hc])))
  | (refine qr (fun hc=>?_) (fun hc=>?_) <;> (first | (subst hc;try simp only [↓rA,rB,Nat.reduceAdd,Nat.reduceEqDiff,uq,h2,h3,h6]) | (try simp only [↓rA,rB,Nat.reduceAdd,Nat.reduceEqDiff,uq,h2,h3,h6,hc])))
  | (refine qq (fun hc=>?_) (fun hc=>?_) <;> (first | (subst hc;try simp only [↓rA,rB,qb,qf,Int.reduceEq,Int.reduceLE,Int.reduceLT,Int.reduceToNat,Nat.reduceAdd,Nat.reduceEqDiff,Nat.reduceLT,Nat.reduceLeDiff,Nat.reduceMul,Nat.reduceSub,reduceCtorEq,uq,Tryz.results144,h1,h2,h3,h6]) | (try simp only [↓rA,rB,qb,Nat.reduceAdd,Nat.reduceEqDiff,uq,Tryz.results144,h2,h3,h6,hc])))
  | (refine qg _ (zB _ _ _) ?_;try simp only [↓rA,rB,Nat.reduceEqDiff])
  | exact zG _ _ _ _ _
  | exact zY _ _ _ _ _ _ _ (Le.refl _) ha)
abbrev vSc (c:Cat) (e:Str) (t:Tab):V:=.agg (xz c++(qm e::Xu t))
structure Qw (n:Nat) (c:Cat):Prop where
 lt:c.tables.length≤n
 lf:c.features.length≤n
 ld:c.drafts.length≤n
 lp:c.past.length≤n
 ft:∀ t ∈ c.tables,Ks t
 ff:∀ f ∈ c.features,qdv f∧qZ f.body≤big
 fd:∀ f ∈ c.drafts,qdv f∧qZ f.body≤big
 fp:∀ f ∈ c.past,qdv f∧qZ f.body≤big
 sf:∀ f ∈ c.features,zj f.body≤1000000
 sd:∀ f ∈ c.drafts,zj f.body≤1000000
 sp:∀ f ∈ c.past,zj f.body≤1000000
def qh8:=(aI (aI (aI (aI Ty.t126 Ty.t128) (aI Ty.t22 Ty.t23)) (aI (aI Ty.t25 Ty.t27) (aI Ty.t29 (aI Ty.t3 Ty.t35)))) (aI (aI (aI Ty.t36 Ty.t38) (aI Ty.t4 (aI Ty.t40 Ty.t43))) (aI (aI Ty.t45 Ty.t60) (aI Ty.t61 (aI Ty.t63 Ty.t9)))))
theorem qgh (c:Cat) (e:Str) (t:Tab) (n:Str) (ht:Ks t):UA Tryz.prog 142 [vSc c e t,qm n]:=by
 obtain⟨hl,hu⟩:=ht
 unfold big at hl
 refine Ok.of_ex Ty.mixed Tryz.func142 rfl (by simp [Tryz.ntmps142]) (by kernel_rfl) fun F w0 I0=>?_
 simp only [↓rA,rB,qf,Nat.reduceLT]
 refine fun b2 h2=>?_;replace h2:=qn h2;try simp only [Nb] at h2
 simp only [↓rA,rB,qh8]
 refine fun b4 h4=>?_;replace h4:=qn h4;try simp only [Nb] at h4
 simp only [↓rA,rB,Tryz.results142]
 refine qB Ty.mixed (by kernel_rfl) t.fields.length (fun i S=>S.boxes=[(b4,.c [vint 0,nilS,qm es0]),(b2,.c (xz c++(qm e::Xu t)))]∧S.rows=[]∧S.σ 1=qm n∧S.σ 2=ptr b2∧S.σ 4=ptr b4∧S.σ 6=vint i) ⟨0,?_⟩ (fun i S hi ⟨gb,gr,g1,g2,g4,g6⟩=>?_) (fun S ⟨gb,gr,g1,g2,g4,g6⟩=>?_)
 ·simp only [rB,Nat.reduceEqDiff]
  try exact rfl
 ·have hwi:=qk (i:=i) (N:=t.fields.length) hi (by omega)
  have hui:=hu _ (List.getElem_mem hi)
  simp only [↓rA,rB,Nat.reduceAdd,Nat.reduceEqDiff,qh8,gb,g1,g2,g6,h4,Int.ofNat_lt,hi,List.length_map,qd _ _ _ hi]
  refine qe (fun hc=>?_) (fun hc=>?_)
  ·simp only [↓rA,rB,Nat.reduceAdd,Nat.reduceEqDiff,qh8,gb,gr,g2,g4,g6,h4,Int.ofNat_lt,hi,List.length_map,qd _ _ _ hi]
   exact zY _ _ _ _ _ _ _ (Le.refl _) hui
  ·simp only [↓rA,rB,Nat.reduceEqDiff,gb,gr,g1,g2,g4,g6,hwi]
   first | exact⟨0,rfl⟩ | exact⟨0,trivial⟩ | exact⟨0,rfl,rfl⟩
 ·simp only [↓rA,rB,qb,Nat.reduceAdd,Nat.reduceEqDiff,qh8,gb,gr,g2,g4,g6,h4,Int.ofNat_lt,Nat.lt_irrefl,List.length_map]
  exact zG _ _ _ _ _
end Go.Proofs.YtohdpcjaoiebkaaGreatDoor
set_option linter.unusedSimpArgs false
set_option maxRecDepth 100000
set_option linter.defProp false
namespace Go.Proofs.YtohdpcjaoiebkaaGreatDoor
open Go.VL Go.Ar Go.Lo Go.Proofs.YtohdpcjaoiebkaaGreatDoor
def K5:=(aI (aI (aI (aI Ty.t126 Ty.t128) (aI Ty.t22 Ty.t23)) (aI (aI Ty.t25 Ty.t27) (aI Ty.t29 (aI Ty.t3 Ty.t35)))) (aI (aI (aI Ty.t36 Ty.t38) (aI Ty.t4 (aI Ty.t40 Ty.t43))) (aI (aI Ty.t45 Ty.t60) (aI Ty.t61 (aI Ty.t63 Ty.t9)))))
theorem ZO (c:Cat) (e:Str) (t:Tab) (n en:Str) (hl:c.features.length≤1000000) (hf:∀ f ∈ c.features,qdv f∧qZ f.body≤big):UA Tryz.prog 143 [vSc c e t,qm n,qm en]:=by
 refine Ok.of_ex Ty.mixed Tryz.func143 rfl (by simp [Tryz.ntmps143]) (by kernel_rfl) fun F w0 I0=>?_
 simp only [↓rA,rB,qf,Nat.reduceLT]
 refine fun b3 h3=>?_;replace h3:=qn h3;try simp only [Nb] at h3
 simp only [↓rA,rB,K5]
 refine fun b6 h6=>?_;replace h6:=qn h6;try simp only [Nb] at h6
 simp only [↓rA,rB,Tryz.results143]
 refine qB Ty.mixed (by kernel_rfl) c.features.length (fun i S=>S.boxes=[(b6,.c [vint 0,nilS,qm es0]),(b3,.c (xz c++(qm e::Xu t)))]∧S.rows=[]∧S.σ 1=qm n∧S.σ 2=qm en∧S.σ 3=ptr b3∧S.σ 6=ptr b6∧S.σ 8=vint i) ⟨0,?_⟩ (fun i S hi ⟨gb,gr,g1,g2,g3,g6,g8⟩=>?_) (fun S ⟨gb,gr,g1,g2,g3,g6,g8⟩=>?_)
 ·simp only [rB,Nat.reduceEqDiff]
  try exact rfl
 ·have hwi:=qk (i:=i) (N:=c.features.length) hi (by omega)
  have hui:=(hf _ (List.getElem_mem hi)).1.1
  simp only [↓rA,rB,Nat.reduceAdd,Nat.reduceEqDiff,K5,gb,gr,g3,g8,h6,Int.ofNat_lt,hi,List.length_map,qd _ _ _ hi,qW]
  refine fun b9 h9=>?_;replace h9:=qn h9;try simp only [Nb] at h9
  have hn:=And.intro h3 (And.intro h6 h9)
  simp only [↓rA,rB,Nat.reduceAdd,Nat.reduceEqDiff,K5,gb,g1]
  refine qe (fun hc=>?_) (fun hc=>?_)
  ·simp only [↓rA,rB,Nat.reduceEqDiff,gr,g1,g2,g3,g6,g8,hwi]
   first | exact⟨0,rfl⟩ | exact⟨0,trivial⟩ | exact⟨1,rfl,rfl⟩ | exact⟨1,rfl⟩
  ·simp only [↓rA,rB,Nat.reduceAdd,Nat.reduceEqDiff,K5,g2]
   refine qe (fun hc=>?_) (fun hc=>?_)
   ·simp only [↓rA,rB,qb,Nat.reduceAdd,Nat.reduceEqDiff,K5,gr,g6,hn]
    exact zG _ _ _ _ _
   ·simp only [↓rA,rB,Nat.reduceAdd,Nat.reduceEqDiff,Nat.reduceLeDiff,K5,gr,g6,hn]
    exact zY _ _ _ _ _ _ _ (Le.refl _) hui
 ·simp only [↓rA,rB,qb,Nat.reduceAdd,Nat.reduceEqDiff,K5,gb,gr,g3,g6,g8,h6,Int.ofNat_lt,Nat.lt_irrefl,List.length_map]
  exact zG _ _ _ _ _
abbrev qEm:Cat:=⟨[],[],[],[]⟩
def K4:=(aI (aI (aI (aI Ty.t126 Ty.t128) (aI Ty.t22 Ty.t23)) (aI (aI Ty.t25 Ty.t27) (aI Ty.t29 (aI Ty.t3 Ty.t35)))) (aI (aI (aI Ty.t36 Ty.t38) (aI Ty.t4 (aI Ty.t40 Ty.t43))) (aI (aI Ty.t45 Ty.t60) (aI Ty.t61 (aI Ty.t63 Ty.t9)))))
theorem qjh (n:Nat) (c:Cat) (e:Str) (t:Tab) (s:Str) (hn:n≤1000000) (hk:Qw n c):Ok Tryz.prog 112 [vSc c e t,qm s] [] fun v bs rs =>
  (∃ (c':Cat) (e':Str) (t':Tab) (k:Int),v=.tup [vSc c' e' t',vint k]∧(k=0→Qw n c'∧Ks t'))∧bs=[]∧rs=[]:=by
 have hl:c.tables.length≤1000000:=Nat.le_trans hk.lt hn
 have bad:∀ (k:Int),¬ k=0→∀ (X:List (Nat × B)) (Y:List Row),∃ v bs' rs',Le (.tup [.agg [nilS,nilS,nilS,nilS,qm es0,qm es0,qm es0,nilS,vint 0],vint k]) v∧bs'.Sublist X∧rs'.Sublist Y∧(∃ (c':Cat) (e':Str) (t':Tab) (k:Int),v=.tup [vSc c' e' t',vint k]∧(k=0→Qw n c'∧Ks t'))∧bs'=[]∧rs'=[]:=fun k hk0 X Y =>
  ⟨_,[],[],yV (.cons (yj (.cons (Le.nil 4) (.cons (Le.nil 18) (.cons (Le.nil 18) (.cons (Le.nil 18) (.cons (Le.refl _) (.cons (Le.refl _) (.cons (Le.refl _) (.cons (Le.nil 4) (.cons (Le.refl _) .nil)))))))))) (.cons (Le.refl _) .nil)),List.nil_sublist _,List.nil_sublist _,⟨qEm,es0,tab0,k,rfl,fun h=>absurd h hk0⟩,rfl,rfl⟩
 refine Ok.of_ex Ty.mixed Tryz.func112 rfl (by simp [Tryz.ntmps112]) (by kernel_rfl) fun F w0 I0=>?_
 simp only [↓rA,rB,qf,Nat.reduceLT]
 refine fun b2 h2=>?_;replace h2:=qn h2;try simp only [Nb] at h2
 simp only [↓rA,rB,K4]
 refine fun b4 h4=>?_;replace h4:=qn h4;try simp only [Nb] at h4
 simp only [↓rA,rB,Tryz.results112]
 refine qB Ty.mixed (by kernel_rfl) c.tables.length (fun i S=>S.boxes=[(b4,.c [nilS,nilS,nilS,nilS,qm es0,qm es0,qm es0,nilS,vint 0]),(b2,.c (xz c++(qm e::Xu t)))]∧S.rows=[]∧S.σ 1=qm s∧S.σ 2=ptr b2∧S.σ 4=ptr b4∧S.σ 6=vint i) ⟨0,?_⟩ (fun i S hi ⟨gb,gr,g1,g2,g4,g6⟩=>?_) (fun S ⟨gb,gr,g1,g2,g4,g6⟩=>?_)
 ·simp only [rB,Nat.reduceEqDiff]
  try exact rfl
 ·have hwi:=qk (i:=i) (N:=c.tables.length) hi (by omega)
  have hft:=hk.ft _ (List.getElem_mem hi)
  simp only [↓rA,rB,Nat.reduceAdd,Nat.reduceEqDiff,K4,gb,gr,g2,g6,h4,Int.ofNat_lt,hi,List.length_map,qd _ _ _ hi]
  refine fun b7 h7=>?_;replace h7:=qn h7;try simp only [Nb] at h7
  have hh:=And.intro h2 (And.intro h4 h7)
  simp only [↓rA,rB,Nat.reduceAdd,Nat.reduceEqDiff,K4,gb,g1]
  refine qe (fun hc=>?_) (fun hc=>?_)
  ·simp only [↓rA,rB,Nat.reduceEqDiff,gr,g1,g2,g4,g6,hwi]
   first | exact⟨0,rfl⟩ | exact⟨0,trivial⟩ | exact⟨1,rfl,rfl⟩ | exact⟨1,rfl⟩
  ·simp only [↓rA,rB,Nat.reduceAdd,Nat.reduceEqDiff,K4,g2,hh]
   refine qe (fun hc=>?_) (fun hc=>?_)
   ·simp only [↓rA,rB,qb,Nat.reduceAdd,Nat.reduceEqDiff,K4,gr,g4,hh]
    exact bad _ (by decide) _ _
   ·simp only [↓rA,rB,qb,Nat.reduceAdd,Nat.reduceEqDiff,Nat.reduceLeDiff,K4,gr,g2,g4,hh]
    exact⟨_,[],[],Le.refl _,List.nil_sublist _,List.nil_sublist _,⟨c,es0,c.tables[i],0,rfl,fun _=>⟨hk,hft⟩⟩,rfl,rfl⟩
 ·simp only [↓rA,rB,qb,Nat.reduceAdd,Nat.reduceEqDiff,K4,gb,gr,g2,g4,g6,h4,Int.ofNat_lt,Nat.lt_irrefl,List.length_map]
  exact bad _ (by decide) _ _
end Go.Proofs.YtohdpcjaoiebkaaGreatDoor
set_option linter.unusedSimpArgs false
set_option maxRecDepth 100000
set_option linter.defProp false
namespace Go.Proofs.YtohdpcjaoiebkaaGreatDoor
open Go.VL Go.Ar Go.Lo Go.Proofs.YtohdpcjaoiebkaaGreatDoor
abbrev vu (n:Int):V:=.lit (.int .u64 n)
def Wd (v:V):Prop:=∃ a b,v=.agg [vint a,vu b]
def BI (n:Nat) (v:V) (bs:List (Nat × B)):Prop :=
 ∃ (g c:Nat) (es:List Int) (rest:List V),es.length=n∧n≤c∧rest.length=c - n∧v=.lit (.slice (some ⟨g,0,none⟩) n c)∧bs=[(g,.c (es.map vint++rest))]
def BI0 (n:Nat) (v:V) (bs:List (Nat × B)):Prop:=(n=0∧v=nilS∧bs=[])∨(0 < n∧BI n v bs)
abbrev slI (g n c:Nat):V:=.lit (.slice (some ⟨g,0,none⟩) n c)
theorem qg3 {g c:Nat} {x:Int} (h:1≤c):BI0 1 (slI g 1 c) [(g,.c ([[vint x]].flatten++xf ((c - 1) * 1)))] :=
 .inr ⟨Nat.one_pos,g,c,[x],xf ((c - 1) * 1),rfl,h,by simp [xf],rfl,by simp⟩
theorem KE {g' c' i:Nat} {es:List Int} {rest:List V} {x:Int} (he:es.length=i) (h:i+1≤c'):BI0 (i+1) (slI g' (i+1) c') [(g',.c ((es.map vint++rest).take (i * 1)++[[vint x]].flatten++xf ((c' - (i+1)) * 1)))]:=by
 subst he
 refine .inr ⟨Nat.succ_pos _,g',c',es++[x],xf ((c' - (es.length+1)) * 1),by simp,h,by simp [xf],rfl,?_⟩
 rw [Nat.mul_one,List.take_left' (by rw [List.length_map])]
 simp
theorem qsp {g' c' i:Nat} {es:List Int} {rest:List V} {x:Int} (he:es.length=i) (h:i+1≤c'):BI (i+1) (slI g' (i+1) c') [(g',.c ((es.map vint++rest).take (i * 1)++[[vint x]].flatten++xf ((c' - (i+1)) * 1)))] :=
 ((KE he h).resolve_left fun h=>absurd h.1 (Nat.succ_ne_zero _)).2
theorem sng {g b:Nat} {x:B} (h:b ≠ g∧g ≠ b):∀ p ∈ [(g,x)],¬ p.1=b∧¬ b=p.1:=fun p hp=>by
 rw [List.mem_singleton.1 hp];exact h.symm
def qox:=(aI (aI Ty.t143 Ty.t223) (aI Ty.t3 Ty.t4))
theorem qii (x:Int):Ok Tryz.prog 194 [vint x] [] fun v bs rs=>Wd v∧bs=[]∧rs=[]:=by
 refine Ok.of_ex Ty.mixed Tryz.func194 rfl (by simp [Tryz.ntmps194]) (by kernel_rfl) fun F w0 I0=>?_
 simp only [↓rA,rB,qox]
 refine fun b2 h2=>?_;replace h2:=qn h2;try simp only [Nb] at h2
 simp only [↓rA,rB,reduceCtorEq]
 refine qe (fun hc=>?_) (fun hc=>?_)
 ·simp only [↓rA,rB,qb,Nat.reduceAdd,Nat.reduceEqDiff,Nat.reduceLeDiff,reduceCtorEq,qox,Tryz.results194]
  exact⟨_,[],[],Le.refl _,List.nil_sublist _,List.nil_sublist _,⟨_,_,rfl⟩,rfl,rfl⟩
 ·simp only [↓rA,rB,qb,Nat.reduceAdd,Nat.reduceEqDiff,reduceCtorEq,qox,Tryz.results194]
  exact⟨_,[],[],Le.refl _,List.nil_sublist _,List.nil_sublist _,⟨_,_,rfl⟩,rfl,rfl⟩
def K3:=(aI (aI Ty.t143 Ty.t223) (aI Ty.t3 (aI Ty.t4 Ty.t56)))
theorem Xp (v:V) (hv:Wd v):Ok Tryz.prog 199 [v] [] fun v bs rs=>BI 8 v bs∧rs=[]:=by
 obtain⟨a,b,rfl⟩:=hv
 refine Ok.of_ex Ty.mixed Tryz.func199 rfl (by simp [Tryz.ntmps199]) (by kernel_rfl) fun F w0 I0=>?_
 simp only [↓rA,rB,qf,Nat.reduceLT]
 refine fun b1 h1=>?_;replace h1:=qn h1;try simp only [Nb] at h1
 simp only [↓rA,rB,Nat.reduceEqDiff,K3,Tryz.results199]
 refine jz Ty.mixed (by kernel_rfl) 4 (fun i S=>∃ u bs,BI0 i u bs∧(∀ p ∈ bs,p.1 ≠ b1∧b1 ≠ p.1)∧S.boxes=bs++[(b1,.c [vint a,vu b])]∧S.rows=[]∧S.σ 1=ptr b1∧S.σ 3=u∧(∃ t,S.σ 4=vu t)∧(∃ t,S.σ 5=vu t)∧S.σ 6=vint i) ⟨_,_,List.Sublist.refl _,List.Sublist.refl _,?_⟩ (fun i S hi ⟨u,bs,hb,hd,gb,gr,g1,g3,⟨t,g4⟩,⟨t',g5⟩,g6⟩=>?_) (fun S ⟨u,bs,hb,hd,gb,gr,g1,g3,⟨t,g4⟩,⟨t',g5⟩,g6⟩=>?_)
 ·simp only [rB,Nat.reduceEqDiff]
  exact⟨_,[],.inl ⟨rfl,rfl,rfl⟩,by simp,rfl,rfl,⟨_,rfl⟩,⟨_,rfl⟩⟩
 ·have hwi:=qk (i:=i) (N:=4) hi (by omega)
  rcases hb with⟨rfl,rfl,rfl⟩ | ⟨h0,g,c,es,rest,he,hc,hr,rfl,rfl⟩
  ·simp only [↓rA,rB,Int.reduceEq,Int.reduceLT,Nat.reduceAdd,Nat.reduceEqDiff,Nat.reduceLT,Nat.reduceLeDiff,Nat.reduceMul,K3,g3,g4,g6]
   intro y
   refine XB.r ?_
   simp only [↓rA,rB,Nat.reduceLT,Nat.reduceLeDiff,Nat.reduceMul,K3,gb,gr]
   refine fun g c hg hc=>?_
   have n:=qn hg
   simp only [↓rA,rB,Int.reduceEq,Nat.reduceEqDiff,g4,g6]
   refine⟨_,[],List.Sublist.refl _,List.nil_sublist _,?_⟩
   simp only [rB,Nat.reduceEqDiff,gb,g1,g5]
   exact⟨_,[_],qg3 hc,sng n.1,rfl,rfl,⟨_,rfl⟩,⟨_,rfl⟩,rfl⟩
  ·have hd:g ≠ b1∧b1 ≠ g:=hd _ (List.mem_singleton.2 rfl)
   have hi4:(i:Int) < 4:=by omega
   simp only [↓rA,rB,Int.reduceEq,Nat.reduceEqDiff,Nat.reduceLT,Nat.reduceLeDiff,Nat.reduceMul,K3,g3,g4,g6,hi4]
   intro y
   refine XB.r ?_
   simp only [↓rA,rB,Nat.reduceLT,K3,gb,gr]
   refine⟨⟨by simp [he,hr];omega,hc,by omega⟩,fun g' c' hg hc'=>?_⟩
   have hrem:kJ [(g,B.c (List.map vint es++rest)),(b1,B.c [vint a,vu b])] g=[(b1,B.c [vint a,vu b])]:=by
    simp [kJ,hd.2]
   replace hg:¬ g' ∈ qA (kJ [(g,B.c (List.map vint es++rest)),(b1,B.c [vint a,vu b])] g) _:=hg
   rw [hrem] at hg
   have n:=qn hg
   simp only [↓rA,rB,Int.reduceEq,Nat.reduceEqDiff,gb,g4,g6,hwi,hrem]
   refine⟨_,[],List.Sublist.refl _,List.nil_sublist _,?_⟩
   simp only [rB,Nat.reduceEqDiff,g1,g5]
   exact⟨_,[_],KE he hc',sng n.1,rfl,rfl,⟨_,rfl⟩,⟨_,rfl⟩⟩
 ·have h4:=hb.resolve_left (fun h=>absurd h.1 (by decide))
  obtain⟨_,g,c,es,rest,he,hc,hr,rfl,rfl⟩:=h4
  have hd:g ≠ b1∧b1 ≠ g:=hd _ (List.mem_singleton.2 rfl)
  have q4:¬ ((4:Nat):Int) < 4:=by decide
  simp only [↓rA,rB,g6,q4]
  refine jz Ty.mixed (by kernel_rfl) 4 (fun i S=>∃ u bs,BI (4+i) u bs∧(∀ p ∈ bs,p.1 ≠ b1∧b1 ≠ p.1)∧S.boxes=bs++[(b1,.c [vint a,vu b])]∧S.rows=[]∧S.σ 1=ptr b1∧S.σ 3=u∧(∃ t,S.σ 5=vu t)∧S.σ 7=vint i) ⟨_,_,List.Sublist.refl _,List.Sublist.refl _,?_⟩ (fun i S hi ⟨u,bs,hb,hd,gb,gr,g1,g3,⟨t',g5⟩,g7⟩=>?_) (fun S ⟨u,bs,hb,hd,gb,gr,g1,g3,⟨t',g5⟩,g7⟩=>?_)
  ·simp only [rB,Nat.reduceEqDiff,gb,gr,g1,g3,g5]
   exact⟨_,[_],⟨g,c,es,rest,he,hc,hr,rfl,rfl⟩,sng hd.symm,rfl,rfl,⟨_,rfl⟩⟩
  ·have hwi:=qk (i:=i) (N:=4) hi (by omega)
   obtain⟨g,c,es,rest,he,hc,hr,rfl,rfl⟩:=hb
   have hd:g ≠ b1∧b1 ≠ g:=hd _ (List.mem_singleton.2 rfl)
   have hi4:(i:Int) < 4:=by omega
   simp only [↓rA,rB,Int.reduceEq,Nat.reduceEqDiff,Nat.reduceLT,Nat.reduceLeDiff,Nat.reduceMul,K3,g3,g5,g7,hi4]
   intro y
   refine XB.r ?_
   simp only [↓rA,rB,Nat.reduceLT,K3,gb,gr]
   refine⟨⟨by simp [he,hr];omega,hc,by omega⟩,fun g' c' hg hc'=>?_⟩
   have hrem:kJ [(g,B.c (List.map vint es++rest)),(b1,B.c [vint a,vu b])] g=[(b1,B.c [vint a,vu b])]:=by
    simp [kJ,hd.2]
   replace hg:¬ g' ∈ qA (kJ [(g,B.c (List.map vint es++rest)),(b1,B.c [vint a,vu b])] g) _:=hg
   rw [hrem] at hg
   have n:=qn hg
   simp only [↓rA,rB,Int.reduceEq,Nat.reduceEqDiff,gb,g5,g7,hwi,hrem]
   refine⟨_,[],List.Sublist.refl _,List.nil_sublist _,?_⟩
   simp only [rB,Nat.reduceEqDiff,g1]
   exact⟨_,[_],qsp he hc',sng n.1,rfl,rfl,⟨_,rfl⟩⟩
  ·obtain⟨g,c,es,rest,he,hc,hr,rfl,rfl⟩:=hb
   have hd:g ≠ b1∧b1 ≠ g:=hd _ (List.mem_singleton.2 rfl)
   simp only [↓rA,rB,Nat.reduceAdd,Nat.reduceEqDiff,gb,gr,g3,g7,q4]
   refine⟨_,[_],[],Le.refl _,?_,List.nil_sublist _,⟨g,c,es,rest,he,hc,hr,rfl,rfl⟩,rfl⟩
   exact List.Sublist.cons_cons _ (List.nil_sublist _)
end Go.Proofs.YtohdpcjaoiebkaaGreatDoor
set_option linter.unusedSimpArgs false
set_option maxRecDepth 100000
set_option linter.defProp false
namespace Go.Proofs.YtohdpcjaoiebkaaGreatDoor
open Go.VL Go.Ar Go.Lo Go.Proofs.YtohdpcjaoiebkaaGreatDoor
abbrev lI (y:Option Value) (es:List Int):V:=.list y 1 (es.map fun x=>[vint x])
theorem KI {m:Nat} (h:m≤1000):IntKind.i64.wrap ((m:Int) - 1)=(m:Int) - 1:=zl (by omega) (by omega)
def qxy:=(aI Ty.t3 (aI Ty.t4 Ty.t56))
theorem qsr (y y':Option Value) (a b:List Int) (ha:a.length=8) (hb:b.length=8):Ok Tryz.prog 204 [lI y a,lI y' b] [] fun v bs rs=>(∃ t,v=.lit (.bool t))∧bs=[]∧rs=[]:=by
 refine Ok.of_ex Ty.mixed Tryz.func204 rfl (by simp [Tryz.ntmps204]) (by kernel_rfl) fun F w0 I0=>?_
 simp only [↓rA,rB,Tryz.results204]
 refine jf Ty.mixed (by kernel_rfl) (fun k=>k) (fun(k:Nat) S=>k≤8∧S.boxes=[]∧S.rows=[]∧S.σ 0=lI y a∧S.σ 1=lI y' b∧S.σ 5=vint ((k:Int) - 1)) 8 ⟨0,?_⟩ (fun k S ⟨hk,gb,gr,g0,g1,g5⟩=>?_)
 ·simp only [rB,Nat.reduceEqDiff,reduceCtorEq]
  first | done | trivial | rfl | exact⟨Nat.le_refl _,rfl⟩
 ·rcases k with _ | m
  ·have q:¬ 0≤((0:Nat):Int) - 1:=by decide
   simp only [↓rA,rB,g5]
   exact⟨_,[],[],Le.refl _,List.nil_sublist _,List.nil_sublist _,⟨_,rfl⟩,rfl,rfl⟩
  ·have e:(((m+1:Nat)):Int) - 1=(m:Int):=by omega
   rw [e] at g5
   have q:(0:Int)≤(m:Int):=by omega
   have hm:m < 8:=by omega
   have hia:m < a.length:=by omega
   have hib:m < b.length:=by omega
   have hd:=KI (m:=m) (by omega)
   simp only [↓rA,rB,Nat.reduceEqDiff,reduceCtorEq,qxy,g0,g1,g5,q,Int.ofNat_lt,hm,ha,hb,List.length_map,qd _ _ _ hia,qd _ _ _ hib]
   refine qe (fun hc=>?_) (fun hc=>?_)
   ·simp only [↓rA,rB,Nat.reduceEqDiff,reduceCtorEq,qxy,gb,gr,g0,g1,g5,q,Int.ofNat_lt,hm,ha,hb,List.length_map,qd _ _ _ hia,qd _ _ _ hib]
    exact⟨_,[],[],Le.refl _,List.nil_sublist _,List.nil_sublist _,⟨_,rfl⟩,rfl,rfl⟩
   ·simp only [↓rA,rB,Nat.reduceEqDiff,reduceCtorEq,gb,gr,g0,g1,g5,hd]
    exact⟨m,Nat.lt_succ_self _,0,by omega,rfl⟩
def YA:=(aI Ty.t3 (aI Ty.t4 Ty.t56))
set_option maxHeartbeats 1000000 in
theorem Vp (y:Option Value) (a:List Int) (ha:a.length=8):Ok Tryz.prog 201 [lI y a] [] fun v bs rs=>BI 8 v bs∧rs=[]:=by
 refine Ok.of_ex Ty.mixed Tryz.func201 rfl (by simp [Tryz.ntmps201]) (by kernel_rfl) fun F w0 I0=>?_
 simp only [↓rA,rB,Tryz.results201]
 refine jz Ty.mixed (by kernel_rfl) 8 (fun i S=>∃ u bs,BI0 i u bs∧S.boxes=bs∧S.rows=[]∧S.σ 0=lI y a∧S.σ 3=u∧(∃ t,S.σ 4=vint t)∧S.σ 5=vint i) ⟨_,_,List.Sublist.refl _,List.Sublist.refl _,?_⟩ (fun i S hi ⟨u,bs,hb,gb,gr,g0,g3,⟨t,g4⟩,g5⟩=>?_) (fun S ⟨u,bs,hb,gb,gr,g0,g3,⟨t,g4⟩,g5⟩=>?_)
 ·simp only [rB,Nat.reduceEqDiff,reduceCtorEq]
  exact⟨_,[],.inl ⟨rfl,rfl,rfl⟩,rfl,rfl,⟨_,rfl⟩⟩
 ·have hwi:=qk (i:=i) (N:=8) hi (by omega)
  have hia:i < a.length:=by omega
  have hi8:(i:Int) < 8:=by omega
  rcases hb with⟨rfl,rfl,rfl⟩ | ⟨h0,g,c,es,rest,he,hc,hr,rfl,rfl⟩
  ·simp only [↓rA,rB,Int.reduceEq,Int.reduceLT,Int.reduceToNat,Nat.reduceAdd,Nat.reduceEqDiff,reduceCtorEq,YA,g0,g4,g5,ha,List.length_map,qd _ _ _ hia]
   refine qe (fun hc=>?_) (fun hc=>?_) <;>
   ·simp only [↓rA,rB,Nat.reduceEqDiff,Nat.reduceLT,Nat.reduceLeDiff,Nat.reduceMul,YA,g3]
    intro y
    refine XB.r ?_
    simp only [↓rA,rB,Nat.reduceLT,Nat.reduceLeDiff,Nat.reduceMul,YA,gb,gr]
    refine fun g c hg hc=>?_
    simp only [↓rA,rB,Nat.reduceEqDiff,g5]
    refine⟨_,[],List.Sublist.refl _,List.nil_sublist _,?_⟩
    simp only [rB,Nat.reduceEqDiff,reduceCtorEq,gb,g0]
    exact⟨_,[_],qg3 hc,rfl,rfl,⟨_,rfl⟩,rfl⟩
  ·have hrem:kJ [(g,B.c (List.map vint es++rest))] g=[]:=by simp [kJ]
   simp only [↓rA,rB,Int.reduceEq,Nat.reduceEqDiff,reduceCtorEq,YA,g0,g4,g5,Int.ofNat_lt,hi,hi8,ha,List.length_map,qd _ _ _ hia]
   refine qe (fun hc=>?_) (fun hc=>?_) <;>
   ·simp only [↓rA,rB,Nat.reduceEqDiff,Nat.reduceLT,Nat.reduceLeDiff,Nat.reduceMul,YA,g3]
    intro y
    refine XB.r ?_
    simp only [↓rA,rB,Nat.reduceLT,YA,gb,gr]
    refine⟨⟨by simp [he,hr];omega,by assumption,by omega⟩,fun g' c' hg hc'=>?_⟩
    replace hg:¬ g' ∈ qA (kJ [(g,B.c (List.map vint es++rest))] g) _:=hg
    simp only [↓rA,rB,Nat.reduceEqDiff,gb,g5,hwi,hrem]
    refine⟨_,[],List.Sublist.refl _,List.nil_sublist _,?_⟩
    simp only [rB,Nat.reduceEqDiff,reduceCtorEq,g0]
    exact⟨_,[_],KE he hc',rfl,rfl,⟨_,rfl⟩⟩
 ·obtain⟨_,g,c,es,rest,he,hc,hr,rfl,rfl⟩:=hb.resolve_left (fun h=>absurd h.1 (by decide))
  have q:¬ ((8:Nat):Int) < 8:=by decide
  simp only [↓rA,rB,Nat.reduceEqDiff,gb,gr,g3,g5,q]
  exact⟨_,[_],[],Le.refl _,List.Sublist.refl _,List.nil_sublist _,⟨g,c,es,rest,he,hc,hr,rfl,rfl⟩,rfl⟩
end Go.Proofs.YtohdpcjaoiebkaaGreatDoor
set_option linter.unusedSimpArgs false
set_option maxRecDepth 100000
set_option linter.defProp false
namespace Go.Proofs.YtohdpcjaoiebkaaGreatDoor
open Go.VL Go.Ar Go.Lo Go.Proofs.YtohdpcjaoiebkaaGreatDoor
def IL (v:V):Prop:=∃ y es,es.length=8∧v=lI y es
theorem qu4 (es:List Int):(es.map fun x=>[vint x]).flatten=es.map vint:=by
 induction es with
 | nil=>rfl
 | cons a l ih=>simp only [List.map_cons,List.flatten_cons,ih];rfl
theorem Xx {g c:Nat} {es:List Int} {rest:List V} {n:Nat} (he:es.length=n) (hc:n≤c):qhj g n c 1 (es.map vint++rest) (es.map fun x=>[vint x]) :=
 ⟨by rw [qu4,Nat.mul_one,List.take_left' (by rw [List.length_map,he])],fun e h=>by obtain⟨x,_,rfl⟩:=List.mem_map.1 h;rfl,by rw [List.length_map,he],hc⟩
theorem Up {f:FuncId} {args:List V} {bs0:List (Nat × B)} (h:Ok Tryz.prog f args bs0 fun v bs rs=>BI 8 v bs∧rs=[]):Ok Tryz.prog f args bs0 fun v bs rs=>IL v∧bs=[]∧rs=[]:=by
 refine Ok.freeze h fun v bs rs h=>?_
 obtain⟨⟨g,c,es,rest,he,hc,hr,rfl,rfl⟩,rfl⟩:=h
 exact .inr ⟨g,8,c,1,_,_,[],_,List.Perm.refl _,Xx he hc,.here,⟨_,es,he,rfl⟩,rfl,rfl⟩
theorem qsq {f:FuncId} {args:List V} {v:V} {bs:List (Nat × B)} {Q:V→List (Nat × B)→List Row→Prop} (h:∀ y es,es.length=8→Ok Tryz.prog f (lI y es::args) [] Q) (hb:BI 8 v bs):Ok Tryz.prog f (v::args) bs Q:=by
 obtain⟨g,c,es,rest,he,hc,hr,rfl,rfl⟩:=hb
 exact Ok.consume (Xx he hc) (.cons .here (FzL.refl _)) (h _ es he)
theorem ym (v:V) (hv:Wd v):Ok Tryz.prog 199 [v] [] fun v bs rs=>IL v∧bs=[]∧rs=[]:=Up (Xp v hv)
theorem qsf (v:V) (hv:IL v):Ok Tryz.prog 201 [v] [] fun v bs rs=>IL v∧bs=[]∧rs=[]:=by
 obtain⟨y,es,he,rfl⟩:=hv
 exact Up (Vp y es he)
theorem Jg (v:V) (bs:List (Nat × B)) (hv:BI 8 v bs):Ok Tryz.prog 201 [v] bs fun v bs rs=>IL v∧bs=[]∧rs=[] :=
 qsq (fun y es he=>Up (Vp y es he)) hv
def qow:=(aI (aI Ty.t143 Ty.t223) (aI Ty.t3 (aI Ty.t4 Ty.t56)))
theorem qim (v:V) (hv:IL v):Ok Tryz.prog 200 [v] [] fun v bs rs=>Wd v∧bs=[]∧rs=[]:=by
 obtain⟨y,a,ha,rfl⟩:=hv
 refine Ok.of_ex Ty.mixed Tryz.func200 rfl (by simp [Tryz.ntmps200]) (by kernel_rfl) fun F w0 I0=>?_
 simp only [↓rA,rB,qow]
 refine fun b2 h2=>?_;replace h2:=qn h2;try simp only [Nb] at h2
 simp only [↓rA,rB,Tryz.results200]
 refine jf Ty.mixed (by kernel_rfl) (fun k=>k) (fun(k:Nat) S=>k≤4∧(∃ x,S.boxes=[(b2,x)]∧x=.c [vint 0,vu 0])∧S.rows=[]∧S.σ 0=lI y a∧S.σ 2=ptr b2∧(∃ t,S.σ 3=vu t)∧(∃ t,S.σ 4=vu t)∧S.σ 5=vint ((k:Int) - 1)) 4 ⟨0,?_⟩ (fun k S ⟨hk,⟨x,gb,hx⟩,gr,g0,g2,⟨t3,g3⟩,⟨t4,g4⟩,g5⟩=>?_)
 ·simp only [rB,Nat.reduceEqDiff,reduceCtorEq]
  exact⟨⟨_,rfl,rfl⟩,⟨_,rfl⟩,⟨_,rfl⟩,rfl⟩
 ·subst hx
  rcases k with _ | m
  ·have q:¬ (0:Int)≤0 - 1:=by decide
   simp only [↓rA,rB,qb,Nat.reduceAdd,Nat.reduceEqDiff,Nat.reduceLeDiff,qow,gb,gr,g2,g3,g4,g5,q]
   exact⟨_,[],[],Le.refl _,List.nil_sublist _,List.nil_sublist _,⟨_,_,rfl⟩,rfl,rfl⟩
  ·have e:(((m+1:Nat)):Int) - 1=(m:Int):=by omega
   rw [e] at g5
   have q:(0:Int)≤(m:Int):=by omega
   have hm:m < 8:=by omega
   have hm':m+4 < 8:=by omega
   have hia:m < a.length:=by omega
   have hib:m+4 < a.length:=by omega
   have hd:=KI (m:=m) (by omega)
   have hp:IntKind.i64.wrap ((m:Int)+4)=((m+4:Nat):Int):=by rw [zl (by omega) (by omega)];omega
   simp only [↓rA,rB,Nat.reduceEqDiff,reduceCtorEq,qow,gb,gr,g0,g2,g3,g4,g5,q,hp,Int.ofNat_lt,hm,hm',ha,hd,List.length_map,qd _ _ _ hia,qd _ _ _ hib]
   exact⟨m,Nat.lt_succ_self _,0,by omega,⟨_,rfl,rfl⟩,⟨_,rfl⟩,⟨_,rfl⟩,rfl⟩
def UU:=(aI (aI Ty.c201 Ty.t3) (aI Ty.t4 Ty.t56))
set_option maxHeartbeats 1000000 in
theorem KR (v:V) (hv:IL v) (n:Int):Ok Tryz.prog 203 [v,vint n] [] fun v bs rs=>IL v∧bs=[]∧rs=[]:=by
 obtain⟨y,a,ha,rfl⟩:=hv
 refine Ok.of_ex Ty.mixed Tryz.func203 rfl (by simp [Tryz.ntmps203]) (by kernel_rfl) fun F w0 I0=>?_
 simp only [↓rA,rB,Tryz.results203]
 refine jz Ty.mixed (by kernel_rfl) 8 (fun i S=>∃ u bs,BI0 i u bs∧S.boxes=bs∧S.rows=[]∧S.σ 0=lI y a∧S.σ 1=vint n∧S.σ 5=u∧S.σ 6=vint i) ⟨_,_,List.Sublist.refl _,List.Sublist.refl _,?_⟩ (fun i S hi ⟨u,bs,hb,gb,gr,g0,g1,g5,g6⟩=>?_) (fun S ⟨u,bs,hb,gb,gr,g0,g1,g5,g6⟩=>?_)
 ·simp only [rB,Nat.reduceEqDiff,reduceCtorEq]
  exact⟨_,[],.inl ⟨rfl,rfl,rfl⟩,rfl,rfl⟩
 ·have hwi:=qk (i:=i) (N:=8) hi (by omega)
  have hia:i < a.length:=by omega
  have hi8:(i:Int) < 8:=by omega
  rcases hb with⟨rfl,rfl,rfl⟩ | ⟨h0,g,c,es,rest,he,hc,hr,rfl,rfl⟩
  ·simp only [↓rA,rB,Int.reduceLT,Int.reduceToNat,Nat.reduceAdd,Nat.reduceEqDiff,Nat.reduceLT,Nat.reduceLeDiff,Nat.reduceMul,reduceCtorEq,UU,g0,g5,g6,ha,List.length_map,qd _ _ _ hia]
   intro y
   refine XB.r ?_
   simp only [↓rA,rB,Nat.reduceLT,Nat.reduceLeDiff,Nat.reduceMul,UU,gb,gr]
   refine fun g c hg hc=>?_
   simp only [↓rA,rB,Nat.reduceEqDiff,g6]
   refine⟨_,[],List.Sublist.refl _,List.nil_sublist _,?_⟩
   simp only [rB,Nat.reduceEqDiff,reduceCtorEq,gb,g0,g1]
   exact⟨_,[_],qg3 hc,rfl,rfl,rfl⟩
  ·have hrem:kJ [(g,B.c (List.map vint es++rest))] g=[]:=by simp [kJ]
   simp only [↓rA,rB,Nat.reduceEqDiff,Nat.reduceLT,Nat.reduceLeDiff,Nat.reduceMul,reduceCtorEq,UU,g0,g5,g6,Int.ofNat_lt,hi,hi8,ha,List.length_map,qd _ _ _ hia]
   intro y
   refine XB.r ?_
   simp only [↓rA,rB,Nat.reduceLT,UU,gb,gr]
   refine⟨⟨by simp [he,hr];omega,by assumption,by omega⟩,fun g' c' hg hc'=>?_⟩
   replace hg:¬ g' ∈ qA (kJ [(g,B.c (List.map vint es++rest))] g) _:=hg
   simp only [↓rA,rB,Nat.reduceEqDiff,gb,g6,hwi,hrem]
   refine⟨_,[],List.Sublist.refl _,List.nil_sublist _,?_⟩
   simp only [rB,Nat.reduceEqDiff,reduceCtorEq,g0,g1]
   exact⟨_,[_],KE he hc',rfl,rfl⟩
 ·obtain⟨_,g,c,es,rest,he,hc,hr,rfl,rfl⟩:=hb.resolve_left (fun h=>absurd h.1 (by decide))
  have q:¬ ((8:Nat):Int) < 8:=by decide
  obtain⟨e0,es',rfl⟩:∃ e0 es',es=e0::es':=by
   cases es with
   | nil=>cases he
   | cons a l=>exact⟨a,l,rfl⟩
  simp only [↓rA,rB,Int.reduceToNat,Nat.reduceAdd,Nat.reduceEqDiff,Nat.reduceLeDiff,Nat.reduceMul,UU,gb,g1,g5,g6,q]
  refine qi [_] [] (List.Perm.refl _) (Jg _ _ ⟨g,c,IntKind.i64.wrap (e0+n)::es',rest,by simpa using he,hc,hr,rfl,rfl⟩) ?_
  rintro v bs rs ⟨hv,rfl,rfl⟩
  simp only [↓rA,rB]
  exact⟨_,[],[],Le.refl _,List.nil_sublist _,List.nil_sublist _,hv,rfl,rfl⟩
theorem qn7 (v:V) (bs:List (Nat × B)) (hv:BI 8 v bs) (n:Int):Ok Tryz.prog 203 [v,vint n] bs fun v bs rs=>IL v∧bs=[]∧rs=[] :=
 qsq (fun y es he=>KR _ ⟨y,es,he,rfl⟩ n) hv
def qov:=(aI (aI Ty.c201 Ty.t3) (aI Ty.t4 Ty.t56))
set_option maxHeartbeats 1000000 in
theorem qqi (v w:V) (hv:IL v) (hw:IL w):Ok Tryz.prog 205 [v,w] [] fun v bs rs=>IL v∧bs=[]∧rs=[]:=by
 obtain⟨y,a,ha,rfl⟩:=hv
 obtain⟨y',a',ha',rfl⟩:=hw
 refine Ok.of_exM [(5,4)] Ty.mixed Tryz.func205 rfl (by simp [Tryz.ntmps205]) (by kernel_rfl) fun F w0 I0=>?_
 simp only [↓rA,rB,Tryz.results205]
 refine jz Ty.mixed (by kernel_rfl) 8 (fun i S=>((i=0∧S.σ 5=nilS∧S.rows=[])∨∃ z es,es.length=i∧S.σ 5=lI (some z) es∧S.rows=[⟨z,1,3⟩])∧S.boxes=[]∧S.σ 0=lI y a∧S.σ 1=lI y' a'∧S.σ 6=vint i) ⟨_,_,List.Sublist.refl _,List.Sublist.refl _,?_⟩ (fun i S hi ⟨hb,gb,g0,g1,g6⟩=>?_) (fun S ⟨hb,gb,g0,g1,g6⟩=>?_)
 ·simp only [rB,Nat.reduceEqDiff,reduceCtorEq]
 ·have hwi:=qk (i:=i) (N:=8) hi (by omega)
  have hia:i < a.length:=by omega
  have hia':i < a'.length:=by omega
  have hi8:(i:Int) < 8:=by omega
  rcases hb with⟨rfl,g5,gr⟩ | ⟨z,es,he,g5,gr⟩
  ·simp only [↓rA,rB,Int.reduceLT,Int.reduceToNat,Nat.reduceAdd,Nat.reduceEqDiff,Nat.reduceLT,Nat.reduceLeDiff,Nat.reduceMul,reduceCtorEq,qov,g0,g1,g5,g6,hi,ha,ha',List.length_map,qd _ _ _ hia,qd _ _ _ hia']
   intro y1 y2
   refine⟨[],[⟨y2,1,3⟩],List.nil_sublist _,?_,?_⟩
   ·exact List.Sublist.cons_cons _ (List.nil_sublist _)
   simp only [rB,Nat.reduceEqDiff,reduceCtorEq,g0,g1]
   exact⟨⟨y2,[_],rfl,rfl,rfl⟩,rfl⟩
  ·simp only [↓rA,rB,Nat.reduceEqDiff,Nat.reduceLT,Nat.reduceLeDiff,Nat.reduceMul,reduceCtorEq,qov,gr,g0,g1,g5,g6,Int.ofNat_lt,hi,hi8,ha,ha',List.length_map,qd _ _ _ hia,qd _ _ _ hia']
   intro y1
   refine xd ?_
   simp only [↓rA,rB,Nat.reduceEqDiff,reduceCtorEq,g6,hwi,List.length_map,he]
   refine⟨by omega,fun y2=>?_⟩
   refine⟨[],[⟨y2,1,3⟩],List.nil_sublist _,List.Sublist.cons_cons _ (List.nil_sublist _),?_⟩
   simp only [rB,Nat.reduceEqDiff,reduceCtorEq,g0,g1]
   refine⟨y2,es++[IntKind.i64.wrap (a[i] - a'[i])],by rw [List.length_append,he];rfl,?_,rfl⟩
   rw [lI,List.map_append]
   rfl
 ·obtain⟨h,_⟩ | ⟨z,es,he,g5,gr⟩:=hb
  ·cases h
  have q:¬ ((8:Nat):Int) < 8:=by decide
  simp only [↓rA,rB,Nat.reduceEqDiff,qov,gb,g5,g6,q]
  refine qi [] _ (List.Perm.refl _) (qsf _ ⟨_,es,he,rfl⟩) ?_
  rintro v bs rs ⟨hv,rfl,rfl⟩
  simp only [↓rA,rB]
  exact⟨_,[],[],Le.refl _,List.nil_sublist _,List.nil_sublist _,hv,rfl,rfl⟩
end Go.Proofs.YtohdpcjaoiebkaaGreatDoor
set_option linter.unusedSimpArgs false
set_option maxRecDepth 100000
set_option linter.defProp false
namespace Go.Proofs.YtohdpcjaoiebkaaGreatDoor
open Go.VL Go.Ar Go.Lo Go.Proofs.YtohdpcjaoiebkaaGreatDoor
theorem qyu {A R:List V} {n:Nat} (h:A.length=n):(A++R).drop n=R:=List.drop_left' h
theorem qv9 {A R:List V} {v w:V} {n:Nat} (h:A.length=n):(A++v::R).take n++[w]++(A++v::R).drop (n+1)=A++w::R:=by
 subst h
 rw [List.take_left,← List.drop_drop,List.drop_left,List.append_assoc]
 rfl
theorem Zs {es:List Int} {i:Nat} (h:i < es.length):∃ A B,A.length=i∧es.map vint=A++vint es[i]::B∧∀ z,(es.set i z).map vint=A++vint z::B:=by
 induction es generalizing i with
 | nil=>cases h
 | cons a l ih =>
  cases i with
  | zero=>exact⟨[],l.map vint,rfl,rfl,fun _=>rfl⟩
  | succ i =>
   obtain⟨A,B,h1,h2,h3⟩:=ih (Nat.lt_of_succ_lt_succ h)
   exact⟨vint a::A,B,by rw [List.length_cons,h1],by simp [h2],fun z=>by simp [h3]⟩
def K2:=(aI (aI (aI Ty.c199 Ty.c200) (aI Ty.c201 Ty.t143)) (aI (aI Ty.t223 Ty.t3) (aI Ty.t4 Ty.t56)))
theorem qA8 (v w:V) (hv:Wd v) (hw:Wd w):Ok Tryz.prog 195 [v,w] [] fun v bs rs=>Wd v∧bs=[]∧rs=[]:=by
 obtain⟨a,b,rfl⟩:=hv
 obtain⟨a',b',rfl⟩:=hw
 refine Ok.of_ex Ty.mixed Tryz.func195 rfl (by simp [Tryz.ntmps195]) (by kernel_rfl) fun F w0 I0=>?_
 simp only [↓rA,rB,qf,Nat.reduceLT]
 refine fun b2 h2=>?_;replace h2:=qn h2;try simp only [Nb] at h2
 simp only [↓rA,rB,qf,Nat.reduceEqDiff,Nat.reduceLT]
 refine fun b3 h3=>?_;replace h3:=qn h3;try simp only [Nb] at h3
 simp only [↓rA,rB,K2]
 refine fun b4 h4=>?_;replace h4:=qn h4;try simp only [Nb] at h4
 simp only [↓rA,rB,Nat.reduceAdd,Nat.reduceEqDiff,K2,h3,h4]
 refine XC [] _ (List.Perm.refl _) (Xp _ ⟨a,b,rfl⟩) ?_
 rintro v bs rs ⟨⟨g,c,es,rest,he,hc,hr,rfl,rfl⟩,rfl⟩ hnd
 simp only [List.map_cons,List.map_nil,List.nodup_cons,List.mem_cons,List.not_mem_nil,or_false,not_or,List.cons_append,List.nil_append] at hnd
 have n4:b4 ≠ g∧g ≠ b4:=⟨Ne.symm hnd.1.1,hnd.1.1⟩
 have n3:b3 ≠ g∧g ≠ b3:=⟨Ne.symm hnd.1.2.1,hnd.1.2.1⟩
 have n2:b2 ≠ g∧g ≠ b2:=⟨Ne.symm hnd.1.2.2,hnd.1.2.2⟩
 have hh:=And.intro n2 (And.intro n3 (And.intro n4 (And.intro h2 (And.intro h3 h4))))
 simp only [↓rA,rB,Nat.reduceAdd,Nat.reduceEqDiff,K2,hh]
 refine qi [] _ (List.Perm.refl _) (ym _ ⟨a',b',rfl⟩) ?_
 rintro v bs rs ⟨⟨y,es',he',rfl⟩,rfl,rfl⟩
 simp only [↓rA,rB,Tryz.results195]
 refine qB Ty.mixed (by kernel_rfl) 8 (fun i S=>(∃ es:List Int,es.length=8∧S.boxes=[(g,.c (es.map vint++rest)),(b4,.c [vint 0,vu 0]),(b3,.c [vint a',vu b']),(b2,.c [vint a,vu b])])∧S.rows=[]∧S.σ 4=ptr b4∧S.σ 5=slI g 8 c∧S.σ 6=lI y es'∧S.σ 7=vint i) ⟨0,?_⟩ (fun i S hi ⟨⟨es,he,gb⟩,gr,g4,g5,g6,g7⟩=>?_) (fun S ⟨⟨es,he,gb⟩,gr,g4,g5,g6,g7⟩=>?_)
 ·simp only [rB,Nat.reduceEqDiff]
  exact⟨es,he,rfl⟩
 ·have hwi:=qk (i:=i) (N:=8) hi (by omega)
  have hi8:(i:Int) < 8:=by omega
  have hie:i < es.length:=by omega
  have hie':i < es'.length:=by omega
  obtain⟨A,B,hA,e1,e2⟩:=Zs hie
  have hA1:A.length=i * 1:=by omega
  rw [e1,List.append_assoc,List.cons_append] at gb
  simp only [↓rA,rB,Nat.reduceEqDiff,K2,gb,gr,g4,g5,g6,g7,hwi,Int.ofNat_lt,hi,he',List.length_map,qd _ _ _ hie',qyu hA1,hi8]
  refine⟨by rw [List.length_append,List.length_cons];omega,0,es.set i (IntKind.i64.wrap (es[i]+es'[i])),by rw [List.length_set];exact he,?_⟩
  rw [List.drop_zero,e2,qv9 hA1,List.append_assoc,List.cons_append]
 ·have q:¬ ((8:Nat):Int) < 8:=by decide
  simp only [↓rA,rB,Nat.reduceEqDiff,K2,gb,g5,g7,q]
  refine qi [_] _ (List.Perm.refl _) (Jg _ _ ⟨g,c,es,rest,he,hc,hr,rfl,rfl⟩) ?_
  rintro v bs rs ⟨hv,rfl,rfl⟩
  simp only [↓rA,rB,K2]
  refine qi [] _ (List.Perm.refl _) (qim _ hv) ?_
  rintro v bs rs ⟨⟨x,x',rfl⟩,rfl,rfl⟩
  simp only [↓rA,rB,Nat.reduceAdd,Nat.reduceEqDiff,K2,g4]
  exact⟨_,[],[],Le.refl _,List.nil_sublist _,List.nil_sublist _,⟨_,_,rfl⟩,rfl,rfl⟩
def K1:=(aI (aI (aI Ty.c199 Ty.c200) (aI Ty.c201 Ty.t143)) (aI (aI Ty.t223 Ty.t3) (aI Ty.t4 Ty.t56)))
theorem qzi (v w:V) (hv:Wd v) (hw:Wd w):Ok Tryz.prog 207 [v,w] [] fun v bs rs=>Wd v∧bs=[]∧rs=[]:=by
 obtain⟨a,b,rfl⟩:=hv
 obtain⟨a',b',rfl⟩:=hw
 refine Ok.of_ex Ty.mixed Tryz.func207 rfl (by simp [Tryz.ntmps207]) (by kernel_rfl) fun F w0 I0=>?_
 simp only [↓rA,rB,qf,Nat.reduceLT]
 refine fun b2 h2=>?_;replace h2:=qn h2;try simp only [Nb] at h2
 simp only [↓rA,rB,qf,Nat.reduceEqDiff,Nat.reduceLT]
 refine fun b3 h3=>?_;replace h3:=qn h3;try simp only [Nb] at h3
 simp only [↓rA,rB,K1]
 refine fun b4 h4=>?_;replace h4:=qn h4;try simp only [Nb] at h4
 simp only [↓rA,rB,Nat.reduceAdd,Nat.reduceEqDiff,K1,h3,h4]
 refine XC [] _ (List.Perm.refl _) (Xp _ ⟨a,b,rfl⟩) ?_
 rintro v bs rs ⟨⟨g,c,es,rest,he,hc,hr,rfl,rfl⟩,rfl⟩ hnd
 simp only [List.map_cons,List.map_nil,List.nodup_cons,List.mem_cons,List.not_mem_nil,or_false,not_or,List.cons_append,List.nil_append] at hnd
 have n4:b4 ≠ g∧g ≠ b4:=⟨Ne.symm hnd.1.1,hnd.1.1⟩
 have n3:b3 ≠ g∧g ≠ b3:=⟨Ne.symm hnd.1.2.1,hnd.1.2.1⟩
 have n2:b2 ≠ g∧g ≠ b2:=⟨Ne.symm hnd.1.2.2,hnd.1.2.2⟩
 have hh:=And.intro n2 (And.intro n3 (And.intro n4 (And.intro h2 (And.intro h3 h4))))
 simp only [↓rA,rB,Nat.reduceAdd,Nat.reduceEqDiff,K1,hh]
 refine qi [] _ (List.Perm.refl _) (ym _ ⟨a',b',rfl⟩) ?_
 rintro v bs rs ⟨⟨y,es',he',rfl⟩,rfl,rfl⟩
 simp only [↓rA,rB,Tryz.results207]
 refine qB Ty.mixed (by kernel_rfl) 8 (fun i S=>(∃ es:List Int,es.length=8∧S.boxes=[(g,.c (es.map vint++rest)),(b4,.c [vint 0,vu 0]),(b3,.c [vint a',vu b']),(b2,.c [vint a,vu b])])∧S.rows=[]∧S.σ 4=ptr b4∧S.σ 5=slI g 8 c∧S.σ 6=lI y es'∧S.σ 7=vint i) ⟨0,?_⟩ (fun i S hi ⟨⟨es,he,gb⟩,gr,g4,g5,g6,g7⟩=>?_) (fun S ⟨⟨es,he,gb⟩,gr,g4,g5,g6,g7⟩=>?_)
 ·simp only [rB,Nat.reduceEqDiff]
  exact⟨es,he,rfl⟩
 ·have hwi:=qk (i:=i) (N:=8) hi (by omega)
  have hi8:(i:Int) < 8:=by omega
  have hie:i < es.length:=by omega
  have hie':i < es'.length:=by omega
  obtain⟨A,B,hA,e1,e2⟩:=Zs hie
  have hA1:A.length=i * 1:=by omega
  rw [e1,List.append_assoc,List.cons_append] at gb
  simp only [↓rA,rB,Nat.reduceEqDiff,K1,gb,gr,g4,g5,g6,g7,hwi,Int.ofNat_lt,hi,he',List.length_map,qd _ _ _ hie',qyu hA1,hi8]
  refine⟨by rw [List.length_append,List.length_cons];omega,0,es.set i (IntKind.i64.wrap (es[i] - es'[i])),by rw [List.length_set];exact he,?_⟩
  rw [List.drop_zero,e2,qv9 hA1,List.append_assoc,List.cons_append]
 ·have q:¬ ((8:Nat):Int) < 8:=by decide
  simp only [↓rA,rB,Nat.reduceEqDiff,K1,gb,g5,g7,q]
  refine qi [_] _ (List.Perm.refl _) (Jg _ _ ⟨g,c,es,rest,he,hc,hr,rfl,rfl⟩) ?_
  rintro v bs rs ⟨hv,rfl,rfl⟩
  simp only [↓rA,rB,K1]
  refine qi [] _ (List.Perm.refl _) (qim _ hv) ?_
  rintro v bs rs ⟨⟨x,x',rfl⟩,rfl,rfl⟩
  simp only [↓rA,rB,Nat.reduceAdd,Nat.reduceEqDiff,K1,g4]
  exact⟨_,[],[],Le.refl _,List.nil_sublist _,List.nil_sublist _,⟨_,_,rfl⟩,rfl,rfl⟩
def Yz:=(aI (aI Ty.c194 Ty.c207) (aI Ty.t143 (aI Ty.t223 Ty.t3)))
theorem qqf (v:V) (hv:Wd v):Ok Tryz.prog 206 [v] [] fun v bs rs=>Wd v∧bs=[]∧rs=[]:=by
 obtain⟨a,b,rfl⟩:=hv
 refine Ok.of_exM [(1,3)] Ty.mixed Tryz.func206 rfl (by simp [Tryz.ntmps206]) (by kernel_rfl) fun F w0 I0=>?_
 simp only [↓rA,rB,qf,Nat.reduceLT]
 refine fun b1 h1=>?_;replace h1:=qn h1;try simp only [Nb] at h1
 simp only [↓rA,rB,Yz]
 refine fun b2 h2=>?_;replace h2:=qn h2;try simp only [Nb] at h2
 have hh:=And.intro h1 h2
 simp only [↓rA,rB,Tryz.results206]
 refine Z1 Ty.mixed (by kernel_rfl) (by kernel_rfl) (fun L S=>S.rows=[]∧S.σ 1=ptr b1∧S.σ 2=ptr b2∧(∃ x x',S.boxes=[(b2,.c [vint x,vu x']),(b1,.c [vint a,vu b])])∧(L 0=true→Wd (S.σ 3))∧(L 1=true→S.σ 4=.agg [vint a,vu b])∧(L 2=true→Wd (S.σ 5))) ?_ ?_ ?_
 ·exact⟨rfl,rfl,rfl,⟨_,_,rfl⟩,(fun h=>by cases h),(fun h=>by cases h),(fun h=>by cases h)⟩
 ·intro L S i o ho hL he ⟨gr,g1,g2,⟨x,x',gb⟩,f0,f1,f2⟩
  match i,ho with
  | 0,ho =>
   cases ho
   simp only [↓rA,rB,Yz,gb]
   refine qi [] _ (List.Perm.refl _) (qii 0) ?_
   rintro v bs rs ⟨hv,rfl,rfl⟩
   simp only [↓rA,rB,Nat.reduceEqDiff,gr,g1,g2]
   exact⟨⟨_,_,rfl⟩,fun _=>hv,f1,f2⟩
  | 1,ho =>
   cases ho
   simp only [↓rA,rB,Nat.reduceAdd,Nat.reduceEqDiff,Yz,gr,gb,g1,g2,hh]
   exact⟨⟨_,_,rfl⟩,f0,fun _=>trivial,f2⟩
  | 2,ho =>
   cases ho
   have q0:=f0 (he ⟨0,.data⟩ (by simp) rfl)
   have q1:=f1 (he ⟨1,.data⟩ (by simp) rfl)
   simp only [↓rA,rB,Yz,gb,q1]
   refine qi [] _ (List.Perm.refl _) (qzi _ _ q0 ⟨a,b,rfl⟩) ?_
   rintro v bs rs ⟨hv,rfl,rfl⟩
   simp only [↓rA,rB,Nat.reduceEqDiff,gr,g1,g2]
   exact⟨⟨_,_,rfl⟩,f0,f1,fun _=>hv⟩
  | 3,ho =>
   cases ho
   obtain⟨y,y',q2⟩:=f2 (he ⟨2,.data⟩ (by simp) rfl)
   simp only [↓rA,rB,Nat.reduceAdd,Yz,gr,gb,g1,g2,q2]
   exact⟨⟨_,_,rfl⟩,f0,f1,fun _=>⟨_,_,rfl⟩⟩
 ·intro L S hL ⟨gr,g1,g2,⟨x,x',gb⟩,f0,f1,f2⟩
  simp only [↓rA,rB,Nat.reduceAdd,Yz,gr,gb,g2]
  exact⟨_,[],[],Le.refl _,List.nil_sublist _,List.nil_sublist _,⟨_,_,rfl⟩,rfl,rfl⟩
def qh7:=(aI (aI Ty.c199 (aI Ty.c206 Ty.t143)) (aI (aI Ty.t223 Ty.t3) (aI Ty.t4 Ty.t56)))
theorem YN (v:V) (hv:Wd v):Ok Tryz.prog 202 [v] [] fun v bs rs=>IL v∧bs=[]∧rs=[]:=by
 obtain⟨a,b,rfl⟩:=hv
 refine Ok.of_ex Ty.mixed Tryz.func202 rfl (by simp [Tryz.ntmps202]) (by kernel_rfl) fun F w0 I0=>?_
 simp only [↓rA,rB,qf,Nat.reduceLT]
 refine fun b1 h1=>?_;replace h1:=qn h1;try simp only [Nb] at h1
 simp only [↓rA,rB,Nat.reduceAdd,Nat.reduceEqDiff,qh7]
 refine qe (fun hc=>?_) (fun hc=>?_)
 ·simp only [↓rA,rB,Nat.reduceAdd,Nat.reduceEqDiff,qh7]
  refine qi [] _ (List.Perm.refl _) (qqf _ ⟨a,b,rfl⟩) ?_
  rintro v bs rs ⟨hv,rfl,rfl⟩
  simp only [↓rA,rB,qh7]
  refine qi [] _ (List.Perm.refl _) (ym _ hv) ?_
  rintro v bs rs ⟨hv,rfl,rfl⟩
  simp only [↓rA,rB,Tryz.results202]
  exact⟨_,[],[],Le.refl _,List.nil_sublist _,List.nil_sublist _,hv,rfl,rfl⟩
 ·simp only [↓rA,rB,Nat.reduceAdd,Nat.reduceEqDiff,qh7]
  refine qi [] _ (List.Perm.refl _) (ym _ ⟨a,b,rfl⟩) ?_
  rintro v bs rs ⟨hv,rfl,rfl⟩
  simp only [↓rA,rB,Tryz.results202]
  exact⟨_,[],[],Le.refl _,List.nil_sublist _,List.nil_sublist _,hv,rfl,rfl⟩
end Go.Proofs.YtohdpcjaoiebkaaGreatDoor
set_option linter.unusedSimpArgs false
set_option maxRecDepth 100000
set_option linter.defProp false
namespace Go.Proofs.YtohdpcjaoiebkaaGreatDoor
open Go.VL Go.Ar Go.Lo Go.Proofs.YtohdpcjaoiebkaaGreatDoor
def Qt (v:V):Prop:=∃ (n:Int) (t:Bool),v=.tup [vint n,.lit (.bool t)]
theorem Jk (v w:V) (hv:IL v) (hw:IL w):Ok Tryz.prog 204 [v,w] [] fun v bs rs=>(∃ t,v=.lit (.bool t))∧bs=[]∧rs=[]:=by
 obtain⟨y,es,he,rfl⟩:=hv
 obtain⟨y',es',he',rfl⟩:=hw
 exact qsr y y' es es' he he'
def ku:=(aI (aI (aI Ty.c194 Ty.c202) (aI Ty.c203 (aI Ty.c204 Ty.c205))) (aI (aI Ty.t143 Ty.t223) (aI Ty.t3 (aI Ty.t4 Ty.t56))))
set_option maxHeartbeats 4000000 in
theorem ql5 (v:V) (hv:Wd v) (n:Int):Ok Tryz.prog 196 [v,vint n] [] fun v bs rs=>Qt v∧bs=[]∧rs=[]:=by
 obtain⟨a,b,rfl⟩:=hv
 refine Ok.of_ex Ty.mixed Tryz.func196 rfl (by simp [Tryz.ntmps196]) (by kernel_rfl) fun F w0 I0=>?_
 simp only [↓rA,rB,qf,Nat.reduceLT]
 refine fun b2 h2=>?_;replace h2:=qn h2;try simp only [Nb] at h2
 simp only [↓rA,rB,Nat.reduceEqDiff]
 refine qe (fun hc=>?_) (fun hc=>?_)
 ·simp only [↓rA,rB,Nat.reduceEqDiff,Tryz.results196]
  exact⟨_,[],[],Le.refl _,List.nil_sublist _,List.nil_sublist _,⟨_,_,rfl⟩,rfl,rfl⟩
 simp only [↓rA,rB,Nat.reduceAdd,Nat.reduceEqDiff,ku]
 refine qi [] _ (List.Perm.refl _) (YN _ ⟨a,b,rfl⟩) ?_
 rintro v bs rs ⟨⟨y6,e6,l6,rfl⟩,rfl,rfl⟩
 simp only [↓rA,rB,Nat.reduceEqDiff,ku]
 refine qi [] _ (List.Perm.refl _) (qii n) ?_
 rintro v bs rs ⟨hv,rfl,rfl⟩
 simp only [↓rA,rB,ku]
 refine qi [] _ (List.Perm.refl _) (YN _ hv) ?_
 rintro v bs rs ⟨hden,rfl,rfl⟩
 simp only [↓rA,rB,Int.reduceLE,Int.reduceToNat,Nat.reduceLT,Nat.reduceLeDiff,Nat.reduceMul,ku]
 refine fun b3 h3=>?_;replace h3:=qn h3;try simp only [Nb] at h3
 have hh:=And.intro h2 h3
 simp only [↓rA,rB,Tryz.results196]
 have hz:BI 8 (slI b3 8 8) [(b3,.c (List.replicate 8 [vint 0]).flatten)]:=⟨b3,8,List.replicate 8 0,[],rfl,Nat.le_refl _,rfl,rfl,rfl⟩
 refine XE Ty.mixed (by kernel_rfl) (fun k=>k) (fun(k:Nat) S=>k≤128∧(∃ bs,(k=0→IL (S.σ 8)∧bs=[])∧(∀ n,Ok Tryz.prog 203 [S.σ 8,vint n] bs fun v bs rs=>IL v∧bs=[]∧rs=[])∧S.boxes=bs++[(b2,.c [vint a,vu b])])∧S.rows=[]∧S.σ 1=vint n∧S.σ 2=ptr b2∧S.σ 6=lI y6 e6∧S.σ 7=v∧(∃ t,S.σ 9=vint t)∧S.σ 10=vint ((k:Int) - 1)) 128 ⟨_,_,List.Sublist.refl _,List.Sublist.refl _,?_⟩ (fun k S ⟨hk,⟨bs,h0,hT,gb⟩,gr,g1,g2,g6,g7,⟨t9,g9⟩,g10⟩=>?_)
 ·refine⟨Nat.le_refl _,⟨[_],fun h=>absurd h (by decide),fun n=>qn7 _ _ hz n,rfl⟩,rfl,rfl,rfl,rfl,rfl,⟨_,rfl⟩,rfl⟩
 ·rcases k with _ | m
  ·have q:¬ (0:Int)≤0 - 1:=by decide
   obtain⟨h8,rfl⟩:=h0 rfl
   generalize g8:S.σ 8=r8 at h8 hT
   simp only [↓rA,rB,Nat.reduceEqDiff,ku,gb,g8,g10,q]
   refine qi [] _ (List.Perm.refl _) (hT 0) ?_
   rintro v8 bs rs ⟨hv8,rfl,rfl⟩
   simp only [↓rA,rB,Nat.reduceEqDiff,ku,gr,g7,List.nil_append]
   refine qi [] _ (List.Perm.refl _) (Jk v v8 hden hv8) ?_
   rintro w bs rs ⟨⟨t,rfl⟩,rfl,rfl⟩
   cases t
   ·simp only [↓rA,rB,Nat.reduceEqDiff,ku,gr,g7,List.nil_append]
    refine qi [] _ (List.Perm.refl _) (Jk v8 v hv8 hden) ?_
    rintro w bs rs ⟨⟨t,rfl⟩,rfl,rfl⟩
    cases t <;> simp only [↓rA,rB,Int.reduceEq,Nat.reduceEqDiff,gr,g9,List.nil_append]
    all_goals
     skip
     repeat' (first
      | (refine qe (fun hc=>?_) (fun hc=>?_) <;> (first | (subst hc;try simp only [↓rA,rB,qb,qf,Int.reduceEq,Int.reduceLE,Int.reduceLT,Int.reduceToNat,Nat.reduceAdd,Nat.reduceEqDiff,Nat.reduceLT,Nat.reduceLeDiff,Nat.reduceMul,Nat.reduceSub,reduceCtorEq,ku,Tryz.results196,gb,gr,g1,g2,g6,g7,g8,g9,g10,q,hh,List.nil_append]) | (try simp only [↓rA,rB,Nat.reduceAdd,Nat.reduceEqDiff,ku,gr,g1,g2,g9,hc])))
      | (refine qr (fun hc=>?_) (fun hc=>?_) <;> (first | (subst hc;try simp only [↓rA,rB,qb,qf,Int.reduceEq,Int.reduceLE,Int.reduceLT,Int.reduceToNat,Nat.reduceAdd,Nat.reduceEqDiff,Nat.reduceLT,Nat.reduceLeDiff,Nat.reduceMul,Nat.reduceSub,reduceCtorEq,ku,Tryz.results196,gb,gr,g1,g2,g6,g7,g8,g9,g10,q,hh,List.nil_append]) | (try simp only [↓rA,rB,qb,qf,Int.reduceEq,Int.reduceLE,Int.reduceLT,Int.reduceToNat,Nat.reduceAdd,Nat.reduceEqDiff,Nat.reduceLT,Nat.reduceLeDiff,Nat.reduceMul,Nat.reduceSub,reduceCtorEq,ku,Tryz.results196,gb,gr,g1,g2,g6,g7,g8,g9,g10,q,hh,List.nil_append,hc])))
      | (refine qq (fun hc=>?_) (fun hc=>?_) <;> (first | (subst hc;try simp only [↓rA,rB,qb,qf,Int.reduceEq,Int.reduceLE,Int.reduceLT,Int.reduceToNat,Nat.reduceAdd,Nat.reduceEqDiff,Nat.reduceLT,Nat.reduceLeDiff,Nat.reduceMul,Nat.reduceSub,reduceCtorEq,ku,Tryz.results196,gb,gr,g1,g2,g6,g7,g8,g9,g10,q,hh,List.nil_append]) | (try simp only [↓rA,rB,qb,qf,Int.reduceEq,Int.reduceLE,Int.reduceLT,Int.reduceToNat,Nat.reduceAdd,Nat.reduceEqDiff,Nat.reduceLT,Nat.reduceLeDiff,Nat.reduceMul,Nat.reduceSub,reduceCtorEq,ku,Tryz.results196,gb,gr,g1,g2,g6,g7,g8,g9,g10,q,hh,List.nil_append,hc])))
      | exact⟨_,[],[],Le.refl _,List.nil_sublist _,List.nil_sublist _,⟨_,_,rfl⟩,rfl,rfl⟩)
   ·simp only [↓rA,rB,Nat.reduceEqDiff,gr,g9,List.nil_append]
    repeat' (first
     | (refine qe (fun hc=>?_) (fun hc=>?_) <;> (first | (subst hc;try simp only [↓rA,rB,qb,qf,Int.reduceEq,Int.reduceLE,Int.reduceLT,Int.reduceToNat,Nat.reduceAdd,Nat.reduceEqDiff,Nat.reduceLT,Nat.reduceLeDiff,Nat.reduceMul,Nat.reduceSub,reduceCtorEq,ku,Tryz.results196,gb,gr,g1,g2,g6,g7,g8,g9,g10,q,hh,List.nil_append]) | (try simp only [↓rA,rB,Nat.reduceAdd,Nat.reduceEqDiff,ku,gr,g1,g2,hc])))
     | (refine qr (fun hc=>?_) (fun hc=>?_) <;> (first | (subst hc;try simp only [↓rA,rB,qb,qf,Int.reduceEq,Int.reduceLE,Int.reduceLT,Int.reduceToNat,Nat.reduceAdd,Nat.reduceEqDiff,Nat.reduceLT,Nat.reduceLeDiff,Nat.reduceMul,Nat.reduceSub,reduceCtorEq,ku,Tryz.results196,gb,gr,g1,g2,g6,g7,g8,g9,g10,q,hh,List.nil_append]) | (try simp only [↓rA,rB,qb,qf,Int.reduceEq,Int.reduceLE,Int.reduceLT,Int.reduceToNat,Nat.reduceAdd,Nat.reduceEqDiff,Nat.reduceLT,Nat.reduceLeDiff,Nat.reduceMul,Nat.reduceSub,reduceCtorEq,ku,Tryz.results196,gb,gr,g1,g2,g6,g7,g8,g9,g10,q,hh,List.nil_append,hc])))
     | (refine qq (fun hc=>?_) (fun hc=>?_) <;> (first | (subst hc;try simp only [↓rA,rB,qb,qf,Int.reduceEq,Int.reduceLE,Int.reduceLT,Int.reduceToNat,Nat.reduceAdd,Nat.reduceEqDiff,Nat.reduceLT,Nat.reduceLeDiff,Nat.reduceMul,Nat.reduceSub,reduceCtorEq,ku,Tryz.results196,gb,gr,g1,g2,g6,g7,g8,g9,g10,q,hh,List.nil_append]) | (try simp only [↓rA,rB,qb,qf,Int.reduceEq,Int.reduceLE,Int.reduceLT,Int.reduceToNat,Nat.reduceAdd,Nat.reduceEqDiff,Nat.reduceLT,Nat.reduceLeDiff,Nat.reduceMul,Nat.reduceSub,reduceCtorEq,ku,Tryz.results196,gb,gr,g1,g2,g6,g7,g8,g9,g10,q,hh,List.nil_append,hc])))
     | exact⟨_,[],[],Le.refl _,List.nil_sublist _,List.nil_sublist _,⟨_,_,rfl⟩,rfl,rfl⟩)
  ·have e:(((m+1:Nat)):Int) - 1=(m:Int):=by omega
   rw [e] at g10
   have q:(0:Int)≤(m:Int):=by omega
   have hd:=KI (m:=m) (by omega)
   have ed:IntKind.i64.wrap ((m:Int).tdiv 16)=((m / 16:Nat):Int):=by
    rw [show (m:Int).tdiv 16=((m / 16:Nat):Int) from rfl,zl (by omega) (by omega)]
   have em:(m:Int).tmod 16=((m % 16:Nat):Int):=rfl
   generalize g8:S.σ 8=r8 at hT
   simp only [↓rA,rB,Int.reduceEq,Nat.reduceEqDiff,ku,gb,g6,g8,g10,q]
   have hl:m / 16 < 8:=by omega
   have hl6:m / 16 < e6.length:=by omega
   refine⟨by rw [ed];omega,by rw [ed,List.length_map];omega,?_⟩
   rw [ed,em,Int.toNat_natCast,qd _ _ _ hl6]
   simp only [rB,Int.reduceEq]
   refine qi bs _ (List.Perm.refl _) (hT _) ?_
   rintro v8 bs rs ⟨hv8,rfl,rfl⟩
   simp only [↓rA,rB,Nat.reduceEqDiff,ku,gr,g7,g9]
   refine qi [] _ (List.Perm.refl _) (Jk v8 v hv8 hden) ?_
   rintro w bs rs ⟨⟨t,rfl⟩,rfl,rfl⟩
   cases t
   ·simp only [↓rA,rB,Nat.reduceEqDiff,ku,gr,g7,List.nil_append]
    refine qi [] _ (List.Perm.refl _) (qqi v8 v hv8 hden) ?_
    rintro v9 bs rs ⟨hv9,rfl,rfl⟩
    simp only [↓rA,rB,Nat.reduceEqDiff,gr,List.nil_append]
    refine qe (fun hc=>?_) (fun hc=>?_)
    ·simp only [↓rA,rB,Nat.reduceEqDiff,gr]
     exact⟨_,[],[],Le.refl _,List.nil_sublist _,List.nil_sublist _,⟨_,_,rfl⟩,rfl,rfl⟩
    ·simp only [↓rA,rB,Nat.reduceEqDiff,gr,g10,hd]
     refine⟨m,Nat.lt_succ_self _,_,[],List.Sublist.refl _,List.nil_sublist _,by omega,⟨[],fun _=>⟨?_,rfl⟩,?_,rfl⟩,rfl,g1,g2,g6,g7,⟨_,rfl⟩,rfl⟩
     ·exact hv9
     ·exact fun n=>KR _ hv9 n
   ·simp only [↓rA,rB,Nat.reduceEqDiff,gr,List.nil_append]
    refine qe (fun hc=>?_) (fun hc=>?_)
    ·simp only [↓rA,rB,Nat.reduceEqDiff,gr]
     exact⟨_,[],[],Le.refl _,List.nil_sublist _,List.nil_sublist _,⟨_,_,rfl⟩,rfl,rfl⟩
    ·simp only [↓rA,rB,Nat.reduceEqDiff,gr,g10,hd]
     refine⟨m,Nat.lt_succ_self _,_,[],List.Sublist.refl _,List.nil_sublist _,by omega,⟨[],fun _=>⟨?_,rfl⟩,?_,rfl⟩,rfl,g1,g2,g6,g7,⟨_,rfl⟩,rfl⟩
     ·exact hv8
     ·exact fun n=>KR _ hv8 n
end Go.Proofs.YtohdpcjaoiebkaaGreatDoor
set_option linter.unusedSimpArgs false
set_option maxRecDepth 100000
set_option linter.defProp false
namespace Go.Proofs.YtohdpcjaoiebkaaGreatDoor
open Go.VL Go.Ar Go.Lo Go.Proofs.YtohdpcjaoiebkaaGreatDoor
def QB:=(aI (aI Ty.t126 (aI Ty.t3 Ty.t36)) (aI Ty.t4 (aI Ty.t69 Ty.t9)))
theorem qfj (u:List kK) (hu:u.length≤1000):Ok Tryz.prog 186 [qG u] [] fun v bs rs=>(∃ l:List Str,l.length≤u.length∧v=.list none 1 (l.map fun s=>[qm s]))∧bs=[]∧rs=[]:=by
 refine Ok.of_ex Ty.mixed Tryz.func186 rfl (by simp [Tryz.ntmps186]) (by kernel_rfl) fun F w0 I0=>?_
 simp only [↓rA,rB,Tryz.results186]
 refine zC.nilRow 3 1 9 (by simp only [rB,Nat.reduceEqDiff]) (by decide) ?_
 refine yr Ty.mixed (by kernel_rfl) u.length (fun i S=>∃ y,(∃ l:List Str,l.length≤i∧S.σ 3=.list (some y) 1 (l.map fun s=>[qm s]))∧S.rows=[⟨y,1,9⟩]∧S.σ 0=qG u∧S.σ 4=vint i∧S.boxes=[]) ⟨0,1,nilv,?_⟩ (fun i S hi ⟨y,⟨l,hl,g3⟩,gr,g0,g4,gb⟩=>?_) (fun S ⟨y,⟨l,hl,g3⟩,gr,g0,g4,gb⟩=>?_)
 ·simp only [rB,Nat.reduceEqDiff,reduceCtorEq]
  exact⟨[],Nat.le_refl _,rfl⟩
 ·have hwi:=qk (i:=i) (N:=u.length) hi (by omega)
  simp only [↓rA,rB,Nat.reduceEqDiff,reduceCtorEq,QB,g0,g4,Int.ofNat_lt,hi,List.length_map]
  refine jf Ty.mixed (by kernel_rfl) (fun j=>l.length - j) (fun j S=>j≤l.length∧S.σ 5=vint j∧S.σ 3=.list (some y) 1 (l.map fun s=>[qm s])∧S.rows=[⟨y,1,9⟩]∧S.σ 0=qG u∧S.σ 4=vint i∧S.boxes=[]) 0 ⟨0,?_⟩ fun j S ⟨hj,g5,g3,gr,g0,g4,gb⟩=>?_
  ·simp only [rB,Nat.reduceEqDiff,reduceCtorEq,g3,gr,g0,g4,gb]
   try simp
  ·by_cases hjl:j < l.length
   ·have hwj:=qk hjl (show l.length≤9223372036854775807 by omega)
    generalize hs:u[i].name=s
    cases hc:Op.bytesLess l[j].data.toList s.data.toList
    ·by_cases he:l[j]=s
     ·have hc':Op.bytesLess s.data.toList s.data.toList=false:=he▸hc
      simp only [↓rA,rB,Nat.reduceEqDiff,reduceCtorEq,QB,g3,gr,g0,g4,g5,gb,Int.ofNat_lt,hi,hjl,List.length_map,qd _ _ _ hi,qd _ _ _ hjl,hs,hc',he,hwi]
      exact⟨0,1,y,⟨l,by omega,rfl⟩,rfl⟩
     ·simp only [↓rA,rB,Nat.reduceEqDiff,reduceCtorEq,QB,g3,g0,g4,g5,Int.ofNat_lt,hi,hj,hjl,List.length_map,qd _ _ _ hi,qd _ _ _ hjl,hs,hc,he]
      refine XB.l ?_
      simp only [↓rA,rB,Nat.reduceEqDiff,Nat.reduceLT,Nat.reduceLeDiff,Nat.reduceMul,reduceCtorEq,QB,gr,g0,g4,hs,Int.ofNat_lt,hi,List.length_map,qd _ _ _ hi]
      refine⟨(by first | omega | (simp;omega)),fun y1 y2=>xd ?_⟩
      simp only [↓rA,rB,Nat.reduceEqDiff,Nat.reduceLT,QB,g3,g5,hs,hj,List.length_map,qd _ _ _ hi]
      refine⟨(by first | omega | (simp;omega)),fun y3=>Zq ?_⟩
      simp only [↓rA,rB,Nat.reduceEqDiff,reduceCtorEq,g0,g4,gb,hs,hwi,List.length_map,qd _ _ _ hi]
      refine⟨(by first | omega | (simp;omega)),fun y4=>?_⟩
      exact⟨0,1,y4,⟨l.take j++[s]++l.drop j,by simp;omega,by simp [List.map_take,List.map_drop]⟩,rfl⟩
    ·simp only [↓rA,rB,Nat.reduceEqDiff,reduceCtorEq,QB,g3,gr,g0,g4,g5,gb,Int.ofNat_lt,hi,hjl,List.length_map,qd _ _ _ hi,qd _ _ _ hjl,hs,hc,hwj]
     exact⟨j+1,by omega,0,by omega,rfl⟩
   ·generalize hs:u[i].name=s
    simp only [↓rA,rB,Nat.reduceEqDiff,QB,g3,g5,Int.ofNat_lt,hj,hjl,List.length_map]
    refine XB.l ?_
    simp only [↓rA,rB,Nat.reduceEqDiff,Nat.reduceLT,Nat.reduceLeDiff,Nat.reduceMul,reduceCtorEq,QB,gr,g0,g4,hs,Int.ofNat_lt,hi,List.length_map,qd _ _ _ hi]
    refine⟨(by first | omega | (simp;omega)),fun y1 y2=>xd ?_⟩
    simp only [↓rA,rB,Nat.reduceEqDiff,Nat.reduceLT,QB,g3,g5,hs,hj,List.length_map,qd _ _ _ hi]
    refine⟨(by first | omega | (simp;omega)),fun y3=>Zq ?_⟩
    simp only [↓rA,rB,Nat.reduceEqDiff,reduceCtorEq,g0,g4,gb,hs,hwi,List.length_map,qd _ _ _ hi]
    refine⟨(by first | omega | (simp;omega)),fun y4=>?_⟩
    exact⟨0,1,y4,⟨l.take j++[s]++l.drop j,by simp;omega,by simp [List.map_take,List.map_drop]⟩,rfl⟩
 ·simp only [↓rA,rB,Nat.reduceEqDiff,reduceCtorEq,QB,g3,gr,g0,g4,gb,Int.ofNat_lt,Nat.lt_irrefl,List.length_map]
  exact⟨_,[],[],Le.list _ _ _,List.nil_sublist _,List.nil_sublist _,⟨l,hl,rfl⟩,rfl,rfl⟩
def Zo:=(aI (aI (aI Ty.c110 (aI Ty.c194 Ty.c195)) (aI Ty.c196 (aI Ty.t126 Ty.t138))) (aI (aI Ty.t143 (aI Ty.t223 Ty.t3)) (aI Ty.t36 (aI Ty.t4 Ty.t9))))
theorem qcp (u:List kK) (hu:u.length≤1000) (nm:Str):Ok Tryz.prog 187 [qG u,qm nm] [] fun v bs rs=>Qt v∧bs=[]∧rs=[]:=by
 refine Ok.of_exM [(6,2)] Ty.mixed Tryz.func187 rfl (by simp [Tryz.ntmps187]) (by kernel_rfl) fun F w0 I0=>?_
 simp only [↓rA,rB,Zo]
 refine qi [] _ (List.Perm.refl _) (qii 0) ?_
 rintro v bs rs ⟨⟨x,x',rfl⟩,rfl,rfl⟩
 simp only [↓rA,rB,Zo]
 refine fun b6 h6=>?_;replace h6:=qn h6;try simp only [Nb] at h6
 simp only [↓rA,rB,Nat.reduceAdd,Nat.reduceEqDiff,Zo,Tryz.results187]
 refine qB Ty.mixed (by kernel_rfl) u.length (fun i S=>(∃ x x',S.boxes=[(b6,.c [vint x,vu x'])])∧S.rows=[]∧S.σ 0=qG u∧S.σ 1=qm nm∧S.σ 6=ptr b6∧S.σ 7=vint i) ⟨0,?_⟩ (fun i S hi ⟨⟨x,x',gb⟩,gr,g0,g1,g6,g7⟩=>?_) (fun S ⟨⟨x,x',gb⟩,gr,g0,g1,g6,g7⟩=>?_)
 ·simp only [rB,Nat.reduceEqDiff,reduceCtorEq]
  exact⟨_,_,rfl⟩
 ·have hwi:=qk (i:=i) (N:=u.length) hi (by omega)
  simp only [↓rA,rB,Nat.reduceEqDiff,reduceCtorEq,Zo,g0,g1,g7,Int.ofNat_lt,hi,List.length_map,qd _ _ _ hi]
  refine qe (fun hc=>?_) (fun hc=>?_)
  ·simp only [↓rA,rB,Nat.reduceAdd,Nat.reduceEqDiff,reduceCtorEq,Zo,gb,g0,g6,g7,Int.ofNat_lt,hi,List.length_map,qd _ _ _ hi]
   refine wu (qii _) ?_
   rintro v bs rs ⟨hv,rfl,rfl⟩
   refine⟨rfl,?_⟩
   simp only [↓rA,rB,Nat.reduceEqDiff,Zo,gr]
   refine wu (qA8 _ _ ⟨x,x',rfl⟩ hv) ?_
   rintro v bs rs ⟨⟨z,z',rfl⟩,rfl,rfl⟩
   refine⟨rfl,?_⟩
   simp only [↓rA,rB,Nat.reduceAdd,Nat.reduceEqDiff,reduceCtorEq,Zo,gb,gr,g0,g1,g6,g7,hwi]
   exact⟨0,_,_,rfl⟩
  ·simp only [↓rA,rB,Nat.reduceEqDiff,reduceCtorEq,gb,gr,g0,g1,g6,g7,hwi]
   exact⟨0,_,_,rfl⟩
 ·simp only [↓rA,rB,Nat.reduceAdd,Nat.reduceEqDiff,reduceCtorEq,Zo,gb,g0,g6,g7,Int.ofNat_lt,Nat.lt_irrefl,List.length_map]
  refine qi [] _ (List.Perm.refl _) (ql5 _ ⟨x,x',rfl⟩ 1) ?_
  rintro v bs rs ⟨⟨n,t,rfl⟩,rfl,rfl⟩
  have hf:=qru n
  cases t
  ·simp only [↓rA,rB,Nat.reduceEqDiff,gr]
   exact⟨_,[],[],Le.refl _,List.nil_sublist _,List.nil_sublist _,⟨_,_,rfl⟩,rfl,rfl⟩
  ·simp only [↓rA,rB,Nat.reduceEqDiff,Zo,gr]
   refine qg _ hf ?_
   simp only [↓rA,rB,Nat.reduceEqDiff]
   refine qe (fun hc=>?_) (fun hc=>?_) <;>
   ·simp only [↓rA,rB,Nat.reduceEqDiff]
    exact⟨_,[],[],Le.refl _,List.nil_sublist _,List.nil_sublist _,⟨_,_,rfl⟩,rfl,rfl⟩
def qxx:=(aI (aI Ty.t126 Ty.t3) (aI Ty.t36 (aI Ty.t4 Ty.t9)))
theorem qf1 (u:List kK) (hu:u.length≤1000):Ok Tryz.prog 177 [qG u] [] fun v bs rs=>(∃ u':List kK,u'.length=u.length∧v=qG u')∧bs=[]∧rs=[]:=by
 refine Ok.of_exM [(5,4)] Ty.mixed Tryz.func177 rfl (by simp [Tryz.ntmps177]) (by kernel_rfl) fun F w0 I0=>?_
 simp only [↓rA,rB,Tryz.results177]
 refine zC.nilRow 3 2 126 (by simp only [rB,Nat.reduceEqDiff]) (by decide) ?_
 refine yr Ty.mixed (by kernel_rfl) u.length (fun i S=>∃ y,(∃ l:List kK,l.length=i∧S.σ 3=.list (some y) 2 (l.map qmt))∧S.rows=[⟨y,2,126⟩]∧S.σ 0=qG u∧S.σ 4=vint i∧S.boxes=[]) ⟨0,1,nilv,?_⟩ (fun i S hi ⟨y,⟨l,hl,g3⟩,gr,g0,g4,gb⟩=>?_) (fun S ⟨y,⟨l,hl,g3⟩,gr,g0,g4,gb⟩=>?_)
 ·simp only [rB,Nat.reduceEqDiff,reduceCtorEq]
  exact⟨[],rfl,rfl⟩
 ·have hwi:=qk (i:=i) (N:=u.length) hi (by omega)
  simp only [↓rA,rB,qb,Nat.reduceAdd,Nat.reduceEqDiff,Nat.reduceLT,Nat.reduceLeDiff,Nat.reduceMul,reduceCtorEq,qxx,g3,gr,g0,g4,Int.ofNat_lt,hi,List.length_map,qd _ _ _ hi]
  intro y1
  refine xd ?_
  simp only [↓rA,rB,Nat.reduceEqDiff,reduceCtorEq,g0,g4,gb,hwi,hl,List.length_map]
  refine⟨(by first | omega | (simp;omega)),fun y2=>?_⟩
  refine⟨0,1,y2,⟨l++[⟨u[i].name,IntKind.i64.wrap (0 - u[i].exp)⟩],by simp [hl],by simp⟩,rfl⟩
 ·simp only [↓rA,rB,Nat.reduceEqDiff,reduceCtorEq,qxx,g3,gr,g0,g4,gb,Int.ofNat_lt,Nat.lt_irrefl,List.length_map]
  exact⟨_,[],[],Le.list _ _ _,List.nil_sublist _,List.nil_sublist _,⟨l,hl,rfl⟩,rfl,rfl⟩
end Go.Proofs.YtohdpcjaoiebkaaGreatDoor
set_option linter.unusedSimpArgs false
set_option maxRecDepth 100000
set_option linter.defProp false
namespace Go.Proofs.YtohdpcjaoiebkaaGreatDoor
open Go.VL Go.Ar Go.Lo Go.Proofs.YtohdpcjaoiebkaaGreatDoor
def Ut (v:V):Prop:=∃ (u:List kK) (k:Int),u.length≤1000∧v=.tup [qG u,vint k]
def UT:=(aI (aI (aI Ty.c109 Ty.c186) (aI Ty.c187 (aI Ty.t126 Ty.t138))) (aI (aI Ty.t27 (aI Ty.t3 Ty.t36)) (aI Ty.t4 (aI Ty.t69 Ty.t9))))
theorem qko (u:List kK) (hu:u.length≤1000):Ok Tryz.prog 176 [qG u] [] fun v bs rs=>Ut v∧bs=[]∧rs=[]:=by
 have bad:∀ (k:Int) (X:List (Nat × B)) (Y:List Row),∃ v bs' rs',Le (.tup [nilS,vint k]) v∧bs'.Sublist X∧rs'.Sublist Y∧Ut v∧bs'=[]∧rs'=[]:=fun k X Y =>
  ⟨_,[],[],yV (.cons (Le.nil 2) (.cons (Le.refl _) .nil)),List.nil_sublist _,List.nil_sublist _,⟨[],k,Nat.zero_le _,rfl⟩,rfl,rfl⟩
 refine Ok.of_ex Ty.mixed Tryz.func176 rfl (by simp [Tryz.ntmps176]) (by kernel_rfl) fun F w0 I0=>?_
 simp only [↓rA,rB,Tryz.results176]
 refine qB Ty.mixed (by kernel_rfl) u.length (fun i S=>S.boxes=[]∧S.rows=[]∧S.σ 0=qG u∧S.σ 4=vint i) ⟨0,?_⟩ (fun i S hi ⟨gb,gr,g0,g4⟩=>?_) (fun S ⟨gb,gr,g0,g4⟩=>?_)
 ·simp only [rB,reduceCtorEq]
  try exact rfl
 ·have hwi:=qk (i:=i) (N:=u.length) hi (by omega)
  simp only [↓rA,rB,Nat.reduceEqDiff,reduceCtorEq,UT,gb,g0,g4,Int.ofNat_lt,hi,List.length_map,qd _ _ _ hi]
  refine qg _ (Yk _) ?_
  simp only [↓rA,rB,gr]
  refine qe (fun hc=>?_) (fun hc=>?_)
  ·simp only [↓rA,rB,Nat.reduceEqDiff,gr]
   exact bad _ _ _
  ·simp only [↓rA,rB,Nat.reduceEqDiff,reduceCtorEq,gr,g0,g4,hwi]
   exact⟨0,trivial⟩
 ·simp only [↓rA,rB,Nat.reduceEqDiff,reduceCtorEq,UT,gb,g0,g4,Int.ofNat_lt,Nat.lt_irrefl,List.length_map]
  refine qi [] _ (List.Perm.refl _) (qfj u hu) ?_
  rintro v bs rs ⟨⟨l,hl,rfl⟩,rfl,rfl⟩
  simp only [↓rA,rB,gr]
  refine zC.nilRow 7 2 126 (by simp only [rB,Nat.reduceEqDiff]) (by decide) ?_
  refine yr Ty.mixed (by kernel_rfl) l.length (fun i S=>∃ y,(∃ w:List kK,w.length≤i∧S.σ 7=.list (some y) 2 (w.map qmt))∧S.rows=[⟨y,2,126⟩]∧S.σ 0=qG u∧S.σ 6=.list none 1 (l.map fun s=>[qm s])∧S.σ 8=vint i∧S.boxes=[]) ⟨0,1,nilv,?_⟩ (fun i S hi ⟨y,⟨w,hw,g7⟩,gr,g0,g6,g8,gb⟩=>?_) (fun S ⟨y,⟨w,hw,g7⟩,gr,g0,g6,g8,gb⟩=>?_)
  ·simp only [rB,Nat.reduceEqDiff,reduceCtorEq,g0]
   exact⟨[],Nat.le_refl _,rfl⟩
  ·have hwi:=qk (i:=i) (N:=l.length) hi (by omega)
   simp only [↓rA,rB,Nat.reduceEqDiff,reduceCtorEq,UT,gb,g0,g6,g8,Int.ofNat_lt,hi,List.length_map,qd _ _ _ hi]
   refine qi [] _ (List.Perm.refl _) (qcp u hu _) ?_
   rintro v bs rs ⟨⟨n,t,rfl⟩,rfl,rfl⟩
   cases t
   ·simp only [↓rA,rB,Nat.reduceEqDiff,gr]
    exact bad _ _ _
   ·simp only [↓rA,rB,Nat.reduceEqDiff,gr]
    refine qe (fun hc=>?_) (fun hc=>?_)
    ·simp only [↓rA,rB,qb,Nat.reduceAdd,Nat.reduceEqDiff,Nat.reduceLT,Nat.reduceLeDiff,Nat.reduceMul,UT,gr,g6,g7,g8,Int.ofNat_lt,hi,List.length_map,qd _ _ _ hi]
     intro y1
     refine xd ?_
     simp only [↓rA,rB,Nat.reduceEqDiff,reduceCtorEq,gr,g0,g6,g8,hwi,List.length_map]
     refine⟨(by first | omega | (simp;omega)),fun y2=>?_⟩
     exact⟨0,1,y2,⟨w++[⟨l[i],n⟩],by simp;omega,by simp⟩,rfl⟩
    ·simp only [↓rA,rB,Nat.reduceEqDiff,reduceCtorEq,gr,g0,g6,g7,g8,hwi]
     exact⟨0,1,y,⟨w,by omega,rfl⟩,rfl⟩
  ·simp only [↓rA,rB,Nat.reduceEqDiff,UT,g6,g7,g8,Int.ofNat_lt,Nat.lt_irrefl,List.length_map]
   refine qe (fun hc=>?_) (fun hc=>?_)
   ·simp only [↓rA,rB,Nat.reduceEqDiff,gb,gr]
    exact bad _ _ _
   ·simp only [↓rA,rB,Nat.reduceEqDiff,gb,gr,g7]
    exact⟨_,[],[],yV (.cons (Le.list _ _ _) (.cons (Le.refl _) .nil)),List.nil_sublist _,List.nil_sublist _,⟨w,0,by omega,rfl⟩,rfl,rfl⟩
def qou:=(aI (aI (aI Ty.c176 Ty.c71) (aI Ty.t126 Ty.t200)) (aI (aI Ty.t27 Ty.t3) (aI Ty.t36 (aI Ty.t4 Ty.t9))))
theorem kB (u w:List kK):Ok Tryz.prog 162 [qG u,qG w] [] fun v bs rs=>Ut v∧bs=[]∧rs=[]:=by
 have bad:∀ (k:Int) (X:List (Nat × B)) (Y:List Row),∃ v bs' rs',Le (.tup [nilS,vint k]) v∧bs'.Sublist X∧rs'.Sublist Y∧Ut v∧bs'=[]∧rs'=[]:=fun k X Y =>
  ⟨_,[],[],yV (.cons (Le.nil 2) (.cons (Le.refl _) .nil)),List.nil_sublist _,List.nil_sublist _,⟨[],k,Nat.zero_le _,rfl⟩,rfl,rfl⟩
 refine Ok.of_ex Ty.mixed Tryz.func162 rfl (by simp [Tryz.ntmps162]) (by kernel_rfl) fun F w0 I0=>?_
 simp only [↓rA,rB,reduceCtorEq,qou]
 refine qg _ (yC u) ?_
 by_cases hu:xI u=0
 case neg =>
  simp only [↓rA,rB,Nat.reduceEqDiff,Tryz.results162,hu]
  exact bad _ _ _
 have lu:=kM hu
 simp only [↓rA,rB,Nat.reduceEqDiff,qou,hu]
 refine qg _ (yC w) ?_
 by_cases hw:xI w=0
 case neg =>
  simp only [↓rA,rB,Nat.reduceEqDiff,Tryz.results162,hw]
  exact bad _ _ _
 have lw:=kM hw
 simp only [↓rA,rB,Nat.reduceEqDiff,reduceCtorEq,hw]
 refine XB.l ?_
 simp only [↓rA,rB,Nat.reduceAdd,Nat.reduceEqDiff,Nat.reduceLT,qou,hw]
 refine⟨by rw [List.length_map];omega,fun y1=>⟨by rw [List.length_map,List.length_map];omega,fun y2=>?_⟩⟩
 refine qi [] _ (List.Perm.refl _) (Ok.le (.cons (by rw [← List.map_append];exact Le.list _ _ _) .nil) (qko (u++w) (by rw [List.length_append];omega))) ?_
 rintro v bs rs ⟨⟨z,k,hz,rfl⟩,rfl,rfl⟩
 simp only [↓rA,rB,Nat.reduceEqDiff,Tryz.results162]
 exact⟨_,[],[],Le.refl _,List.nil_sublist _,List.nil_sublist _,⟨z,k,hz,rfl⟩,rfl,rfl⟩
def qh6:=(aI (aI (aI Ty.c162 Ty.c177) (aI Ty.c71 (aI Ty.t126 Ty.t200))) (aI (aI Ty.t27 Ty.t3) (aI Ty.t36 (aI Ty.t4 Ty.t9))))
theorem ke (u w:List kK):Ok Tryz.prog 163 [qG u,qG w] [] fun v bs rs=>Ut v∧bs=[]∧rs=[]:=by
 have bad:∀ (k:Int) (X:List (Nat × B)) (Y:List Row),∃ v bs' rs',Le (.tup [nilS,vint k]) v∧bs'.Sublist X∧rs'.Sublist Y∧Ut v∧bs'=[]∧rs'=[]:=fun k X Y =>
  ⟨_,[],[],yV (.cons (Le.nil 2) (.cons (Le.refl _) .nil)),List.nil_sublist _,List.nil_sublist _,⟨[],k,Nat.zero_le _,rfl⟩,rfl,rfl⟩
 refine Ok.of_ex Ty.mixed Tryz.func163 rfl (by simp [Tryz.ntmps163]) (by kernel_rfl) fun F w0 I0=>?_
 simp only [↓rA,rB,reduceCtorEq,qh6]
 refine qg _ (yC u) ?_
 by_cases hu:xI u=0
 case neg =>
  simp only [↓rA,rB,Nat.reduceEqDiff,Tryz.results163,hu]
  exact bad _ _ _
 simp only [↓rA,rB,Nat.reduceEqDiff,qh6,hu]
 refine qg _ (yC w) ?_
 by_cases hw:xI w=0
 case neg =>
  simp only [↓rA,rB,Nat.reduceEqDiff,Tryz.results163,hw]
  exact bad _ _ _
 have lw:=kM hw
 simp only [↓rA,rB,Nat.reduceEqDiff,reduceCtorEq,qh6,hw]
 refine qi [] _ (List.Perm.refl _) (qf1 w (by omega)) ?_
 rintro v bs rs ⟨⟨u',_,rfl⟩,rfl,rfl⟩
 simp only [↓rA,rB,Nat.reduceEqDiff,qh6]
 refine qi [] _ (List.Perm.refl _) (kB u u') ?_
 rintro v bs rs ⟨⟨z,k,hz,rfl⟩,rfl,rfl⟩
 simp only [↓rA,rB,Nat.reduceEqDiff,Tryz.results163]
 exact⟨_,[],[],Le.refl _,List.nil_sublist _,List.nil_sublist _,⟨z,k,hz,rfl⟩,rfl,rfl⟩
end Go.Proofs.YtohdpcjaoiebkaaGreatDoor
set_option linter.unusedSimpArgs false
set_option maxRecDepth 100000
set_option linter.defProp false
namespace Go.Proofs.YtohdpcjaoiebkaaGreatDoor
open Go.VL Go.Ar Go.Lo Go.Proofs.YtohdpcjaoiebkaaGreatDoor
theorem vj {u:List kK} (h:u.length≤1000):u.length≤big:=by unfold big;omega
def qt:=(aI (aI (aI Ty.c161 (aI Ty.c162 Ty.c163)) (aI Ty.c58 (aI Ty.c70 Ty.t126))) (aI (aI Ty.t200 (aI Ty.t27 Ty.t3)) (aI (aI Ty.t36 Ty.t4) (aI Ty.t43 Ty.t9))))
set_option maxHeartbeats 4000000 in
theorem qg2 (o:Str) (a b:Typ) (ha:wv a) (hb:wv b):UA Tryz.prog 145 [qm o,Qm a,Qm b]:=by
 refine Ok.of_ex Ty.mixed Tryz.func145 rfl (by simp [Tryz.ntmps145]) (by kernel_rfl) fun F w0 I0=>?_
 simp only [↓rA,rB,qf,Nat.reduceLT]
 refine fun b4 h4=>?_;replace h4:=qn h4;try simp only [Nb] at h4
 simp only [↓rA,rB,qf,Nat.reduceEqDiff,Nat.reduceLT]
 refine fun b5 h5=>?_;replace h5:=qn h5;try simp only [Nb] at h5
 simp only [↓rA,rB,qt]
 refine fun b6 h6=>?_;replace h6:=qn h6;try simp only [Nb] at h6
 simp only [↓rA,rB,qb,Nat.reduceAdd,Nat.reduceLeDiff,qt]
 refine fun b8 h8=>?_;replace h8:=qn h8;try simp only [Nb] at h8
 have hh:=And.intro h4 (And.intro h5 (And.intro h6 h8))
 simp only [↓zA,↓xm,↓uQ,↓wF,xy,qs,uz,Wm,uy,jC,vf,ko,vg,uK,jF,yI,xW,yO,vi,zR,QO,yP,Nat.le_refl,eq_self,and_self,not_false_eq_true,ne_eq,List.map_cons,List.map_nil,List.take_zero,List.drop_succ_cons,List.drop_nil,List.length_cons,List.length_nil,List.nil_append,List.append_nil,List.toList_toArray,Nat.zero_add,Bool.and_true,Nat.reduceEqDiff,Nat.reduceAdd,qt,Tryz.results145]
 rw [z6]
 refine kz (fun S=>S.boxes=[(b8,.c [vint 1,nilS,qm es0]),(b6,.c [vint 0,nilS,qm es0]),(b5,.c [vint b.kind,qG b.unit,qm b.of]),(b4,.c [vint a.kind,qG a.unit,qm a.of])]∧S.rows=[]∧S.σ 0=qm o∧S.σ 4=ptr b4∧S.σ 5=ptr b5∧S.σ 6=ptr b6∧S.σ 8=ptr b8∧∃ n,S.σ 9=qv n) ?_ ?_
 ·simp only [↓rA,rB,Nat.reduceAdd,Nat.reduceEqDiff,qt,hh]
  repeat' (first
   | (refine qe (fun hc=>?_) (fun hc=>?_) <;> (first | (subst hc;try simp only [↓rA,rB,qb,qf,Int.reduceEq,Int.reduceLE,Int.reduceLT,Int.reduceToNat,Nat.reduceAdd,Nat.reduceEqDiff,Nat.reduceLT,Nat.reduceLeDiff,Nat.reduceMul,Nat.reduceSub,reduceCtorEq,qt,Tryz.results145,hh]) | (try simp only [↓rA,rB,Nat.reduceEqDiff,reduceCtorEq,hc])))
   | (refine qr (fun hc=>?_) (fun hc=>?_) <;> (first | (subst hc;try simp only [↓rA,rB,qb,qf,Int.reduceEq,Int.reduceLE,Int.reduceLT,Int.reduceToNat,Nat.reduceAdd,Nat.reduceEqDiff,Nat.reduceLT,Nat.reduceLeDiff,Nat.reduceMul,Nat.reduceSub,reduceCtorEq,qt,Tryz.results145,hh]) | (try simp only [↓rA,rB,Nat.reduceAdd,Nat.reduceEqDiff,reduceCtorEq,qt,hh,hc])))
   | (refine qq (fun hc=>?_) (fun hc=>?_) <;> (first | (subst hc;try simp only [↓rA,rB,qb,qf,Int.reduceEq,Int.reduceLE,Int.reduceLT,Int.reduceToNat,Nat.reduceAdd,Nat.reduceEqDiff,Nat.reduceLT,Nat.reduceLeDiff,Nat.reduceMul,Nat.reduceSub,reduceCtorEq,qt,Tryz.results145,hh]) | (try simp only [↓rA,rB,qb,qf,Int.reduceEq,Int.reduceLE,Int.reduceLT,Int.reduceToNat,Nat.reduceAdd,Nat.reduceEqDiff,Nat.reduceLT,Nat.reduceLeDiff,Nat.reduceMul,Nat.reduceSub,reduceCtorEq,qt,Tryz.results145,hh,hc])))
   | (refine qg _ (zB _ _ _) ?_;try simp only [↓rA,rB,Nat.reduceEqDiff])
   | exact⟨_,rfl⟩)
 rintro S ⟨gb,gr,g0,g4,g5,g6,g8,n,g9⟩
 rw [z6]
 simp only [↓jI,↓zA,↓xm,↓kp,xy,qs,wh]
 rw [z6]
 refine kz (fun S=>S.boxes=[(b8,.c [vint 1,nilS,qm es0]),(b6,.c [vint 0,nilS,qm es0]),(b5,.c [vint b.kind,qG b.unit,qm b.of]),(b4,.c [vint a.kind,qG a.unit,qm a.of])]∧S.rows=[]∧S.σ 0=qm o∧S.σ 4=ptr b4∧S.σ 5=ptr b5∧S.σ 6=ptr b6∧S.σ 8=ptr b8∧S.σ 9=qv n∧∃ k,S.σ 10=vint k) ?_ ?_
 ·simp only [↓rA,rB,Nat.reduceAdd,Nat.reduceEqDiff,qt,gb,g4,hh]
  repeat' (first
   | (refine qe (fun hc=>?_) (fun hc=>?_) <;> (first | (subst hc;try simp only [↓rA,rB,qb,qf,Int.reduceEq,Int.reduceLE,Int.reduceLT,Int.reduceToNat,Nat.reduceAdd,Nat.reduceEqDiff,Nat.reduceLT,Nat.reduceLeDiff,Nat.reduceMul,Nat.reduceSub,reduceCtorEq,qt,Tryz.results145,gb,gr,g0,g4,g5,g6,g8,g9,hh]) | (try simp only [↓rA,rB,Nat.reduceEqDiff,reduceCtorEq,gb,gr,g0,g4,g5,g6,g8,g9,hc])))
   | (refine qr (fun hc=>?_) (fun hc=>?_) <;> (first | (subst hc;try simp only [↓rA,rB,qb,qf,Int.reduceEq,Int.reduceLE,Int.reduceLT,Int.reduceToNat,Nat.reduceAdd,Nat.reduceEqDiff,Nat.reduceLT,Nat.reduceLeDiff,Nat.reduceMul,Nat.reduceSub,reduceCtorEq,qt,Tryz.results145,gb,gr,g0,g4,g5,g6,g8,g9,hh]) | (try simp only [↓rA,rB,Nat.reduceAdd,Nat.reduceEqDiff,reduceCtorEq,qt,gb,gr,g0,g4,g5,g6,g8,g9,hh,hc])))
   | (refine qq (fun hc=>?_) (fun hc=>?_) <;> (first | (subst hc;try simp only [↓rA,rB,qb,qf,Int.reduceEq,Int.reduceLE,Int.reduceLT,Int.reduceToNat,Nat.reduceAdd,Nat.reduceEqDiff,Nat.reduceLT,Nat.reduceLeDiff,Nat.reduceMul,Nat.reduceSub,reduceCtorEq,qt,Tryz.results145,gb,gr,g0,g4,g5,g6,g8,g9,hh]) | (try simp only [↓rA,rB,qb,qf,Int.reduceEq,Int.reduceLE,Int.reduceLT,Int.reduceToNat,Nat.reduceAdd,Nat.reduceEqDiff,Nat.reduceLT,Nat.reduceLeDiff,Nat.reduceMul,Nat.reduceSub,reduceCtorEq,qt,Tryz.results145,gb,gr,g0,g4,g5,g6,g8,g9,hh,hc])))
   | exact⟨_,rfl⟩)
 clear gb gr g0 g4 g5 g6 g8 g9 S
 rintro S ⟨gb,gr,g0,g4,g5,g6,g8,g9,k,g10⟩
 by_cases e0:o=⟨#[97,110,100]⟩
 ·have f0:(o=⟨#[97,110,100]⟩)=True:=eq_true e0
  have f1:(o=⟨#[111,114]⟩)=False:=eq_false (by rw [e0];decide)
  have f2:(o=⟨#[61,61]⟩)=False:=eq_false (by rw [e0];decide)
  have f3:(o=⟨#[33,61]⟩)=False:=eq_false (by rw [e0];decide)
  have f4:(o=⟨#[60]⟩)=False:=eq_false (by rw [e0];decide)
  have f5:(o=⟨#[60,61]⟩)=False:=eq_false (by rw [e0];decide)
  have f6:(o=⟨#[42]⟩)=False:=eq_false (by rw [e0];decide)
  have f7:(o=⟨#[47]⟩)=False:=eq_false (by rw [e0];decide)
  have ff:=And.intro f0 ( And.intro f1 ( And.intro f2 ( And.intro f3 ( And.intro f4 ( And.intro f5 ( And.intro f6 (f7)))))))
  clear f0 f1 f2 f3 f4 f5 f6 f7
  simp only [↓rA,rB,Nat.reduceAdd,Nat.reduceEqDiff,reduceCtorEq,qt,gb,g0,g4,hh,ff]
  repeat' (first
   | (refine qe (fun hc=>?_) (fun hc=>?_) <;> (first | (subst hc;try simp only [↓rA,rB,qb,qf,Int.reduceEq,Int.reduceLE,Int.reduceLT,Int.reduceToNat,Nat.reduceAdd,Nat.reduceEqDiff,Nat.reduceLT,Nat.reduceLeDiff,Nat.reduceMul,Nat.reduceSub,reduceCtorEq,qt,Tryz.results145,gb,gr,g0,g4,g5,g6,g8,g9,g10,hh,ff]) | (try simp only [↓rA,rB,qb,Nat.reduceAdd,Nat.reduceEqDiff,qt,gb,gr,g6,g8,hh,hc])))
   | (refine qr (fun hc=>?_) (fun hc=>?_) <;> (first | (subst hc;try simp only [↓rA,rB,qb,qf,Int.reduceEq,Int.reduceLE,Int.reduceLT,Int.reduceToNat,Nat.reduceAdd,Nat.reduceEqDiff,Nat.reduceLT,Nat.reduceLeDiff,Nat.reduceMul,Nat.reduceSub,reduceCtorEq,qt,Tryz.results145,gb,gr,g0,g4,g5,g6,g8,g9,g10,hh,ff]) | (try simp only [↓rA,rB,qb,qf,Int.reduceEq,Int.reduceLE,Int.reduceLT,Int.reduceToNat,Nat.reduceAdd,Nat.reduceEqDiff,Nat.reduceLT,Nat.reduceLeDiff,Nat.reduceMul,Nat.reduceSub,reduceCtorEq,qt,Tryz.results145,gb,gr,g0,g4,g5,g6,g8,g9,g10,hh,ff,hc])))
   | (refine qq (fun hc=>?_) (fun hc=>?_) <;> (first | (subst hc;try simp only [↓rA,rB,qb,qf,Int.reduceEq,Int.reduceLE,Int.reduceLT,Int.reduceToNat,Nat.reduceAdd,Nat.reduceEqDiff,Nat.reduceLT,Nat.reduceLeDiff,Nat.reduceMul,Nat.reduceSub,reduceCtorEq,qt,Tryz.results145,gb,gr,g0,g4,g5,g6,g8,g9,g10,hh,ff]) | (try simp only [↓rA,rB,qb,Nat.reduceAdd,Nat.reduceEqDiff,qt,gb,gr,g5,g6,hh,hc])))
   | (refine qg _ (zB _ _ _) ?_;try simp only [↓rA,rB,qb,qf,Int.reduceEq,Int.reduceLE,Int.reduceLT,Int.reduceToNat,Nat.reduceAdd,Nat.reduceEqDiff,Nat.reduceLT,Nat.reduceLeDiff,Nat.reduceMul,Nat.reduceSub,reduceCtorEq,qt,Tryz.results145,gb,gr,g0,g4,g5,g6,g8,g9,g10,hh,ff])
   | (refine qg _ (xj _ _ ha) ?_;try simp only [↓rA,rB,qb,qf,Int.reduceEq,Int.reduceLE,Int.reduceLT,Int.reduceToNat,Nat.reduceAdd,Nat.reduceEqDiff,Nat.reduceLT,Nat.reduceLeDiff,Nat.reduceMul,Nat.reduceSub,reduceCtorEq,qt,Tryz.results145,gb,gr,g0,g4,g5,g6,g8,g9,g10,hh,ff])
   | (refine qi [] _ (List.Perm.refl _) (kB _ _) ?_;rintro v bs rs ⟨⟨u,k,hu,rfl⟩,rfl,rfl⟩;try simp only [↓rA,rB,qb,qf,Int.reduceEq,Int.reduceLE,Int.reduceLT,Int.reduceToNat,Nat.reduceAdd,Nat.reduceEqDiff,Nat.reduceLT,Nat.reduceLeDiff,Nat.reduceMul,Nat.reduceSub,reduceCtorEq,qt,Tryz.results145,gb,gr,g0,g4,g5,g6,g8,g9,g10,hh,ff])
   | (refine qi [] _ (List.Perm.refl _) (ke _ _) ?_;rintro v bs rs ⟨⟨u,k,hu,rfl⟩,rfl,rfl⟩;try simp only [↓rA,rB,qb,qf,Int.reduceEq,Int.reduceLE,Int.reduceLT,Int.reduceToNat,Nat.reduceAdd,Nat.reduceEqDiff,Nat.reduceLT,Nat.reduceLeDiff,Nat.reduceMul,Nat.reduceSub,reduceCtorEq,qt,Tryz.results145,gb,gr,g0,g4,g5,g6,g8,g9,g10,hh,ff])
   | (refine qi [] _ (List.Perm.refl _) (zO _ _ ha) ?_;rintro v bs rs ⟨⟨t,rfl⟩,rfl,rfl⟩;try simp only [↓rA,rB,qb,qf,Int.reduceEq,Int.reduceLE,Int.reduceLT,Int.reduceToNat,Nat.reduceAdd,Nat.reduceEqDiff,Nat.reduceLT,Nat.reduceLeDiff,Nat.reduceMul,Nat.reduceSub,reduceCtorEq,qt,Tryz.results145,gb,gr,g0,g4,g5,g6,g8,g9,g10,hh,ff])
   | exact zG _ _ _ _ _
   | exact zY _ _ _ _ _ _ _ (Le.refl _) ha
   | exact zY _ _ _ _ _ _ _ (Le.refl _) (vj (by assumption)))
 by_cases e1:o=⟨#[111,114]⟩
 ·have f0:(o=⟨#[97,110,100]⟩)=False:=eq_false (by rw [e1];decide)
  have f1:(o=⟨#[111,114]⟩)=True:=eq_true e1
  have f2:(o=⟨#[61,61]⟩)=False:=eq_false (by rw [e1];decide)
  have f3:(o=⟨#[33,61]⟩)=False:=eq_false (by rw [e1];decide)
  have f4:(o=⟨#[60]⟩)=False:=eq_false (by rw [e1];decide)
  have f5:(o=⟨#[60,61]⟩)=False:=eq_false (by rw [e1];decide)
  have f6:(o=⟨#[42]⟩)=False:=eq_false (by rw [e1];decide)
  have f7:(o=⟨#[47]⟩)=False:=eq_false (by rw [e1];decide)
  have ff:=And.intro f0 ( And.intro f1 ( And.intro f2 ( And.intro f3 ( And.intro f4 ( And.intro f5 ( And.intro f6 (f7)))))))
  clear f0 f1 f2 f3 f4 f5 f6 f7
  simp only [↓rA,rB,Nat.reduceAdd,Nat.reduceEqDiff,reduceCtorEq,qt,gb,g0,g4,hh,ff]
  repeat' (first
   | (refine qe (fun hc=>?_) (fun hc=>?_) <;> (first | (subst hc;try simp only [↓rA,rB,qb,qf,Int.reduceEq,Int.reduceLE,Int.reduceLT,Int.reduceToNat,Nat.reduceAdd,Nat.reduceEqDiff,Nat.reduceLT,Nat.reduceLeDiff,Nat.reduceMul,Nat.reduceSub,reduceCtorEq,qt,Tryz.results145,gb,gr,g0,g4,g5,g6,g8,g9,g10,hh,ff]) | (try simp only [↓rA,rB,qb,Nat.reduceAdd,Nat.reduceEqDiff,qt,gb,gr,g6,g8,hh,hc])))
   | (refine qr (fun hc=>?_) (fun hc=>?_) <;> (first | (subst hc;try simp only [↓rA,rB,qb,qf,Int.reduceEq,Int.reduceLE,Int.reduceLT,Int.reduceToNat,Nat.reduceAdd,Nat.reduceEqDiff,Nat.reduceLT,Nat.reduceLeDiff,Nat.reduceMul,Nat.reduceSub,reduceCtorEq,qt,Tryz.results145,gb,gr,g0,g4,g5,g6,g8,g9,g10,hh,ff]) | (try simp only [↓rA,rB,qb,qf,Int.reduceEq,Int.reduceLE,Int.reduceLT,Int.reduceToNat,Nat.reduceAdd,Nat.reduceEqDiff,Nat.reduceLT,Nat.reduceLeDiff,Nat.reduceMul,Nat.reduceSub,reduceCtorEq,qt,Tryz.results145,gb,gr,g0,g4,g5,g6,g8,g9,g10,hh,ff,hc])))
   | (refine qq (fun hc=>?_) (fun hc=>?_) <;> (first | (subst hc;try simp only [↓rA,rB,qb,qf,Int.reduceEq,Int.reduceLE,Int.reduceLT,Int.reduceToNat,Nat.reduceAdd,Nat.reduceEqDiff,Nat.reduceLT,Nat.reduceLeDiff,Nat.reduceMul,Nat.reduceSub,reduceCtorEq,qt,Tryz.results145,gb,gr,g0,g4,g5,g6,g8,g9,g10,hh,ff]) | (try simp only [↓rA,rB,qb,Nat.reduceAdd,Nat.reduceEqDiff,qt,gb,gr,g5,g6,hh,hc])))
   | (refine qg _ (zB _ _ _) ?_;try simp only [↓rA,rB,qb,qf,Int.reduceEq,Int.reduceLE,Int.reduceLT,Int.reduceToNat,Nat.reduceAdd,Nat.reduceEqDiff,Nat.reduceLT,Nat.reduceLeDiff,Nat.reduceMul,Nat.reduceSub,reduceCtorEq,qt,Tryz.results145,gb,gr,g0,g4,g5,g6,g8,g9,g10,hh,ff])
   | (refine qg _ (xj _ _ ha) ?_;try simp only [↓rA,rB,qb,qf,Int.reduceEq,Int.reduceLE,Int.reduceLT,Int.reduceToNat,Nat.reduceAdd,Nat.reduceEqDiff,Nat.reduceLT,Nat.reduceLeDiff,Nat.reduceMul,Nat.reduceSub,reduceCtorEq,qt,Tryz.results145,gb,gr,g0,g4,g5,g6,g8,g9,g10,hh,ff])
   | (refine qi [] _ (List.Perm.refl _) (kB _ _) ?_;rintro v bs rs ⟨⟨u,k,hu,rfl⟩,rfl,rfl⟩;try simp only [↓rA,rB,qb,qf,Int.reduceEq,Int.reduceLE,Int.reduceLT,Int.reduceToNat,Nat.reduceAdd,Nat.reduceEqDiff,Nat.reduceLT,Nat.reduceLeDiff,Nat.reduceMul,Nat.reduceSub,reduceCtorEq,qt,Tryz.results145,gb,gr,g0,g4,g5,g6,g8,g9,g10,hh,ff])
   | (refine qi [] _ (List.Perm.refl _) (ke _ _) ?_;rintro v bs rs ⟨⟨u,k,hu,rfl⟩,rfl,rfl⟩;try simp only [↓rA,rB,qb,qf,Int.reduceEq,Int.reduceLE,Int.reduceLT,Int.reduceToNat,Nat.reduceAdd,Nat.reduceEqDiff,Nat.reduceLT,Nat.reduceLeDiff,Nat.reduceMul,Nat.reduceSub,reduceCtorEq,qt,Tryz.results145,gb,gr,g0,g4,g5,g6,g8,g9,g10,hh,ff])
   | (refine qi [] _ (List.Perm.refl _) (zO _ _ ha) ?_;rintro v bs rs ⟨⟨t,rfl⟩,rfl,rfl⟩;try simp only [↓rA,rB,qb,qf,Int.reduceEq,Int.reduceLE,Int.reduceLT,Int.reduceToNat,Nat.reduceAdd,Nat.reduceEqDiff,Nat.reduceLT,Nat.reduceLeDiff,Nat.reduceMul,Nat.reduceSub,reduceCtorEq,qt,Tryz.results145,gb,gr,g0,g4,g5,g6,g8,g9,g10,hh,ff])
   | exact zG _ _ _ _ _
   | exact zY _ _ _ _ _ _ _ (Le.refl _) ha
   | exact zY _ _ _ _ _ _ _ (Le.refl _) (vj (by assumption)))
 by_cases e2:o=⟨#[61,61]⟩
 ·have f0:(o=⟨#[97,110,100]⟩)=False:=eq_false (by rw [e2];decide)
  have f1:(o=⟨#[111,114]⟩)=False:=eq_false (by rw [e2];decide)
  have f2:(o=⟨#[61,61]⟩)=True:=eq_true e2
  have f3:(o=⟨#[33,61]⟩)=False:=eq_false (by rw [e2];decide)
  have f4:(o=⟨#[60]⟩)=False:=eq_false (by rw [e2];decide)
  have f5:(o=⟨#[60,61]⟩)=False:=eq_false (by rw [e2];decide)
  have f6:(o=⟨#[42]⟩)=False:=eq_false (by rw [e2];decide)
  have f7:(o=⟨#[47]⟩)=False:=eq_false (by rw [e2];decide)
  have ff:=And.intro f0 ( And.intro f1 ( And.intro f2 ( And.intro f3 ( And.intro f4 ( And.intro f5 ( And.intro f6 (f7)))))))
  clear f0 f1 f2 f3 f4 f5 f6 f7
  simp only [↓rA,rB,Nat.reduceAdd,Nat.reduceEqDiff,reduceCtorEq,qt,gb,g0,g4,g5,hh,ff]
  repeat' (first
   | (refine qe (fun hc=>?_) (fun hc=>?_) <;> (first | (subst hc;try simp only [↓rA,rB,qb,qf,Int.reduceEq,Int.reduceLE,Int.reduceLT,Int.reduceToNat,Nat.reduceAdd,Nat.reduceEqDiff,Nat.reduceLT,Nat.reduceLeDiff,Nat.reduceMul,Nat.reduceSub,reduceCtorEq,qt,Tryz.results145,gb,gr,g0,g4,g5,g6,g8,g9,g10,hh,ff]) | (try simp only [↓rA,rB,qb,Nat.reduceAdd,Nat.reduceEqDiff,qt,gr,g6,g8,g9,hh,hc])))
   | (refine qr (fun hc=>?_) (fun hc=>?_) <;> (first | (subst hc;try simp only [↓rA,rB,Nat.reduceAdd,Nat.reduceEqDiff,qt,gr,g4,g5,g9,hh]) | (try simp only [↓rA,rB,qb,qf,Int.reduceEq,Int.reduceLE,Int.reduceLT,Int.reduceToNat,Nat.reduceAdd,Nat.reduceEqDiff,Nat.reduceLT,Nat.reduceLeDiff,Nat.reduceMul,Nat.reduceSub,reduceCtorEq,qt,Tryz.results145,gb,gr,g0,g4,g5,g6,g8,g9,g10,hh,ff,hc])))
   | (refine qq (fun hc=>?_) (fun hc=>?_) <;> (first | (subst hc;try simp only [↓rA,rB,qb,qf,Int.reduceEq,Int.reduceLE,Int.reduceLT,Int.reduceToNat,Nat.reduceAdd,Nat.reduceEqDiff,Nat.reduceLT,Nat.reduceLeDiff,Nat.reduceMul,Nat.reduceSub,reduceCtorEq,qt,Tryz.results145,gb,gr,g0,g4,g5,g6,g8,g9,g10,hh,ff]) | (try simp only [↓rA,rB,qb,qf,Int.reduceEq,Int.reduceLE,Int.reduceLT,Int.reduceToNat,Nat.reduceAdd,Nat.reduceEqDiff,Nat.reduceLT,Nat.reduceLeDiff,Nat.reduceMul,Nat.reduceSub,reduceCtorEq,qt,Tryz.results145,gb,gr,g0,g4,g5,g6,g8,g9,g10,hh,ff,hc])))
   | (refine qg _ (zB _ _ _) ?_;try simp only [↓rA,rB,qb,qf,Int.reduceEq,Int.reduceLE,Int.reduceLT,Int.reduceToNat,Nat.reduceAdd,Nat.reduceEqDiff,Nat.reduceLT,Nat.reduceLeDiff,Nat.reduceMul,Nat.reduceSub,reduceCtorEq,qt,Tryz.results145,gb,gr,g0,g4,g5,g6,g8,g9,g10,hh,ff])
   | (refine qg _ (xj _ _ ha) ?_;try simp only [↓rA,rB,Nat.reduceEqDiff,gr])
   | (refine qi [] _ (List.Perm.refl _) (kB _ _) ?_;rintro v bs rs ⟨⟨u,k,hu,rfl⟩,rfl,rfl⟩;try simp only [↓rA,rB,qb,qf,Int.reduceEq,Int.reduceLE,Int.reduceLT,Int.reduceToNat,Nat.reduceAdd,Nat.reduceEqDiff,Nat.reduceLT,Nat.reduceLeDiff,Nat.reduceMul,Nat.reduceSub,reduceCtorEq,qt,Tryz.results145,gb,gr,g0,g4,g5,g6,g8,g9,g10,hh,ff])
   | (refine qi [] _ (List.Perm.refl _) (ke _ _) ?_;rintro v bs rs ⟨⟨u,k,hu,rfl⟩,rfl,rfl⟩;try simp only [↓rA,rB,qb,qf,Int.reduceEq,Int.reduceLE,Int.reduceLT,Int.reduceToNat,Nat.reduceAdd,Nat.reduceEqDiff,Nat.reduceLT,Nat.reduceLeDiff,Nat.reduceMul,Nat.reduceSub,reduceCtorEq,qt,Tryz.results145,gb,gr,g0,g4,g5,g6,g8,g9,g10,hh,ff])
   | (refine qi [] _ (List.Perm.refl _) (zO _ _ ha) ?_;rintro v bs rs ⟨⟨t,rfl⟩,rfl,rfl⟩;try simp only [↓rA,rB,Nat.reduceEqDiff,reduceCtorEq,gr,g0,g9,ff])
   | exact zG _ _ _ _ _
   | exact zY _ _ _ _ _ _ _ (Le.refl _) ha
   | exact zY _ _ _ _ _ _ _ (Le.refl _) (vj (by assumption)))
 by_cases e3:o=⟨#[33,61]⟩
 ·have f0:(o=⟨#[97,110,100]⟩)=False:=eq_false (by rw [e3];decide)
  have f1:(o=⟨#[111,114]⟩)=False:=eq_false (by rw [e3];decide)
  have f2:(o=⟨#[61,61]⟩)=False:=eq_false (by rw [e3];decide)
  have f3:(o=⟨#[33,61]⟩)=True:=eq_true e3
  have f4:(o=⟨#[60]⟩)=False:=eq_false (by rw [e3];decide)
  have f5:(o=⟨#[60,61]⟩)=False:=eq_false (by rw [e3];decide)
  have f6:(o=⟨#[42]⟩)=False:=eq_false (by rw [e3];decide)
  have f7:(o=⟨#[47]⟩)=False:=eq_false (by rw [e3];decide)
  have ff:=And.intro f0 ( And.intro f1 ( And.intro f2 ( And.intro f3 ( And.intro f4 ( And.intro f5 ( And.intro f6 (f7)))))))
  clear f0 f1 f2 f3 f4 f5 f6 f7
  simp only [↓rA,rB,Nat.reduceAdd,Nat.reduceEqDiff,reduceCtorEq,qt,gb,g0,g4,g5,hh,ff]
  repeat' (first
   | (refine qe (fun hc=>?_) (fun hc=>?_) <;> (first | (subst hc;try simp only [↓rA,rB,qb,qf,Int.reduceEq,Int.reduceLE,Int.reduceLT,Int.reduceToNat,Nat.reduceAdd,Nat.reduceEqDiff,Nat.reduceLT,Nat.reduceLeDiff,Nat.reduceMul,Nat.reduceSub,reduceCtorEq,qt,Tryz.results145,gb,gr,g0,g4,g5,g6,g8,g9,g10,hh,ff]) | (try simp only [↓rA,rB,qb,Nat.reduceAdd,Nat.reduceEqDiff,qt,gr,g6,g8,g9,hh,hc])))
   | (refine qr (fun hc=>?_) (fun hc=>?_) <;> (first | (subst hc;try simp only [↓rA,rB,Nat.reduceAdd,Nat.reduceEqDiff,qt,gr,g4,g5,g9,hh]) | (try simp only [↓rA,rB,qb,qf,Int.reduceEq,Int.reduceLE,Int.reduceLT,Int.reduceToNat,Nat.reduceAdd,Nat.reduceEqDiff,Nat.reduceLT,Nat.reduceLeDiff,Nat.reduceMul,Nat.reduceSub,reduceCtorEq,qt,Tryz.results145,gb,gr,g0,g4,g5,g6,g8,g9,g10,hh,ff,hc])))
   | (refine qq (fun hc=>?_) (fun hc=>?_) <;> (first | (subst hc;try simp only [↓rA,rB,qb,qf,Int.reduceEq,Int.reduceLE,Int.reduceLT,Int.reduceToNat,Nat.reduceAdd,Nat.reduceEqDiff,Nat.reduceLT,Nat.reduceLeDiff,Nat.reduceMul,Nat.reduceSub,reduceCtorEq,qt,Tryz.results145,gb,gr,g0,g4,g5,g6,g8,g9,g10,hh,ff]) | (try simp only [↓rA,rB,qb,qf,Int.reduceEq,Int.reduceLE,Int.reduceLT,Int.reduceToNat,Nat.reduceAdd,Nat.reduceEqDiff,Nat.reduceLT,Nat.reduceLeDiff,Nat.reduceMul,Nat.reduceSub,reduceCtorEq,qt,Tryz.results145,gb,gr,g0,g4,g5,g6,g8,g9,g10,hh,ff,hc])))
   | (refine qg _ (zB _ _ _) ?_;try simp only [↓rA,rB,qb,qf,Int.reduceEq,Int.reduceLE,Int.reduceLT,Int.reduceToNat,Nat.reduceAdd,Nat.reduceEqDiff,Nat.reduceLT,Nat.reduceLeDiff,Nat.reduceMul,Nat.reduceSub,reduceCtorEq,qt,Tryz.results145,gb,gr,g0,g4,g5,g6,g8,g9,g10,hh,ff])
   | (refine qg _ (xj _ _ ha) ?_;try simp only [↓rA,rB,Nat.reduceEqDiff,gr])
   | (refine qi [] _ (List.Perm.refl _) (kB _ _) ?_;rintro v bs rs ⟨⟨u,k,hu,rfl⟩,rfl,rfl⟩;try simp only [↓rA,rB,qb,qf,Int.reduceEq,Int.reduceLE,Int.reduceLT,Int.reduceToNat,Nat.reduceAdd,Nat.reduceEqDiff,Nat.reduceLT,Nat.reduceLeDiff,Nat.reduceMul,Nat.reduceSub,reduceCtorEq,qt,Tryz.results145,gb,gr,g0,g4,g5,g6,g8,g9,g10,hh,ff])
   | (refine qi [] _ (List.Perm.refl _) (ke _ _) ?_;rintro v bs rs ⟨⟨u,k,hu,rfl⟩,rfl,rfl⟩;try simp only [↓rA,rB,qb,qf,Int.reduceEq,Int.reduceLE,Int.reduceLT,Int.reduceToNat,Nat.reduceAdd,Nat.reduceEqDiff,Nat.reduceLT,Nat.reduceLeDiff,Nat.reduceMul,Nat.reduceSub,reduceCtorEq,qt,Tryz.results145,gb,gr,g0,g4,g5,g6,g8,g9,g10,hh,ff])
   | (refine qi [] _ (List.Perm.refl _) (zO _ _ ha) ?_;rintro v bs rs ⟨⟨t,rfl⟩,rfl,rfl⟩;try simp only [↓rA,rB,Nat.reduceEqDiff,reduceCtorEq,gr,g0,g9,ff])
   | exact zG _ _ _ _ _
   | exact zY _ _ _ _ _ _ _ (Le.refl _) ha
   | exact zY _ _ _ _ _ _ _ (Le.refl _) (vj (by assumption)))
 by_cases e4:o=⟨#[60]⟩
 ·have f0:(o=⟨#[97,110,100]⟩)=False:=eq_false (by rw [e4];decide)
  have f1:(o=⟨#[111,114]⟩)=False:=eq_false (by rw [e4];decide)
  have f2:(o=⟨#[61,61]⟩)=False:=eq_false (by rw [e4];decide)
  have f3:(o=⟨#[33,61]⟩)=False:=eq_false (by rw [e4];decide)
  have f4:(o=⟨#[60]⟩)=True:=eq_true e4
  have f5:(o=⟨#[60,61]⟩)=False:=eq_false (by rw [e4];decide)
  have f6:(o=⟨#[42]⟩)=False:=eq_false (by rw [e4];decide)
  have f7:(o=⟨#[47]⟩)=False:=eq_false (by rw [e4];decide)
  have ff:=And.intro f0 ( And.intro f1 ( And.intro f2 ( And.intro f3 ( And.intro f4 ( And.intro f5 ( And.intro f6 (f7)))))))
  clear f0 f1 f2 f3 f4 f5 f6 f7
  simp only [↓rA,rB,Nat.reduceAdd,Nat.reduceEqDiff,reduceCtorEq,qt,gb,g0,g4,g5,hh,ff]
  repeat' (first
   | (refine qe (fun hc=>?_) (fun hc=>?_) <;> (first | (subst hc;try simp only [↓rA,rB,qb,qf,Int.reduceEq,Int.reduceLE,Int.reduceLT,Int.reduceToNat,Nat.reduceAdd,Nat.reduceEqDiff,Nat.reduceLT,Nat.reduceLeDiff,Nat.reduceMul,Nat.reduceSub,reduceCtorEq,qt,Tryz.results145,gb,gr,g0,g4,g5,g6,g8,g9,g10,hh,ff]) | (try simp only [↓rA,rB,qb,Nat.reduceAdd,Nat.reduceEqDiff,qt,gr,g6,g8,g9,hh,hc])))
   | (refine qr (fun hc=>?_) (fun hc=>?_) <;> (first | (subst hc;try simp only [↓rA,rB,qb,Nat.reduceAdd,Nat.reduceEqDiff,qt,gr,g4,g5,g6,g9,hh]) | (try simp only [↓rA,rB,Nat.reduceAdd,Nat.reduceEqDiff,qt,gr,g5,g9,hh,hc])))
   | (refine qq (fun hc=>?_) (fun hc=>?_) <;> (first | (subst hc;try simp only [↓rA,rB,qb,qf,Int.reduceEq,Int.reduceLE,Int.reduceLT,Int.reduceToNat,Nat.reduceAdd,Nat.reduceEqDiff,Nat.reduceLT,Nat.reduceLeDiff,Nat.reduceMul,Nat.reduceSub,reduceCtorEq,qt,Tryz.results145,gb,gr,g0,g4,g5,g6,g8,g9,g10,hh,ff]) | (try simp only [↓rA,rB,qb,qf,Int.reduceEq,Int.reduceLE,Int.reduceLT,Int.reduceToNat,Nat.reduceAdd,Nat.reduceEqDiff,Nat.reduceLT,Nat.reduceLeDiff,Nat.reduceMul,Nat.reduceSub,reduceCtorEq,qt,Tryz.results145,gb,gr,g0,g4,g5,g6,g8,g9,g10,hh,ff,hc])))
   | (refine qg _ (zB _ _ _) ?_;try simp only [↓rA,rB,qb,qf,Int.reduceEq,Int.reduceLE,Int.reduceLT,Int.reduceToNat,Nat.reduceAdd,Nat.reduceEqDiff,Nat.reduceLT,Nat.reduceLeDiff,Nat.reduceMul,Nat.reduceSub,reduceCtorEq,qt,Tryz.results145,gb,gr,g0,g4,g5,g6,g8,g9,g10,hh,ff])
   | (refine qg _ (xj _ _ ha) ?_;try simp only [↓rA,rB,Nat.reduceEqDiff,gr])
   | (refine qi [] _ (List.Perm.refl _) (kB _ _) ?_;rintro v bs rs ⟨⟨u,k,hu,rfl⟩,rfl,rfl⟩;try simp only [↓rA,rB,qb,qf,Int.reduceEq,Int.reduceLE,Int.reduceLT,Int.reduceToNat,Nat.reduceAdd,Nat.reduceEqDiff,Nat.reduceLT,Nat.reduceLeDiff,Nat.reduceMul,Nat.reduceSub,reduceCtorEq,qt,Tryz.results145,gb,gr,g0,g4,g5,g6,g8,g9,g10,hh,ff])
   | (refine qi [] _ (List.Perm.refl _) (ke _ _) ?_;rintro v bs rs ⟨⟨u,k,hu,rfl⟩,rfl,rfl⟩;try simp only [↓rA,rB,qb,qf,Int.reduceEq,Int.reduceLE,Int.reduceLT,Int.reduceToNat,Nat.reduceAdd,Nat.reduceEqDiff,Nat.reduceLT,Nat.reduceLeDiff,Nat.reduceMul,Nat.reduceSub,reduceCtorEq,qt,Tryz.results145,gb,gr,g0,g4,g5,g6,g8,g9,g10,hh,ff])
   | (refine qi [] _ (List.Perm.refl _) (zO _ _ ha) ?_;rintro v bs rs ⟨⟨t,rfl⟩,rfl,rfl⟩;try simp only [↓rA,rB,Nat.reduceAdd,Nat.reduceEqDiff,reduceCtorEq,qt,gr,g0,g4,hh,ff])
   | exact zG _ _ _ _ _
   | exact zY _ _ _ _ _ _ _ (Le.refl _) ha
   | exact zY _ _ _ _ _ _ _ (Le.refl _) (vj (by assumption)))
 by_cases e5:o=⟨#[60,61]⟩
 ·have f0:(o=⟨#[97,110,100]⟩)=False:=eq_false (by rw [e5];decide)
  have f1:(o=⟨#[111,114]⟩)=False:=eq_false (by rw [e5];decide)
  have f2:(o=⟨#[61,61]⟩)=False:=eq_false (by rw [e5];decide)
  have f3:(o=⟨#[33,61]⟩)=False:=eq_false (by rw [e5];decide)
  have f4:(o=⟨#[60]⟩)=False:=eq_false (by rw [e5];decide)
  have f5:(o=⟨#[60,61]⟩)=True:=eq_true e5
  have f6:(o=⟨#[42]⟩)=False:=eq_false (by rw [e5];decide)
  have f7:(o=⟨#[47]⟩)=False:=eq_false (by rw [e5];decide)
  have ff:=And.intro f0 ( And.intro f1 ( And.intro f2 ( And.intro f3 ( And.intro f4 ( And.intro f5 ( And.intro f6 (f7)))))))
  clear f0 f1 f2 f3 f4 f5 f6 f7
  simp only [↓rA,rB,Nat.reduceAdd,Nat.reduceEqDiff,reduceCtorEq,qt,gb,g0,g4,g5,hh,ff]
  repeat' (first
   | (refine qe (fun hc=>?_) (fun hc=>?_) <;> (first | (subst hc;try simp only [↓rA,rB,qb,qf,Int.reduceEq,Int.reduceLE,Int.reduceLT,Int.reduceToNat,Nat.reduceAdd,Nat.reduceEqDiff,Nat.reduceLT,Nat.reduceLeDiff,Nat.reduceMul,Nat.reduceSub,reduceCtorEq,qt,Tryz.results145,gb,gr,g0,g4,g5,g6,g8,g9,g10,hh,ff]) | (try simp only [↓rA,rB,qb,Nat.reduceAdd,Nat.reduceEqDiff,qt,gr,g6,g8,g9,hh,hc])))
   | (refine qr (fun hc=>?_) (fun hc=>?_) <;> (first | (subst hc;try simp only [↓rA,rB,qb,Nat.reduceAdd,Nat.reduceEqDiff,qt,gr,g4,g5,g6,g9,hh]) | (try simp only [↓rA,rB,Nat.reduceAdd,Nat.reduceEqDiff,qt,gr,g5,g9,hh,hc])))
   | (refine qq (fun hc=>?_) (fun hc=>?_) <;> (first | (subst hc;try simp only [↓rA,rB,qb,qf,Int.reduceEq,Int.reduceLE,Int.reduceLT,Int.reduceToNat,Nat.reduceAdd,Nat.reduceEqDiff,Nat.reduceLT,Nat.reduceLeDiff,Nat.reduceMul,Nat.reduceSub,reduceCtorEq,qt,Tryz.results145,gb,gr,g0,g4,g5,g6,g8,g9,g10,hh,ff]) | (try simp only [↓rA,rB,qb,qf,Int.reduceEq,Int.reduceLE,Int.reduceLT,Int.reduceToNat,Nat.reduceAdd,Nat.reduceEqDiff,Nat.reduceLT,Nat.reduceLeDiff,Nat.reduceMul,Nat.reduceSub,reduceCtorEq,qt,Tryz.results145,gb,gr,g0,g4,g5,g6,g8,g9,g10,hh,ff,hc])))
   | (refine qg _ (zB _ _ _) ?_;try simp only [↓rA,rB,qb,qf,Int.reduceEq,Int.reduceLE,Int.reduceLT,Int.reduceToNat,Nat.reduceAdd,Nat.reduceEqDiff,Nat.reduceLT,Nat.reduceLeDiff,Nat.reduceMul,Nat.reduceSub,reduceCtorEq,qt,Tryz.results145,gb,gr,g0,g4,g5,g6,g8,g9,g10,hh,ff])
   | (refine qg _ (xj _ _ ha) ?_;try simp only [↓rA,rB,Nat.reduceEqDiff,gr])
   | (refine qi [] _ (List.Perm.refl _) (kB _ _) ?_;rintro v bs rs ⟨⟨u,k,hu,rfl⟩,rfl,rfl⟩;try simp only [↓rA,rB,qb,qf,Int.reduceEq,Int.reduceLE,Int.reduceLT,Int.reduceToNat,Nat.reduceAdd,Nat.reduceEqDiff,Nat.reduceLT,Nat.reduceLeDiff,Nat.reduceMul,Nat.reduceSub,reduceCtorEq,qt,Tryz.results145,gb,gr,g0,g4,g5,g6,g8,g9,g10,hh,ff])
   | (refine qi [] _ (List.Perm.refl _) (ke _ _) ?_;rintro v bs rs ⟨⟨u,k,hu,rfl⟩,rfl,rfl⟩;try simp only [↓rA,rB,qb,qf,Int.reduceEq,Int.reduceLE,Int.reduceLT,Int.reduceToNat,Nat.reduceAdd,Nat.reduceEqDiff,Nat.reduceLT,Nat.reduceLeDiff,Nat.reduceMul,Nat.reduceSub,reduceCtorEq,qt,Tryz.results145,gb,gr,g0,g4,g5,g6,g8,g9,g10,hh,ff])
   | (refine qi [] _ (List.Perm.refl _) (zO _ _ ha) ?_;rintro v bs rs ⟨⟨t,rfl⟩,rfl,rfl⟩;try simp only [↓rA,rB,Nat.reduceAdd,Nat.reduceEqDiff,reduceCtorEq,qt,gr,g0,g4,hh,ff])
   | exact zG _ _ _ _ _
   | exact zY _ _ _ _ _ _ _ (Le.refl _) ha
   | exact zY _ _ _ _ _ _ _ (Le.refl _) (vj (by assumption)))
 by_cases e6:o=⟨#[42]⟩
 ·have f0:(o=⟨#[97,110,100]⟩)=False:=eq_false (by rw [e6];decide)
  have f1:(o=⟨#[111,114]⟩)=False:=eq_false (by rw [e6];decide)
  have f2:(o=⟨#[61,61]⟩)=False:=eq_false (by rw [e6];decide)
  have f3:(o=⟨#[33,61]⟩)=False:=eq_false (by rw [e6];decide)
  have f4:(o=⟨#[60]⟩)=False:=eq_false (by rw [e6];decide)
  have f5:(o=⟨#[60,61]⟩)=False:=eq_false (by rw [e6];decide)
  have f6:(o=⟨#[42]⟩)=True:=eq_true e6
  have f7:(o=⟨#[47]⟩)=False:=eq_false (by rw [e6];decide)
  have ff:=And.intro f0 ( And.intro f1 ( And.intro f2 ( And.intro f3 ( And.intro f4 ( And.intro f5 ( And.intro f6 (f7)))))))
  clear f0 f1 f2 f3 f4 f5 f6 f7
  simp only [↓rA,rB,Nat.reduceAdd,Nat.reduceEqDiff,reduceCtorEq,qt,gb,g0,g4,g5,hh,ff]
  repeat' (first
   | (refine qe (fun hc=>?_) (fun hc=>?_) <;> (first | (subst hc;try simp only [↓rA,rB,qb,qf,Int.reduceEq,Int.reduceLE,Int.reduceLT,Int.reduceToNat,Nat.reduceAdd,Nat.reduceEqDiff,Nat.reduceLT,Nat.reduceLeDiff,Nat.reduceMul,Nat.reduceSub,reduceCtorEq,qt,Tryz.results145,gb,gr,g0,g4,g5,g6,g8,g9,g10,hh,ff]) | (try simp only [↓rA,rB,qb,Nat.reduceAdd,Nat.reduceEqDiff,Nat.reduceLeDiff,qt,gr,g6,g10,hh,hc])))
   | (refine qr (fun hc=>?_) (fun hc=>?_) <;> (first | (subst hc;try simp only [↓rA,rB,qb,qf,Int.reduceEq,Int.reduceLE,Int.reduceLT,Int.reduceToNat,Nat.reduceAdd,Nat.reduceEqDiff,Nat.reduceLT,Nat.reduceLeDiff,Nat.reduceMul,Nat.reduceSub,reduceCtorEq,qt,Tryz.results145,gb,gr,g0,g4,g5,g6,g8,g9,g10,hh,ff]) | (try simp only [↓rA,rB,qb,qf,Int.reduceEq,Int.reduceLE,Int.reduceLT,Int.reduceToNat,Nat.reduceAdd,Nat.reduceEqDiff,Nat.reduceLT,Nat.reduceLeDiff,Nat.reduceMul,Nat.reduceSub,reduceCtorEq,qt,Tryz.results145,gb,gr,g0,g4,g5,g6,g8,g9,g10,hh,ff,hc])))
   | (refine qq (fun hc=>?_) (fun hc=>?_) <;> (first | (subst hc;try simp only [↓rA,rB,qb,qf,Int.reduceEq,Int.reduceLE,Int.reduceLT,Int.reduceToNat,Nat.reduceAdd,Nat.reduceEqDiff,Nat.reduceLT,Nat.reduceLeDiff,Nat.reduceMul,Nat.reduceSub,reduceCtorEq,qt,Tryz.results145,gb,gr,g0,g4,g5,g6,g8,g9,g10,hh,ff]) | (try simp only [↓rA,rB,qb,qf,Int.reduceEq,Int.reduceLE,Int.reduceLT,Int.reduceToNat,Nat.reduceAdd,Nat.reduceEqDiff,Nat.reduceLT,Nat.reduceLeDiff,Nat.reduceMul,Nat.reduceSub,reduceCtorEq,qt,Tryz.results145,gb,gr,g0,g4,g5,g6,g8,g9,g10,hh,ff,hc])))
   | (refine qg _ (zB _ _ _) ?_;try simp only [↓rA,rB,qb,qf,Int.reduceEq,Int.reduceLE,Int.reduceLT,Int.reduceToNat,Nat.reduceAdd,Nat.reduceEqDiff,Nat.reduceLT,Nat.reduceLeDiff,Nat.reduceMul,Nat.reduceSub,reduceCtorEq,qt,Tryz.results145,gb,gr,g0,g4,g5,g6,g8,g9,g10,hh,ff])
   | (refine qg _ (xj _ _ ha) ?_;try simp only [↓rA,rB,qb,qf,Int.reduceEq,Int.reduceLE,Int.reduceLT,Int.reduceToNat,Nat.reduceAdd,Nat.reduceEqDiff,Nat.reduceLT,Nat.reduceLeDiff,Nat.reduceMul,Nat.reduceSub,reduceCtorEq,qt,Tryz.results145,gb,gr,g0,g4,g5,g6,g8,g9,g10,hh,ff])
   | (refine qi [] _ (List.Perm.refl _) (kB _ _) ?_;rintro v bs rs ⟨⟨u,k,hu,rfl⟩,rfl,rfl⟩;try simp only [↓rA,rB,Nat.reduceEqDiff,gr,g9])
   | (refine qi [] _ (List.Perm.refl _) (ke _ _) ?_;rintro v bs rs ⟨⟨u,k,hu,rfl⟩,rfl,rfl⟩;try simp only [↓rA,rB,qb,qf,Int.reduceEq,Int.reduceLE,Int.reduceLT,Int.reduceToNat,Nat.reduceAdd,Nat.reduceEqDiff,Nat.reduceLT,Nat.reduceLeDiff,Nat.reduceMul,Nat.reduceSub,reduceCtorEq,qt,Tryz.results145,gb,gr,g0,g4,g5,g6,g8,g9,g10,hh,ff])
   | (refine qi [] _ (List.Perm.refl _) (zO _ _ ha) ?_;rintro v bs rs ⟨⟨t,rfl⟩,rfl,rfl⟩;try simp only [↓rA,rB,qb,qf,Int.reduceEq,Int.reduceLE,Int.reduceLT,Int.reduceToNat,Nat.reduceAdd,Nat.reduceEqDiff,Nat.reduceLT,Nat.reduceLeDiff,Nat.reduceMul,Nat.reduceSub,reduceCtorEq,qt,Tryz.results145,gb,gr,g0,g4,g5,g6,g8,g9,g10,hh,ff])
   | exact zG _ _ _ _ _
   | exact zY _ _ _ _ _ _ _ (Le.refl _) ha
   | exact zY _ _ _ _ _ _ _ (Le.refl _) (vj (by assumption)))
 by_cases e7:o=⟨#[47]⟩
 ·have f0:(o=⟨#[97,110,100]⟩)=False:=eq_false (by rw [e7];decide)
  have f1:(o=⟨#[111,114]⟩)=False:=eq_false (by rw [e7];decide)
  have f2:(o=⟨#[61,61]⟩)=False:=eq_false (by rw [e7];decide)
  have f3:(o=⟨#[33,61]⟩)=False:=eq_false (by rw [e7];decide)
  have f4:(o=⟨#[60]⟩)=False:=eq_false (by rw [e7];decide)
  have f5:(o=⟨#[60,61]⟩)=False:=eq_false (by rw [e7];decide)
  have f6:(o=⟨#[42]⟩)=False:=eq_false (by rw [e7];decide)
  have f7:(o=⟨#[47]⟩)=True:=eq_true e7
  have ff:=And.intro f0 ( And.intro f1 ( And.intro f2 ( And.intro f3 ( And.intro f4 ( And.intro f5 ( And.intro f6 (f7)))))))
  clear f0 f1 f2 f3 f4 f5 f6 f7
  simp only [↓rA,rB,Nat.reduceAdd,Nat.reduceEqDiff,reduceCtorEq,qt,gb,g0,g4,g5,hh,ff]
  repeat' (first
   | (refine qe (fun hc=>?_) (fun hc=>?_) <;> (first | (subst hc;try simp only [↓rA,rB,qb,qf,Int.reduceEq,Int.reduceLE,Int.reduceLT,Int.reduceToNat,Nat.reduceAdd,Nat.reduceEqDiff,Nat.reduceLT,Nat.reduceLeDiff,Nat.reduceMul,Nat.reduceSub,reduceCtorEq,qt,Tryz.results145,gb,gr,g0,g4,g5,g6,g8,g9,g10,hh,ff]) | (try simp only [↓rA,rB,qb,Nat.reduceAdd,Nat.reduceEqDiff,Nat.reduceLeDiff,qt,gr,g6,hh,hc])))
   | (refine qr (fun hc=>?_) (fun hc=>?_) <;> (first | (subst hc;try simp only [↓rA,rB,qb,qf,Int.reduceEq,Int.reduceLE,Int.reduceLT,Int.reduceToNat,Nat.reduceAdd,Nat.reduceEqDiff,Nat.reduceLT,Nat.reduceLeDiff,Nat.reduceMul,Nat.reduceSub,reduceCtorEq,qt,Tryz.results145,gb,gr,g0,g4,g5,g6,g8,g9,g10,hh,ff]) | (try simp only [↓rA,rB,qb,qf,Int.reduceEq,Int.reduceLE,Int.reduceLT,Int.reduceToNat,Nat.reduceAdd,Nat.reduceEqDiff,Nat.reduceLT,Nat.reduceLeDiff,Nat.reduceMul,Nat.reduceSub,reduceCtorEq,qt,Tryz.results145,gb,gr,g0,g4,g5,g6,g8,g9,g10,hh,ff,hc])))
   | (refine qq (fun hc=>?_) (fun hc=>?_) <;> (first | (subst hc;try simp only [↓rA,rB,qb,qf,Int.reduceEq,Int.reduceLE,Int.reduceLT,Int.reduceToNat,Nat.reduceAdd,Nat.reduceEqDiff,Nat.reduceLT,Nat.reduceLeDiff,Nat.reduceMul,Nat.reduceSub,reduceCtorEq,qt,Tryz.results145,gb,gr,g0,g4,g5,g6,g8,g9,g10,hh,ff]) | (try simp only [↓rA,rB,qb,qf,Int.reduceEq,Int.reduceLE,Int.reduceLT,Int.reduceToNat,Nat.reduceAdd,Nat.reduceEqDiff,Nat.reduceLT,Nat.reduceLeDiff,Nat.reduceMul,Nat.reduceSub,reduceCtorEq,qt,Tryz.results145,gb,gr,g0,g4,g5,g6,g8,g9,g10,hh,ff,hc])))
   | (refine qg _ (zB _ _ _) ?_;try simp only [↓rA,rB,qb,qf,Int.reduceEq,Int.reduceLE,Int.reduceLT,Int.reduceToNat,Nat.reduceAdd,Nat.reduceEqDiff,Nat.reduceLT,Nat.reduceLeDiff,Nat.reduceMul,Nat.reduceSub,reduceCtorEq,qt,Tryz.results145,gb,gr,g0,g4,g5,g6,g8,g9,g10,hh,ff])
   | (refine qg _ (xj _ _ ha) ?_;try simp only [↓rA,rB,qb,qf,Int.reduceEq,Int.reduceLE,Int.reduceLT,Int.reduceToNat,Nat.reduceAdd,Nat.reduceEqDiff,Nat.reduceLT,Nat.reduceLeDiff,Nat.reduceMul,Nat.reduceSub,reduceCtorEq,qt,Tryz.results145,gb,gr,g0,g4,g5,g6,g8,g9,g10,hh,ff])
   | (refine qi [] _ (List.Perm.refl _) (kB _ _) ?_;rintro v bs rs ⟨⟨u,k,hu,rfl⟩,rfl,rfl⟩;try simp only [↓rA,rB,qb,qf,Int.reduceEq,Int.reduceLE,Int.reduceLT,Int.reduceToNat,Nat.reduceAdd,Nat.reduceEqDiff,Nat.reduceLT,Nat.reduceLeDiff,Nat.reduceMul,Nat.reduceSub,reduceCtorEq,qt,Tryz.results145,gb,gr,g0,g4,g5,g6,g8,g9,g10,hh,ff])
   | (refine qi [] _ (List.Perm.refl _) (ke _ _) ?_;rintro v bs rs ⟨⟨u,k,hu,rfl⟩,rfl,rfl⟩;try simp only [↓rA,rB,Nat.reduceEqDiff,gr,g9])
   | (refine qi [] _ (List.Perm.refl _) (zO _ _ ha) ?_;rintro v bs rs ⟨⟨t,rfl⟩,rfl,rfl⟩;try simp only [↓rA,rB,qb,qf,Int.reduceEq,Int.reduceLE,Int.reduceLT,Int.reduceToNat,Nat.reduceAdd,Nat.reduceEqDiff,Nat.reduceLT,Nat.reduceLeDiff,Nat.reduceMul,Nat.reduceSub,reduceCtorEq,qt,Tryz.results145,gb,gr,g0,g4,g5,g6,g8,g9,g10,hh,ff])
   | exact zG _ _ _ _ _
   | exact zY _ _ _ _ _ _ _ (Le.refl _) ha
   | exact zY _ _ _ _ _ _ _ (Le.refl _) (vj (by assumption)))
 simp only [↓rA,rB,Nat.reduceAdd,Nat.reduceEqDiff,reduceCtorEq,qt,gb,g0,g4,g5,hh,e0,e1,e2,e3,e4,e5,e6,e7]
 repeat' (first
  | (refine qe (fun hc=>?_) (fun hc=>?_) <;> (first | (subst hc;try simp only [↓rA,rB,qb,qf,Int.reduceEq,Int.reduceLE,Int.reduceLT,Int.reduceToNat,Nat.reduceAdd,Nat.reduceEqDiff,Nat.reduceLT,Nat.reduceLeDiff,Nat.reduceMul,Nat.reduceSub,reduceCtorEq,qt,Tryz.results145,gb,gr,g0,g4,g5,g6,g8,g9,g10,hh,e0,e1,e2,e3,e4,e5,e6,e7]) | (try simp only [↓rA,rB,qb,Int.reduceEq,Nat.reduceAdd,Nat.reduceEqDiff,Nat.reduceLeDiff,qt,gr,g6,g9,g10,hh,hc])))
  | (refine qr (fun hc=>?_) (fun hc=>?_) <;> (first | (subst hc;try simp only [↓rA,rB,qb,qf,Int.reduceEq,Int.reduceLE,Int.reduceLT,Int.reduceToNat,Nat.reduceAdd,Nat.reduceEqDiff,Nat.reduceLT,Nat.reduceLeDiff,Nat.reduceMul,Nat.reduceSub,reduceCtorEq,qt,Tryz.results145,gb,gr,g0,g4,g5,g6,g8,g9,g10,hh,e0,e1,e2,e3,e4,e5,e6,e7]) | (try simp only [↓rA,rB,qb,qf,Int.reduceEq,Int.reduceLE,Int.reduceLT,Int.reduceToNat,Nat.reduceAdd,Nat.reduceEqDiff,Nat.reduceLT,Nat.reduceLeDiff,Nat.reduceMul,Nat.reduceSub,reduceCtorEq,qt,Tryz.results145,gb,gr,g0,g4,g5,g6,g8,g9,g10,hh,e0,e1,e2,e3,e4,e5,e6,e7,hc])))
  | (refine qq (fun hc=>?_) (fun hc=>?_) <;> (first | (subst hc;try simp only [↓rA,rB,qb,qf,Int.reduceEq,Int.reduceLE,Int.reduceLT,Int.reduceToNat,Nat.reduceAdd,Nat.reduceEqDiff,Nat.reduceLT,Nat.reduceLeDiff,Nat.reduceMul,Nat.reduceSub,reduceCtorEq,qt,Tryz.results145,gb,gr,g0,g4,g5,g6,g8,g9,g10,hh,e0,e1,e2,e3,e4,e5,e6,e7]) | (try simp only [↓rA,rB,qb,qf,Int.reduceEq,Int.reduceLE,Int.reduceLT,Int.reduceToNat,Nat.reduceAdd,Nat.reduceEqDiff,Nat.reduceLT,Nat.reduceLeDiff,Nat.reduceMul,Nat.reduceSub,reduceCtorEq,qt,Tryz.results145,gb,gr,g0,g4,g5,g6,g8,g9,g10,hh,e0,e1,e2,e3,e4,e5,e6,e7,hc])))
  | (refine qg _ (zB _ _ _) ?_;try simp only [↓rA,rB,qb,qf,Int.reduceEq,Int.reduceLE,Int.reduceLT,Int.reduceToNat,Nat.reduceAdd,Nat.reduceEqDiff,Nat.reduceLT,Nat.reduceLeDiff,Nat.reduceMul,Nat.reduceSub,reduceCtorEq,qt,Tryz.results145,gb,gr,g0,g4,g5,g6,g8,g9,g10,hh,e0,e1,e2,e3,e4,e5,e6,e7])
  | (refine qg _ (xj _ _ ha) ?_;try simp only [↓rA,rB,gr])
  | (refine qi [] _ (List.Perm.refl _) (kB _ _) ?_;rintro v bs rs ⟨⟨u,k,hu,rfl⟩,rfl,rfl⟩;try simp only [↓rA,rB,qb,qf,Int.reduceEq,Int.reduceLE,Int.reduceLT,Int.reduceToNat,Nat.reduceAdd,Nat.reduceEqDiff,Nat.reduceLT,Nat.reduceLeDiff,Nat.reduceMul,Nat.reduceSub,reduceCtorEq,qt,Tryz.results145,gb,gr,g0,g4,g5,g6,g8,g9,g10,hh,e0,e1,e2,e3,e4,e5,e6,e7])
  | (refine qi [] _ (List.Perm.refl _) (ke _ _) ?_;rintro v bs rs ⟨⟨u,k,hu,rfl⟩,rfl,rfl⟩;try simp only [↓rA,rB,qb,qf,Int.reduceEq,Int.reduceLE,Int.reduceLT,Int.reduceToNat,Nat.reduceAdd,Nat.reduceEqDiff,Nat.reduceLT,Nat.reduceLeDiff,Nat.reduceMul,Nat.reduceSub,reduceCtorEq,qt,Tryz.results145,gb,gr,g0,g4,g5,g6,g8,g9,g10,hh,e0,e1,e2,e3,e4,e5,e6,e7])
  | (refine qi [] _ (List.Perm.refl _) (zO _ _ ha) ?_;rintro v bs rs ⟨⟨t,rfl⟩,rfl,rfl⟩;try simp only [↓rA,rB,qb,qf,Int.reduceEq,Int.reduceLE,Int.reduceLT,Int.reduceToNat,Nat.reduceAdd,Nat.reduceEqDiff,Nat.reduceLT,Nat.reduceLeDiff,Nat.reduceMul,Nat.reduceSub,reduceCtorEq,qt,Tryz.results145,gb,gr,g0,g4,g5,g6,g8,g9,g10,hh,e0,e1,e2,e3,e4,e5,e6,e7])
  | exact zG _ _ _ _ _
  | exact zY _ _ _ _ _ _ _ (Le.refl _) ha
  | exact zY _ _ _ _ _ _ _ (Le.refl _) (vj (by assumption)))
end Go.Proofs.YtohdpcjaoiebkaaGreatDoor
set_option linter.unusedSimpArgs false
set_option maxRecDepth 100000
set_option linter.defProp false
namespace Go.Proofs.YtohdpcjaoiebkaaGreatDoor
open Go.VL Go.Ar Go.Lo Go.Proofs.YtohdpcjaoiebkaaGreatDoor
abbrev qwd (t:Typ):List V:=[vint t.kind,qG t.unit,qm t.of]
theorem qk7 {h:Hd} {ins:Bool} {n:Nat} (ho:qH h ins=true) (hm:(n:Int)=xt h.kind) :
  (h.kind=1∧n=0)∨(h.kind=2∧n=0)∨(h.kind=3∧n=0)∨(h.kind=4∧n=1)∨(h.kind=5∧n=2)∨(h.kind=6∧n=1)∨(h.kind=7∧n=2)∨(h.kind=8∧n=3)∨(h.kind=9∧n=2):=by
 unfold qH at ho
 unfold xt at hm
 by_cases k1:h.kind=1
 ·rw [k1] at hm;exact .inl ⟨k1,by simpa using hm⟩
 by_cases k2:h.kind=2
 ·rw [k2] at hm;exact .inr (.inl ⟨k2,by simpa using hm⟩)
 by_cases k3:h.kind=3
 ·rw [k3] at hm;exact .inr (.inr (.inl ⟨k3,by simpa using hm⟩))
 by_cases k4:h.kind=4
 ·rw [k4] at hm;exact .inr (.inr (.inr (.inl ⟨k4,by simp at hm;omega⟩)))
 by_cases k5:h.kind=5
 ·rw [k5] at hm;exact .inr (.inr (.inr (.inr (.inl ⟨k5,by simp at hm;omega⟩))))
 by_cases k6:h.kind=6
 ·rw [k6] at hm;exact .inr (.inr (.inr (.inr (.inr (.inl ⟨k6,by simp at hm;omega⟩)))))
 by_cases k7:h.kind=7
 ·rw [k7] at hm;exact .inr (.inr (.inr (.inr (.inr (.inr (.inl ⟨k7,by simp at hm;omega⟩))))))
 by_cases k8:h.kind=8
 ·rw [k8] at hm;exact .inr (.inr (.inr (.inr (.inr (.inr (.inr (.inl ⟨k8,by simp at hm;omega⟩)))))))
 rw [if_neg k1,if_neg k2,if_neg k3,if_neg k4,if_neg k5,if_neg k6,if_neg k7,if_neg k8] at ho
 have k9:h.kind=9:=of_decide_eq_true ho
 rw [k9] at hm
 exact .inr (.inr (.inr (.inr (.inr (.inr (.inr (.inr ⟨k9,by simp at hm;omega⟩)))))))
def qE:=(aI (aI (aI (aI Ty.c142 (aI Ty.c143 Ty.c144)) (aI Ty.c145 (aI Ty.c41 Ty.c70))) (aI (aI Ty.t126 (aI Ty.t128 Ty.t159)) (aI (aI Ty.t22 Ty.t23) (aI Ty.t25 Ty.t27)))) (aI (aI (aI Ty.t29 (aI Ty.t3 Ty.t35)) (aI (aI Ty.t36 Ty.t38) (aI Ty.t4 Ty.t40))) (aI (aI Ty.t43 (aI Ty.t45 Ty.t60)) (aI (aI Ty.t61 Ty.t63) (aI Ty.t9 Ty.t95)))))
set_option maxHeartbeats 4000000 in
theorem VT (n:Nat) (c:Cat) (e:Str) (t:Tab) (h:Hd) (l:List E) (ins:Bool) (own:Option Value) (ts:List Typ) (hn:n≤1000000) (hk:Qw n c) (ht:Ks t) (hu:h.unit.length≤big) (ho:qH h ins=true) (hm:(ts.length:Int)=xt h.kind) (hts:∀ x ∈ ts,wv x) :
  UA Tryz.prog 113 [vSc c e t,.agg (cH h (zD l)),.list own 3 (ts.map qwd)]:=by
 have hf:=qk7 ho hm
 clear hm
 refine Ok.of_exM [(11,2),(13,2),(21,2),(26,2)] Ty.mixed Tryz.func113 rfl (by simp [Tryz.ntmps113]) (by kernel_rfl) fun F w0 I0=>?_
 rcases hf with⟨k,hl⟩ | ⟨k,hl⟩ | ⟨k,hl⟩ | ⟨k,hl⟩ | ⟨k,hl⟩ | ⟨k,hl⟩ | ⟨k,hl⟩ | ⟨k,hl⟩ | ⟨k,hl⟩
 ·obtain rfl:ts=[]:=List.eq_nil_of_length_eq_zero hl
  simp only [↓rA,rB,qf,Nat.reduceLT]
  refine fun b3 h3=>?_;replace h3:=qn h3;try simp only [Nb] at h3
  simp only [↓rA,rB,qf,Nat.reduceEqDiff,Nat.reduceLT]
  refine fun b4 h4=>?_;replace h4:=qn h4;try simp only [Nb] at h4
  simp only [↓rA,rB,qE]
  refine fun b6 h6=>?_;replace h6:=qn h6;try simp only [Nb] at h6
  have hh:=And.intro h3 (And.intro h4 h6)
  have q12:(1:Int) < ((2:Nat):Int)∧(0:Int) < ((2:Nat):Int)∧(1:Int) < ((3:Nat):Int)∧(2:Int) < ((3:Nat):Int)∧IntKind.i64.wrap (((3:Nat):Int) - 1)=2∧IntKind.i64.wrap (((2:Nat):Int) - 1)=1∧IntKind.i64.wrap ((2:Int) - 1)=1∧IntKind.i64.wrap ((1:Int) - 1)=0:=by decide
  simp only [↓rA,rB,qb,Nat.reduceAdd,Nat.reduceEqDiff,Nat.reduceLeDiff,qE,Tryz.results113,hh,k]
  repeat' (first
   | (refine qe (fun hc=>?_) (fun hc=>?_) <;> (first | (subst hc;try simp only [↓rA,rB,qb,qf,Int.reduceEq,Int.reduceLE,Int.reduceLT,Int.reduceToNat,Nat.reduceAdd,Nat.reduceEqDiff,Nat.reduceLT,Nat.reduceLeDiff,Nat.reduceMul,Nat.reduceSub,reduceCtorEq,qE,Tryz.results113,hh,k,q12,List.map_cons,List.map_nil]) | (try simp only [↓rA,rB,qb,qf,Int.reduceEq,Int.reduceLE,Int.reduceLT,Int.reduceToNat,Nat.reduceAdd,Nat.reduceEqDiff,Nat.reduceLT,Nat.reduceLeDiff,Nat.reduceMul,Nat.reduceSub,reduceCtorEq,qE,Tryz.results113,hh,k,q12,List.map_cons,List.map_nil,hc])))
   | (refine qr (fun hc=>?_) (fun hc=>?_) <;> (first | (subst hc;try simp only [↓rA,rB,qb,qf,Int.reduceEq,Int.reduceLE,Int.reduceLT,Int.reduceToNat,Nat.reduceAdd,Nat.reduceEqDiff,Nat.reduceLT,Nat.reduceLeDiff,Nat.reduceMul,Nat.reduceSub,reduceCtorEq,qE,Tryz.results113,hh,k,q12,List.map_cons,List.map_nil]) | (try simp only [↓rA,rB,qb,qf,Int.reduceEq,Int.reduceLE,Int.reduceLT,Int.reduceToNat,Nat.reduceAdd,Nat.reduceEqDiff,Nat.reduceLT,Nat.reduceLeDiff,Nat.reduceMul,Nat.reduceSub,reduceCtorEq,qE,Tryz.results113,hh,k,q12,List.map_cons,List.map_nil,hc])))
   | (refine qq (fun hc=>?_) (fun hc=>?_) <;> (first | (subst hc;try simp only [↓rA,rB,qb,qf,Int.reduceEq,Int.reduceLE,Int.reduceLT,Int.reduceToNat,Nat.reduceAdd,Nat.reduceEqDiff,Nat.reduceLT,Nat.reduceLeDiff,Nat.reduceMul,Nat.reduceSub,reduceCtorEq,qE,Tryz.results113,hh,k,q12,List.map_cons,List.map_nil]) | (try simp only [↓rA,rB,qb,qf,Int.reduceEq,Int.reduceLE,Int.reduceLT,Int.reduceToNat,Nat.reduceAdd,Nat.reduceEqDiff,Nat.reduceLT,Nat.reduceLeDiff,Nat.reduceMul,Nat.reduceSub,reduceCtorEq,qE,Tryz.results113,hh,k,q12,List.map_cons,List.map_nil,hc])))
   | exact zG _ _ _ _ _
   | exact zY _ _ _ _ _ _ _ (Le.refl _) (by assumption))
 ·obtain rfl:ts=[]:=List.eq_nil_of_length_eq_zero hl
  simp only [↓rA,rB,qf,Nat.reduceLT]
  refine fun b3 h3=>?_;replace h3:=qn h3;try simp only [Nb] at h3
  simp only [↓rA,rB,qf,Nat.reduceEqDiff,Nat.reduceLT]
  refine fun b4 h4=>?_;replace h4:=qn h4;try simp only [Nb] at h4
  simp only [↓rA,rB,qE]
  refine fun b6 h6=>?_;replace h6:=qn h6;try simp only [Nb] at h6
  have hh:=And.intro h3 (And.intro h4 h6)
  have q12:(1:Int) < ((2:Nat):Int)∧(0:Int) < ((2:Nat):Int)∧(1:Int) < ((3:Nat):Int)∧(2:Int) < ((3:Nat):Int)∧IntKind.i64.wrap (((3:Nat):Int) - 1)=2∧IntKind.i64.wrap (((2:Nat):Int) - 1)=1∧IntKind.i64.wrap ((2:Int) - 1)=1∧IntKind.i64.wrap ((1:Int) - 1)=0:=by decide
  simp only [↓rA,rB,Int.reduceEq,Nat.reduceAdd,Nat.reduceEqDiff,qE,hh,k]
  repeat' (first
   | (refine qe (fun hc=>?_) (fun hc=>?_) <;> (first | (subst hc;try simp only [↓rA,rB,qb,qf,Int.reduceEq,Int.reduceLE,Int.reduceLT,Int.reduceToNat,Nat.reduceAdd,Nat.reduceEqDiff,Nat.reduceLT,Nat.reduceLeDiff,Nat.reduceMul,Nat.reduceSub,reduceCtorEq,qE,Tryz.results113,hh,k,q12,List.map_cons,List.map_nil]) | (try simp only [↓rA,rB,qb,qf,Int.reduceEq,Int.reduceLE,Int.reduceLT,Int.reduceToNat,Nat.reduceAdd,Nat.reduceEqDiff,Nat.reduceLT,Nat.reduceLeDiff,Nat.reduceMul,Nat.reduceSub,reduceCtorEq,qE,Tryz.results113,hh,k,q12,List.map_cons,List.map_nil,hc])))
   | (refine qr (fun hc=>?_) (fun hc=>?_) <;> (first | (subst hc;try simp only [↓rA,rB,qb,qf,Int.reduceEq,Int.reduceLE,Int.reduceLT,Int.reduceToNat,Nat.reduceAdd,Nat.reduceEqDiff,Nat.reduceLT,Nat.reduceLeDiff,Nat.reduceMul,Nat.reduceSub,reduceCtorEq,qE,Tryz.results113,hh,k,q12,List.map_cons,List.map_nil]) | (try simp only [↓rA,rB,qb,qf,Int.reduceEq,Int.reduceLE,Int.reduceLT,Int.reduceToNat,Nat.reduceAdd,Nat.reduceEqDiff,Nat.reduceLT,Nat.reduceLeDiff,Nat.reduceMul,Nat.reduceSub,reduceCtorEq,qE,Tryz.results113,hh,k,q12,List.map_cons,List.map_nil,hc])))
   | (refine qq (fun hc=>?_) (fun hc=>?_) <;> (first | (subst hc;try simp only [↓rA,rB,qb,qf,Int.reduceEq,Int.reduceLE,Int.reduceLT,Int.reduceToNat,Nat.reduceAdd,Nat.reduceEqDiff,Nat.reduceLT,Nat.reduceLeDiff,Nat.reduceMul,Nat.reduceSub,reduceCtorEq,qE,Tryz.results113,hh,k,q12,List.map_cons,List.map_nil]) | (try simp only [↓rA,rB,qb,qf,Int.reduceEq,Int.reduceLE,Int.reduceLT,Int.reduceToNat,Nat.reduceAdd,Nat.reduceEqDiff,Nat.reduceLT,Nat.reduceLeDiff,Nat.reduceMul,Nat.reduceSub,reduceCtorEq,qE,Tryz.results113,hh,k,q12,List.map_cons,List.map_nil,hc])))
   | (refine qi [] _ (List.Perm.refl _) (qgh c e t h.name ht) ?_;rintro v bs rs ⟨⟨zt,zn,rfl,hzu⟩,rfl,rfl⟩;try simp only [↓rA,rB,Nat.reduceAdd,Nat.reduceEqDiff,qE,Tryz.results113,k])
   | exact zG _ _ _ _ _
   | exact zY _ _ _ _ _ _ _ (Le.refl _) (by assumption))
 ·obtain rfl:ts=[]:=List.eq_nil_of_length_eq_zero hl
  simp only [↓rA,rB,qf,Nat.reduceLT]
  refine fun b3 h3=>?_;replace h3:=qn h3;try simp only [Nb] at h3
  simp only [↓rA,rB,qf,Nat.reduceEqDiff,Nat.reduceLT]
  refine fun b4 h4=>?_;replace h4:=qn h4;try simp only [Nb] at h4
  simp only [↓rA,rB,qE]
  refine fun b6 h6=>?_;replace h6:=qn h6;try simp only [Nb] at h6
  have hh:=And.intro h3 (And.intro h4 h6)
  have q12:(1:Int) < ((2:Nat):Int)∧(0:Int) < ((2:Nat):Int)∧(1:Int) < ((3:Nat):Int)∧(2:Int) < ((3:Nat):Int)∧IntKind.i64.wrap (((3:Nat):Int) - 1)=2∧IntKind.i64.wrap (((2:Nat):Int) - 1)=1∧IntKind.i64.wrap ((2:Int) - 1)=1∧IntKind.i64.wrap ((1:Int) - 1)=0:=by decide
  simp only [↓rA,rB,Int.reduceEq,Nat.reduceAdd,Nat.reduceEqDiff,qE,hh,k]
  repeat' (first
   | (refine qe (fun hc=>?_) (fun hc=>?_) <;> (first | (subst hc;try simp only [↓rA,rB,qb,qf,Int.reduceEq,Int.reduceLE,Int.reduceLT,Int.reduceToNat,Nat.reduceAdd,Nat.reduceEqDiff,Nat.reduceLT,Nat.reduceLeDiff,Nat.reduceMul,Nat.reduceSub,reduceCtorEq,qE,Tryz.results113,hh,k,q12,List.map_cons,List.map_nil]) | (try simp only [↓rA,rB,qb,qf,Int.reduceEq,Int.reduceLE,Int.reduceLT,Int.reduceToNat,Nat.reduceAdd,Nat.reduceEqDiff,Nat.reduceLT,Nat.reduceLeDiff,Nat.reduceMul,Nat.reduceSub,reduceCtorEq,qE,Tryz.results113,hh,k,q12,List.map_cons,List.map_nil,hc])))
   | (refine qr (fun hc=>?_) (fun hc=>?_) <;> (first | (subst hc;try simp only [↓rA,rB,qb,qf,Int.reduceEq,Int.reduceLE,Int.reduceLT,Int.reduceToNat,Nat.reduceAdd,Nat.reduceEqDiff,Nat.reduceLT,Nat.reduceLeDiff,Nat.reduceMul,Nat.reduceSub,reduceCtorEq,qE,Tryz.results113,hh,k,q12,List.map_cons,List.map_nil]) | (try simp only [↓rA,rB,qb,qf,Int.reduceEq,Int.reduceLE,Int.reduceLT,Int.reduceToNat,Nat.reduceAdd,Nat.reduceEqDiff,Nat.reduceLT,Nat.reduceLeDiff,Nat.reduceMul,Nat.reduceSub,reduceCtorEq,qE,Tryz.results113,hh,k,q12,List.map_cons,List.map_nil,hc])))
   | (refine qq (fun hc=>?_) (fun hc=>?_) <;> (first | (subst hc;try simp only [↓rA,rB,qb,qf,Int.reduceEq,Int.reduceLE,Int.reduceLT,Int.reduceToNat,Nat.reduceAdd,Nat.reduceEqDiff,Nat.reduceLT,Nat.reduceLeDiff,Nat.reduceMul,Nat.reduceSub,reduceCtorEq,qE,Tryz.results113,hh,k,q12,List.map_cons,List.map_nil]) | (try simp only [↓rA,rB,qb,qf,Int.reduceEq,Int.reduceLE,Int.reduceLT,Int.reduceToNat,Nat.reduceAdd,Nat.reduceEqDiff,Nat.reduceLT,Nat.reduceLeDiff,Nat.reduceMul,Nat.reduceSub,reduceCtorEq,qE,Tryz.results113,hh,k,q12,List.map_cons,List.map_nil,hc])))
   | (refine qi [] _ (List.Perm.refl _) (ZO c e t h.name e (Nat.le_trans hk.lf hn) hk.ff) ?_;rintro v bs rs ⟨⟨zt,zn,rfl,hzu⟩,rfl,rfl⟩;try simp only [↓rA,rB,Nat.reduceAdd,Nat.reduceEqDiff,qE,Tryz.results113,k])
   | exact zG _ _ _ _ _
   | exact zY _ _ _ _ _ _ _ (Le.refl _) (by assumption))
 ·obtain⟨t0,rfl⟩:∃ t0,ts=[t0]:=by
   rcases ts with _ | ⟨t0,(_ | ⟨zz,zr⟩)⟩ <;> first | (simp at hl;done) | exact⟨t0,rfl⟩
  have ft0:wv t0:=hts _ (by simp)
  simp only [↓rA,rB,qf,Nat.reduceLT]
  refine fun b3 h3=>?_;replace h3:=qn h3;try simp only [Nb] at h3
  simp only [↓rA,rB,qf,Nat.reduceEqDiff,Nat.reduceLT]
  refine fun b4 h4=>?_;replace h4:=qn h4;try simp only [Nb] at h4
  simp only [↓rA,rB,qE]
  refine fun b6 h6=>?_;replace h6:=qn h6;try simp only [Nb] at h6
  have hh:=And.intro h3 (And.intro h4 h6)
  have q12:(1:Int) < ((2:Nat):Int)∧(0:Int) < ((2:Nat):Int)∧(1:Int) < ((3:Nat):Int)∧(2:Int) < ((3:Nat):Int)∧IntKind.i64.wrap (((3:Nat):Int) - 1)=2∧IntKind.i64.wrap (((2:Nat):Int) - 1)=1∧IntKind.i64.wrap ((2:Int) - 1)=1∧IntKind.i64.wrap ((1:Int) - 1)=0:=by decide
  simp only [↓rA,rB,Int.reduceEq,Int.reduceToNat,Nat.reduceAdd,Nat.reduceEqDiff,qE,hh,k]
  repeat' (first
   | (refine qe (fun hc=>?_) (fun hc=>?_) <;> (first | (subst hc;try simp only [↓rA,rB,qb,qf,Int.reduceEq,Int.reduceLE,Int.reduceLT,Int.reduceToNat,Nat.reduceAdd,Nat.reduceEqDiff,Nat.reduceLT,Nat.reduceLeDiff,Nat.reduceMul,Nat.reduceSub,reduceCtorEq,qE,Tryz.results113,hh,k,q12,List.map_cons,List.map_nil]) | (try simp only [↓rA,rB,qb,Int.reduceToNat,Nat.reduceAdd,Nat.reduceEqDiff,reduceCtorEq,qE,Tryz.results113,hh,k,hc])))
   | (refine qr (fun hc=>?_) (fun hc=>?_) <;> (first | (subst hc;try simp only [↓rA,rB,qb,qf,Int.reduceEq,Int.reduceLE,Int.reduceLT,Int.reduceToNat,Nat.reduceAdd,Nat.reduceEqDiff,Nat.reduceLT,Nat.reduceLeDiff,Nat.reduceMul,Nat.reduceSub,reduceCtorEq,qE,Tryz.results113,hh,k,q12,List.map_cons,List.map_nil]) | (try simp only [↓rA,rB,qb,qf,Int.reduceEq,Int.reduceLE,Int.reduceLT,Int.reduceToNat,Nat.reduceAdd,Nat.reduceEqDiff,Nat.reduceLT,Nat.reduceLeDiff,Nat.reduceMul,Nat.reduceSub,reduceCtorEq,qE,Tryz.results113,hh,k,q12,List.map_cons,List.map_nil,hc])))
   | (refine qq (fun hc=>?_) (fun hc=>?_) <;> (first | (subst hc;try simp only [↓rA,rB,qb,qf,Int.reduceEq,Int.reduceLE,Int.reduceLT,Int.reduceToNat,Nat.reduceAdd,Nat.reduceEqDiff,Nat.reduceLT,Nat.reduceLeDiff,Nat.reduceMul,Nat.reduceSub,reduceCtorEq,qE,Tryz.results113,hh,k,q12,List.map_cons,List.map_nil]) | (try simp only [↓rA,rB,qb,qf,Int.reduceEq,Int.reduceLE,Int.reduceLT,Int.reduceToNat,Nat.reduceAdd,Nat.reduceEqDiff,Nat.reduceLT,Nat.reduceLeDiff,Nat.reduceMul,Nat.reduceSub,reduceCtorEq,qE,Tryz.results113,hh,k,q12,List.map_cons,List.map_nil,hc])))
   | (refine wu (ZO c e t h.name t0.of (Nat.le_trans hk.lf hn) hk.ff) ?_;rintro v bs rs ⟨⟨zt,zn,rfl,hzu⟩,rfl,rfl⟩;refine⟨rfl,?_⟩;try simp only [↓rA,rB,Nat.reduceAdd,Nat.reduceEqDiff,reduceCtorEq,qE,Tryz.results113,k])
   | exact zG _ _ _ _ _
   | exact zY _ _ _ _ _ _ _ (Le.refl _) (by assumption))
 ·obtain⟨t0,t1,rfl⟩:∃ t0 t1,ts=[t0,t1]:=by
   rcases ts with _ | ⟨t0,(_ | ⟨t1,(_ | ⟨zz,zr⟩)⟩)⟩ <;> first | (simp at hl;done) | exact⟨t0,t1,rfl⟩
  have ft0:wv t0:=hts _ (by simp)
  have ft1:wv t1:=hts _ (by simp)
  have hov:UA Tryz.prog 144 [.agg [vint h.kind,qm h.op,qm h.name,qm h.table,vint h.val.kind,vint h.val.n,qm h.val.s,qG h.unit,vint h.param,vint h.wk,vint h.ws,zD l],Qm t0,Qm t1]:=by
   have:=qe1 (.mk h l) t0 t1 ft0
   simp only [vE,qx] at this
   exact this
  rw [k] at hov
  simp only [↓rA,rB,qf,Nat.reduceLT]
  refine fun b3 h3=>?_;replace h3:=qn h3;try simp only [Nb] at h3
  simp only [↓rA,rB,qf,Nat.reduceEqDiff,Nat.reduceLT]
  refine fun b4 h4=>?_;replace h4:=qn h4;try simp only [Nb] at h4
  simp only [↓rA,rB,qE]
  refine fun b6 h6=>?_;replace h6:=qn h6;try simp only [Nb] at h6
  have hh:=And.intro h3 (And.intro h4 h6)
  have q12:(1:Int) < ((2:Nat):Int)∧(0:Int) < ((2:Nat):Int)∧(1:Int) < ((3:Nat):Int)∧(2:Int) < ((3:Nat):Int)∧IntKind.i64.wrap (((3:Nat):Int) - 1)=2∧IntKind.i64.wrap (((2:Nat):Int) - 1)=1∧IntKind.i64.wrap ((2:Int) - 1)=1∧IntKind.i64.wrap ((1:Int) - 1)=0:=by decide
  simp only [↓rA,rB,Int.reduceEq,Int.reduceLE,Int.reduceToNat,Nat.reduceAdd,Nat.reduceEqDiff,reduceCtorEq,qE,hh,k,q12]
  repeat' (first
   | (refine qe (fun hc=>?_) (fun hc=>?_) <;> (first | (subst hc;try simp only [↓rA,rB,qb,qf,Int.reduceEq,Int.reduceLE,Int.reduceLT,Int.reduceToNat,Nat.reduceAdd,Nat.reduceEqDiff,Nat.reduceLT,Nat.reduceLeDiff,Nat.reduceMul,Nat.reduceSub,reduceCtorEq,qE,Tryz.results113,hh,k,q12,List.map_cons,List.map_nil]) | (try simp only [↓rA,rB,qb,qf,Int.reduceEq,Int.reduceLE,Int.reduceLT,Int.reduceToNat,Nat.reduceAdd,Nat.reduceEqDiff,Nat.reduceLT,Nat.reduceLeDiff,Nat.reduceMul,Nat.reduceSub,reduceCtorEq,qE,Tryz.results113,hh,k,q12,List.map_cons,List.map_nil,hc])))
   | (refine qr (fun hc=>?_) (fun hc=>?_) <;> (first | (subst hc;try simp only [↓rA,rB,qb,qf,Int.reduceEq,Int.reduceLE,Int.reduceLT,Int.reduceToNat,Nat.reduceAdd,Nat.reduceEqDiff,Nat.reduceLT,Nat.reduceLeDiff,Nat.reduceMul,Nat.reduceSub,reduceCtorEq,qE,Tryz.results113,hh,k,q12,List.map_cons,List.map_nil]) | (try simp only [↓rA,rB,qb,qf,Int.reduceEq,Int.reduceLE,Int.reduceLT,Int.reduceToNat,Nat.reduceAdd,Nat.reduceEqDiff,Nat.reduceLT,Nat.reduceLeDiff,Nat.reduceMul,Nat.reduceSub,reduceCtorEq,qE,Tryz.results113,hh,k,q12,List.map_cons,List.map_nil,hc])))
   | (refine qq (fun hc=>?_) (fun hc=>?_) <;> (first | (subst hc;try simp only [↓rA,rB,qb,qf,Int.reduceEq,Int.reduceLE,Int.reduceLT,Int.reduceToNat,Nat.reduceAdd,Nat.reduceEqDiff,Nat.reduceLT,Nat.reduceLeDiff,Nat.reduceMul,Nat.reduceSub,reduceCtorEq,qE,Tryz.results113,hh,k,q12,List.map_cons,List.map_nil]) | (try simp only [↓rA,rB,qb,qf,Int.reduceEq,Int.reduceLE,Int.reduceLT,Int.reduceToNat,Nat.reduceAdd,Nat.reduceEqDiff,Nat.reduceLT,Nat.reduceLeDiff,Nat.reduceMul,Nat.reduceSub,reduceCtorEq,qE,Tryz.results113,hh,k,q12,List.map_cons,List.map_nil,hc])))
   | (refine wu (hov) ?_;rintro v bs rs ⟨⟨zt,zn,rfl,hzu⟩,rfl,rfl⟩;refine⟨rfl,?_⟩;try simp only [↓rA,rB,Nat.reduceAdd,Nat.reduceEqDiff,reduceCtorEq,qE,Tryz.results113,k])
   | exact zG _ _ _ _ _
   | exact zY _ _ _ _ _ _ _ (Le.refl _) (by assumption))
 ·obtain⟨t0,rfl⟩:∃ t0,ts=[t0]:=by
   rcases ts with _ | ⟨t0,(_ | ⟨zz,zr⟩)⟩ <;> first | (simp at hl;done) | exact⟨t0,rfl⟩
  have ft0:wv t0:=hts _ (by simp)
  simp only [↓rA,rB,qf,Nat.reduceLT]
  refine fun b3 h3=>?_;replace h3:=qn h3;try simp only [Nb] at h3
  simp only [↓rA,rB,qf,Nat.reduceEqDiff,Nat.reduceLT]
  refine fun b4 h4=>?_;replace h4:=qn h4;try simp only [Nb] at h4
  simp only [↓rA,rB,qE]
  refine fun b6 h6=>?_;replace h6:=qn h6;try simp only [Nb] at h6
  have hh:=And.intro h3 (And.intro h4 h6)
  have q12:(1:Int) < ((2:Nat):Int)∧(0:Int) < ((2:Nat):Int)∧(1:Int) < ((3:Nat):Int)∧(2:Int) < ((3:Nat):Int)∧IntKind.i64.wrap (((3:Nat):Int) - 1)=2∧IntKind.i64.wrap (((2:Nat):Int) - 1)=1∧IntKind.i64.wrap ((2:Int) - 1)=1∧IntKind.i64.wrap ((1:Int) - 1)=0:=by decide
  by_cases e1:h.op=⟨#[45]⟩
  ·have f1:(h.op=⟨#[45]⟩)=True:=eq_true e1
   have f2:(h.op=⟨#[110,111,116]⟩)=False:=eq_false (by rw [e1];decide)
   simp only [↓rA,rB,Int.reduceEq,Int.reduceToNat,Nat.reduceAdd,Nat.reduceEqDiff,qE,hh,k,f1]
   refine qg _ (zB _ _ _) ?_
   generalize decide (t0.kind=2∨t0.kind=3)=p
   cases p <;> simp only [↓rA,rB,qb,Int.reduceToNat,Nat.reduceAdd,Nat.reduceEqDiff,qE,Tryz.results113,hh,k,f1,f2]
   ·exact zG _ _ _ _ _
   ·exact zY _ _ _ _ _ _ _ (Le.refl _) ft0
  by_cases e2:h.op=⟨#[110,111,116]⟩
  ·have f1:(h.op=⟨#[45]⟩)=False:=eq_false e1
   have f2:(h.op=⟨#[110,111,116]⟩)=True:=eq_true e2
   by_cases e3:t0.kind=1 <;> simp only [↓rA,rB,qb,Int.reduceEq,Int.reduceToNat,Nat.reduceAdd,Nat.reduceEqDiff,Nat.reduceLeDiff,qE,Tryz.results113,hh,k,f1,f2,e3] <;> exact zG _ _ _ _ _
  ·simp only [↓rA,rB,qb,Int.reduceEq,Nat.reduceAdd,Nat.reduceEqDiff,Nat.reduceLeDiff,qE,Tryz.results113,hh,k,e1,e2]
   exact zG _ _ _ _ _
 ·obtain⟨t0,t1,rfl⟩:∃ t0 t1,ts=[t0,t1]:=by
   rcases ts with _ | ⟨t0,(_ | ⟨t1,(_ | ⟨zz,zr⟩)⟩)⟩ <;> first | (simp at hl;done) | exact⟨t0,t1,rfl⟩
  have ft0:wv t0:=hts _ (by simp)
  have ft1:wv t1:=hts _ (by simp)
  simp only [↓rA,rB,qf,Nat.reduceLT]
  refine fun b3 h3=>?_;replace h3:=qn h3;try simp only [Nb] at h3
  simp only [↓rA,rB,qf,Nat.reduceEqDiff,Nat.reduceLT]
  refine fun b4 h4=>?_;replace h4:=qn h4;try simp only [Nb] at h4
  simp only [↓rA,rB,qE]
  refine fun b6 h6=>?_;replace h6:=qn h6;try simp only [Nb] at h6
  have hh:=And.intro h3 (And.intro h4 h6)
  have q12:(1:Int) < ((2:Nat):Int)∧(0:Int) < ((2:Nat):Int)∧(1:Int) < ((3:Nat):Int)∧(2:Int) < ((3:Nat):Int)∧IntKind.i64.wrap (((3:Nat):Int) - 1)=2∧IntKind.i64.wrap (((2:Nat):Int) - 1)=1∧IntKind.i64.wrap ((2:Int) - 1)=1∧IntKind.i64.wrap ((1:Int) - 1)=0:=by decide
  simp only [↓rA,rB,Int.reduceEq,Int.reduceLE,Int.reduceToNat,Nat.reduceAdd,Nat.reduceEqDiff,reduceCtorEq,qE,hh,k,q12]
  repeat' (first
   | (refine qe (fun hc=>?_) (fun hc=>?_) <;> (first | (subst hc;try simp only [↓rA,rB,qb,qf,Int.reduceEq,Int.reduceLE,Int.reduceLT,Int.reduceToNat,Nat.reduceAdd,Nat.reduceEqDiff,Nat.reduceLT,Nat.reduceLeDiff,Nat.reduceMul,Nat.reduceSub,reduceCtorEq,qE,Tryz.results113,hh,k,q12,List.map_cons,List.map_nil]) | (try simp only [↓rA,rB,qb,qf,Int.reduceEq,Int.reduceLE,Int.reduceLT,Int.reduceToNat,Nat.reduceAdd,Nat.reduceEqDiff,Nat.reduceLT,Nat.reduceLeDiff,Nat.reduceMul,Nat.reduceSub,reduceCtorEq,qE,Tryz.results113,hh,k,q12,List.map_cons,List.map_nil,hc])))
   | (refine qr (fun hc=>?_) (fun hc=>?_) <;> (first | (subst hc;try simp only [↓rA,rB,qb,qf,Int.reduceEq,Int.reduceLE,Int.reduceLT,Int.reduceToNat,Nat.reduceAdd,Nat.reduceEqDiff,Nat.reduceLT,Nat.reduceLeDiff,Nat.reduceMul,Nat.reduceSub,reduceCtorEq,qE,Tryz.results113,hh,k,q12,List.map_cons,List.map_nil]) | (try simp only [↓rA,rB,qb,qf,Int.reduceEq,Int.reduceLE,Int.reduceLT,Int.reduceToNat,Nat.reduceAdd,Nat.reduceEqDiff,Nat.reduceLT,Nat.reduceLeDiff,Nat.reduceMul,Nat.reduceSub,reduceCtorEq,qE,Tryz.results113,hh,k,q12,List.map_cons,List.map_nil,hc])))
   | (refine qq (fun hc=>?_) (fun hc=>?_) <;> (first | (subst hc;try simp only [↓rA,rB,qb,qf,Int.reduceEq,Int.reduceLE,Int.reduceLT,Int.reduceToNat,Nat.reduceAdd,Nat.reduceEqDiff,Nat.reduceLT,Nat.reduceLeDiff,Nat.reduceMul,Nat.reduceSub,reduceCtorEq,qE,Tryz.results113,hh,k,q12,List.map_cons,List.map_nil]) | (try simp only [↓rA,rB,qb,qf,Int.reduceEq,Int.reduceLE,Int.reduceLT,Int.reduceToNat,Nat.reduceAdd,Nat.reduceEqDiff,Nat.reduceLT,Nat.reduceLeDiff,Nat.reduceMul,Nat.reduceSub,reduceCtorEq,qE,Tryz.results113,hh,k,q12,List.map_cons,List.map_nil,hc])))
   | (refine wu (qg2 h.op t0 t1 ft0 ft1) ?_;rintro v bs rs ⟨⟨zt,zn,rfl,hzu⟩,rfl,rfl⟩;refine⟨rfl,?_⟩;try simp only [↓rA,rB,Nat.reduceAdd,Nat.reduceEqDiff,reduceCtorEq,qE,Tryz.results113,k])
   | exact zG _ _ _ _ _
   | exact zY _ _ _ _ _ _ _ (Le.refl _) (by assumption))
 ·obtain⟨t0,t1,t2,rfl⟩:∃ t0 t1 t2,ts=[t0,t1,t2]:=by
   rcases ts with _ | ⟨t0,(_ | ⟨t1,(_ | ⟨t2,(_ | ⟨zz,zr⟩)⟩)⟩)⟩ <;> first | (simp at hl;done) | exact⟨t0,t1,t2,rfl⟩
  have ft0:wv t0:=hts _ (by simp)
  have ft1:wv t1:=hts _ (by simp)
  have ft2:wv t2:=hts _ (by simp)
  simp only [↓rA,rB,qf,Nat.reduceLT]
  refine fun b3 h3=>?_;replace h3:=qn h3;try simp only [Nb] at h3
  simp only [↓rA,rB,qf,Nat.reduceEqDiff,Nat.reduceLT]
  refine fun b4 h4=>?_;replace h4:=qn h4;try simp only [Nb] at h4
  simp only [↓rA,rB,qE]
  refine fun b6 h6=>?_;replace h6:=qn h6;try simp only [Nb] at h6
  have hh:=And.intro h3 (And.intro h4 h6)
  have q12:(1:Int) < ((2:Nat):Int)∧(0:Int) < ((2:Nat):Int)∧(1:Int) < ((3:Nat):Int)∧(2:Int) < ((3:Nat):Int)∧IntKind.i64.wrap (((3:Nat):Int) - 1)=2∧IntKind.i64.wrap (((2:Nat):Int) - 1)=1∧IntKind.i64.wrap ((2:Int) - 1)=1∧IntKind.i64.wrap ((1:Int) - 1)=0:=by decide
  simp only [↓rA,rB,Int.reduceEq,Int.reduceToNat,Nat.reduceAdd,Nat.reduceEqDiff,qE,hh,k]
  repeat' (first
   | (refine qe (fun hc=>?_) (fun hc=>?_) <;> (first | (subst hc;try simp only [↓rA,rB,qb,qf,Int.reduceEq,Int.reduceLE,Int.reduceLT,Int.reduceToNat,Nat.reduceAdd,Nat.reduceEqDiff,Nat.reduceLT,Nat.reduceLeDiff,Nat.reduceMul,Nat.reduceSub,reduceCtorEq,qE,Tryz.results113,hh,k,q12,List.map_cons,List.map_nil]) | (try simp only [↓rA,rB,qb,Int.reduceLE,Int.reduceToNat,Nat.reduceAdd,Nat.reduceEqDiff,reduceCtorEq,qE,Tryz.results113,k,q12,hc])))
   | (refine qr (fun hc=>?_) (fun hc=>?_) <;> (first | (subst hc;try simp only [↓rA,rB,qb,qf,Int.reduceEq,Int.reduceLE,Int.reduceLT,Int.reduceToNat,Nat.reduceAdd,Nat.reduceEqDiff,Nat.reduceLT,Nat.reduceLeDiff,Nat.reduceMul,Nat.reduceSub,reduceCtorEq,qE,Tryz.results113,hh,k,q12,List.map_cons,List.map_nil]) | (try simp only [↓rA,rB,qb,qf,Int.reduceEq,Int.reduceLE,Int.reduceLT,Int.reduceToNat,Nat.reduceAdd,Nat.reduceEqDiff,Nat.reduceLT,Nat.reduceLeDiff,Nat.reduceMul,Nat.reduceSub,reduceCtorEq,qE,Tryz.results113,hh,k,q12,List.map_cons,List.map_nil,hc])))
   | (refine qq (fun hc=>?_) (fun hc=>?_) <;> (first | (subst hc;try simp only [↓rA,rB,qb,qf,Int.reduceEq,Int.reduceLE,Int.reduceLT,Int.reduceToNat,Nat.reduceAdd,Nat.reduceEqDiff,Nat.reduceLT,Nat.reduceLeDiff,Nat.reduceMul,Nat.reduceSub,reduceCtorEq,qE,Tryz.results113,hh,k,q12,List.map_cons,List.map_nil]) | (try simp only [↓rA,rB,qb,qf,Int.reduceEq,Int.reduceLE,Int.reduceLT,Int.reduceToNat,Nat.reduceAdd,Nat.reduceEqDiff,Nat.reduceLT,Nat.reduceLeDiff,Nat.reduceMul,Nat.reduceSub,reduceCtorEq,qE,Tryz.results113,hh,k,q12,List.map_cons,List.map_nil,hc])))
   | (refine wu (Uo t1 t2 ft1) ?_;rintro v bs rs ⟨⟨zn,rfl⟩,rfl,rfl⟩;refine⟨rfl,?_⟩;try simp only [↓rA,rB,Nat.reduceAdd,reduceCtorEq,k])
   | exact zG _ _ _ _ _
   | exact zY _ _ _ _ _ _ _ (Le.refl _) (by assumption))
 ·obtain⟨t0,t1,rfl⟩:∃ t0 t1,ts=[t0,t1]:=by
   rcases ts with _ | ⟨t0,(_ | ⟨t1,(_ | ⟨zz,zr⟩)⟩)⟩ <;> first | (simp at hl;done) | exact⟨t0,t1,rfl⟩
  have ft0:wv t0:=hts _ (by simp)
  have ft1:wv t1:=hts _ (by simp)
  simp only [↓rA,rB,qf,Nat.reduceLT]
  refine fun b3 h3=>?_;replace h3:=qn h3;try simp only [Nb] at h3
  simp only [↓rA,rB,qf,Nat.reduceEqDiff,Nat.reduceLT]
  refine fun b4 h4=>?_;replace h4:=qn h4;try simp only [Nb] at h4
  simp only [↓rA,rB,qE]
  refine fun b6 h6=>?_;replace h6:=qn h6;try simp only [Nb] at h6
  have hh:=And.intro h3 (And.intro h4 h6)
  have q12:(1:Int) < ((2:Nat):Int)∧(0:Int) < ((2:Nat):Int)∧(1:Int) < ((3:Nat):Int)∧(2:Int) < ((3:Nat):Int)∧IntKind.i64.wrap (((3:Nat):Int) - 1)=2∧IntKind.i64.wrap (((2:Nat):Int) - 1)=1∧IntKind.i64.wrap ((2:Int) - 1)=1∧IntKind.i64.wrap ((1:Int) - 1)=0:=by decide
  simp only [↓rA,rB,Int.reduceEq,Int.reduceLE,Int.reduceToNat,Nat.reduceAdd,Nat.reduceEqDiff,reduceCtorEq,qE,hh,k,q12]
  repeat' (first
   | (refine qe (fun hc=>?_) (fun hc=>?_) <;> (first | (subst hc;try simp only [↓rA,rB,qb,qf,Int.reduceEq,Int.reduceLE,Int.reduceLT,Int.reduceToNat,Nat.reduceAdd,Nat.reduceEqDiff,Nat.reduceLT,Nat.reduceLeDiff,Nat.reduceMul,Nat.reduceSub,reduceCtorEq,qE,Tryz.results113,hh,k,q12,List.map_cons,List.map_nil]) | (try simp only [↓rA,rB,qb,Int.reduceLE,Int.reduceToNat,Nat.reduceAdd,Nat.reduceEqDiff,qE,Tryz.results113,k,q12,hc])))
   | (refine qr (fun hc=>?_) (fun hc=>?_) <;> (first | (subst hc;try simp only [↓rA,rB,qb,qf,Int.reduceEq,Int.reduceLE,Int.reduceLT,Int.reduceToNat,Nat.reduceAdd,Nat.reduceEqDiff,Nat.reduceLT,Nat.reduceLeDiff,Nat.reduceMul,Nat.reduceSub,reduceCtorEq,qE,Tryz.results113,hh,k,q12,List.map_cons,List.map_nil]) | (try simp only [↓rA,rB,qb,qf,Int.reduceEq,Int.reduceLE,Int.reduceLT,Int.reduceToNat,Nat.reduceAdd,Nat.reduceEqDiff,Nat.reduceLT,Nat.reduceLeDiff,Nat.reduceMul,Nat.reduceSub,reduceCtorEq,qE,Tryz.results113,hh,k,q12,List.map_cons,List.map_nil,hc])))
   | (refine qq (fun hc=>?_) (fun hc=>?_) <;> (first | (subst hc;try simp only [↓rA,rB,qb,qf,Int.reduceEq,Int.reduceLE,Int.reduceLT,Int.reduceToNat,Nat.reduceAdd,Nat.reduceEqDiff,Nat.reduceLT,Nat.reduceLeDiff,Nat.reduceMul,Nat.reduceSub,reduceCtorEq,qE,Tryz.results113,hh,k,q12,List.map_cons,List.map_nil]) | (try simp only [↓rA,rB,qb,qf,Int.reduceEq,Int.reduceLE,Int.reduceLT,Int.reduceToNat,Nat.reduceAdd,Nat.reduceEqDiff,Nat.reduceLT,Nat.reduceLeDiff,Nat.reduceMul,Nat.reduceSub,reduceCtorEq,qE,Tryz.results113,hh,k,q12,List.map_cons,List.map_nil,hc])))
   | (refine wu (Uo t0 t1 ft0) ?_;rintro v bs rs ⟨⟨zn,rfl⟩,rfl,rfl⟩;refine⟨rfl,?_⟩;try simp only [↓rA,rB,Nat.reduceAdd,reduceCtorEq,k])
   | exact zG _ _ _ _ _
   | exact zY _ _ _ _ _ _ _ (Le.refl _) (by assumption))
end Go.Proofs.YtohdpcjaoiebkaaGreatDoor
