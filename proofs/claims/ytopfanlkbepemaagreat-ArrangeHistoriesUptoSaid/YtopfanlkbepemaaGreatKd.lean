/- Merged out of my texts CL CM CN CO CP CQ CR CS CT CU CV CW CX CY CZ. -/
import Derived.Test.YtopfanlkbepemaaGreatKc
import Derived.Test.YtopfanlkbepemaaGreatKVH
import Derived.Test.YtopfanlkbepemaaGreatKVTw
set_option linter.unusedSimpArgs false
set_option maxRecDepth 100000
set_option linter.defProp false
namespace Go.Proofs.YtopfanlkbepemaaGreat
open Go.VL Go.Ar Go.Lo Go.Proofs.YtopfanlkbepemaaGreat
def Qt (v:V):Prop:=∃ (n:Int) (t:Bool),v=.tup [vint n,.lit (.bool t)]
theorem below_il (v w:V) (hv:IL v) (hw:IL w):Ok Tryz.prog 199 [v,w] [] fun v bs rs=>(∃ t,v=.lit (.bool t))∧bs=[]∧rs=[]:=by
 obtain⟨y,es,he,rfl⟩:=hv
 obtain⟨y',es',he',rfl⟩:=hw
 exact below_ok y y' es es' he he'
def tbCL0:=(aI (aI (aI Ty.c191 Ty.c197) (aI Ty.c198 (aI Ty.c199 Ty.c200))) (aI (aI Ty.t160 Ty.t175) (aI Ty.t268 (aI Ty.t3 Ty.t4))))
set_option maxHeartbeats 4000000 in
theorem divide_ok (v:V) (hv:Wd v) (n:Int):Ok Tryz.prog 193 [v,vint n] [] fun v bs rs=>Qt v∧bs=[]∧rs=[]:=by
 obtain⟨a,b,rfl⟩:=hv
 refine Ok.of_ex Ty.mixed Tryz.func193 rfl (by simp [Tryz.ntmps193]) (by kernel_rfl) fun F w0 I0=>?_
 simp only [↓rA,rB]
 refine fun b2 h2=>?_;replace h2:=newb h2;try simp only [Nb] at h2
 simp only [↓rA,rB,Nat.reduceEqDiff]
 refine onCond_splitb (fun hc=>?_) (fun hc=>?_)
 ·simp only [↓rA,rB,Nat.reduceEqDiff,Tryz.results193]
  exact⟨_,[],[],Le.refl _,List.nil_sublist _,List.nil_sublist _,⟨_,_,rfl⟩,rfl,rfl⟩
 simp only [↓rA,rB,Nat.reduceAdd,Nat.reduceEqDiff,tbCL0]
 refine OkF_with [] _ (List.Perm.refl _) (size_ok _ ⟨a,b,rfl⟩) ?_
 rintro v bs rs ⟨⟨y6,e6,l6,rfl⟩,rfl,rfl⟩
 simp only [↓rA,rB,Nat.reduceEqDiff,tbCL0]
 refine OkF_with [] _ (List.Perm.refl _) (of_ok n) ?_
 rintro v bs rs ⟨hv,rfl,rfl⟩
 simp only [↓rA,rB,tbCL0]
 refine OkF_with [] _ (List.Perm.refl _) (size_ok _ hv) ?_
 rintro v bs rs ⟨hden,rfl,rfl⟩
 simp only [↓rA,rB,Int.reduceLE,Int.reduceToNat,Nat.reduceLT,Nat.reduceLeDiff,Nat.reduceMul,tbCL0]
 refine fun b3 h3=>?_;replace h3:=newb h3;try simp only [Nb] at h3
 have hh:=And.intro h2 h3
 simp only [↓rA,rB,Tryz.results193]
 have hz:BI 8 (slI b3 8 8) [(b3,.c (List.replicate 8 [vint 0]).flatten)]:=⟨b3,8,List.replicate 8 0,[],rfl,Nat.le_refl _,rfl,rfl,rfl⟩
 refine EX_whileS Ty.mixed (by kernel_rfl) (fun k=>k) (fun(k:Nat) S=>k≤128∧(∃ bs,(k=0→IL (S.σ 8)∧bs=[])∧(∀ n,Ok Tryz.prog 198 [S.σ 8,vint n] bs fun v bs rs=>IL v∧bs=[]∧rs=[])∧S.boxes=bs++[(b2,.c [vint a,vu b])])∧S.rows=[]∧S.σ 1=vint n∧S.σ 2=ptr b2∧S.σ 6=lI y6 e6∧S.σ 7=v∧(∃ t,S.σ 9=vint t)∧S.σ 10=vint ((k:Int) - 1)) 128 ⟨_,_,List.Sublist.refl _,List.Sublist.refl _,?_⟩ (fun k S ⟨hk,⟨bs,h0,hT,gb⟩,gr,g1,g2,g6,g7,⟨t9,g9⟩,g10⟩=>?_)
 ·refine⟨Nat.le_refl _,⟨[_],fun h=>absurd h (by decide),fun n=>twice_bi _ _ hz n,rfl⟩,rfl,rfl,rfl,rfl,rfl,⟨_,rfl⟩,rfl⟩
 ·rcases k with _ | m
  ·have q:¬ (0:Int)≤0 - 1:=by decide
   obtain⟨h8,rfl⟩:=h0 rfl
   generalize g8:S.σ 8=r8 at h8 hT
   simp only [↓rA,rB,Nat.reduceEqDiff,tbCL0,gb,g8,g10,q]
   refine OkF_with [] _ (List.Perm.refl _) (hT 0) ?_
   rintro v8 bs rs ⟨hv8,rfl,rfl⟩
   simp only [↓rA,rB,Nat.reduceEqDiff,tbCL0,gr,g7,List.nil_append]
   refine OkF_with [] _ (List.Perm.refl _) (below_il v v8 hden hv8) ?_
   rintro w bs rs ⟨⟨t,rfl⟩,rfl,rfl⟩
   cases t
   ·simp only [↓rA,rB,Nat.reduceEqDiff,tbCL0,gr,g7,List.nil_append]
    refine OkF_with [] _ (List.Perm.refl _) (below_il v8 v hv8 hden) ?_
    rintro w bs rs ⟨⟨t,rfl⟩,rfl,rfl⟩
    cases t <;> simp only [↓rA,rB,Int.reduceEq,Nat.reduceEqDiff,gr,g9,List.nil_append]
    all_goals
     skip
     repeat' (first
      | (refine onCond_splitb (fun hc=>?_) (fun hc=>?_) <;> (first | (subst hc;try simp only [↓rA,rB,Int.reduceEq,Int.reduceLE,Int.reduceLT,Int.reduceToNat,Nat.reduceAdd,Nat.reduceEqDiff,Nat.reduceLT,Nat.reduceLeDiff,Nat.reduceMul,Nat.reduceSub,reduceCtorEq,tbCL0,Tryz.results193,gb,gr,g1,g2,g6,g7,g8,g9,g10,q,hh,List.nil_append]) | (try simp only [↓rA,rB,Nat.reduceAdd,Nat.reduceEqDiff,tbCL0,gr,g1,g2,g9,hc])))
      | (refine onGuard_splitb (fun hc=>?_) (fun hc=>?_) <;> (first | (subst hc;try simp only [↓rA,rB,Int.reduceEq,Int.reduceLE,Int.reduceLT,Int.reduceToNat,Nat.reduceAdd,Nat.reduceEqDiff,Nat.reduceLT,Nat.reduceLeDiff,Nat.reduceMul,Nat.reduceSub,reduceCtorEq,tbCL0,Tryz.results193,gb,gr,g1,g2,g6,g7,g8,g9,g10,q,hh,List.nil_append]) | (try simp only [↓rA,rB,Int.reduceEq,Int.reduceLE,Int.reduceLT,Int.reduceToNat,Nat.reduceAdd,Nat.reduceEqDiff,Nat.reduceLT,Nat.reduceLeDiff,Nat.reduceMul,Nat.reduceSub,reduceCtorEq,tbCL0,Tryz.results193,gb,gr,g1,g2,g6,g7,g8,g9,g10,q,hh,List.nil_append,hc])))
      | (refine onGuard_splitf (fun hc=>?_) (fun hc=>?_) <;> (first | (subst hc;try simp only [↓rA,rB,Int.reduceEq,Int.reduceLE,Int.reduceLT,Int.reduceToNat,Nat.reduceAdd,Nat.reduceEqDiff,Nat.reduceLT,Nat.reduceLeDiff,Nat.reduceMul,Nat.reduceSub,reduceCtorEq,tbCL0,Tryz.results193,gb,gr,g1,g2,g6,g7,g8,g9,g10,q,hh,List.nil_append]) | (try simp only [↓rA,rB,Int.reduceEq,Int.reduceLE,Int.reduceLT,Int.reduceToNat,Nat.reduceAdd,Nat.reduceEqDiff,Nat.reduceLT,Nat.reduceLeDiff,Nat.reduceMul,Nat.reduceSub,reduceCtorEq,tbCL0,Tryz.results193,gb,gr,g1,g2,g6,g7,g8,g9,g10,q,hh,List.nil_append,hc])))
      | exact⟨_,[],[],Le.refl _,List.nil_sublist _,List.nil_sublist _,⟨_,_,rfl⟩,rfl,rfl⟩)
   ·simp only [↓rA,rB,Nat.reduceEqDiff,gr,g9,List.nil_append]
    repeat' (first
     | (refine onCond_splitb (fun hc=>?_) (fun hc=>?_) <;> (first | (subst hc;try simp only [↓rA,rB,Int.reduceEq,Int.reduceLE,Int.reduceLT,Int.reduceToNat,Nat.reduceAdd,Nat.reduceEqDiff,Nat.reduceLT,Nat.reduceLeDiff,Nat.reduceMul,Nat.reduceSub,reduceCtorEq,tbCL0,Tryz.results193,gb,gr,g1,g2,g6,g7,g8,g9,g10,q,hh,List.nil_append]) | (try simp only [↓rA,rB,Nat.reduceAdd,Nat.reduceEqDiff,tbCL0,gr,g1,g2,hc])))
     | (refine onGuard_splitb (fun hc=>?_) (fun hc=>?_) <;> (first | (subst hc;try simp only [↓rA,rB,Int.reduceEq,Int.reduceLE,Int.reduceLT,Int.reduceToNat,Nat.reduceAdd,Nat.reduceEqDiff,Nat.reduceLT,Nat.reduceLeDiff,Nat.reduceMul,Nat.reduceSub,reduceCtorEq,tbCL0,Tryz.results193,gb,gr,g1,g2,g6,g7,g8,g9,g10,q,hh,List.nil_append]) | (try simp only [↓rA,rB,Int.reduceEq,Int.reduceLE,Int.reduceLT,Int.reduceToNat,Nat.reduceAdd,Nat.reduceEqDiff,Nat.reduceLT,Nat.reduceLeDiff,Nat.reduceMul,Nat.reduceSub,reduceCtorEq,tbCL0,Tryz.results193,gb,gr,g1,g2,g6,g7,g8,g9,g10,q,hh,List.nil_append,hc])))
     | (refine onGuard_splitf (fun hc=>?_) (fun hc=>?_) <;> (first | (subst hc;try simp only [↓rA,rB,Int.reduceEq,Int.reduceLE,Int.reduceLT,Int.reduceToNat,Nat.reduceAdd,Nat.reduceEqDiff,Nat.reduceLT,Nat.reduceLeDiff,Nat.reduceMul,Nat.reduceSub,reduceCtorEq,tbCL0,Tryz.results193,gb,gr,g1,g2,g6,g7,g8,g9,g10,q,hh,List.nil_append]) | (try simp only [↓rA,rB,Int.reduceEq,Int.reduceLE,Int.reduceLT,Int.reduceToNat,Nat.reduceAdd,Nat.reduceEqDiff,Nat.reduceLT,Nat.reduceLeDiff,Nat.reduceMul,Nat.reduceSub,reduceCtorEq,tbCL0,Tryz.results193,gb,gr,g1,g2,g6,g7,g8,g9,g10,q,hh,List.nil_append,hc])))
     | exact⟨_,[],[],Le.refl _,List.nil_sublist _,List.nil_sublist _,⟨_,_,rfl⟩,rfl,rfl⟩)
  ·have e:(((m+1:Nat)):Int) - 1=(m:Int):=by omega
   rw [e] at g10
   have q:(0:Int)≤(m:Int):=by omega
   have hd:=wrap_dec (m:=m) (by omega)
   have ed:IntKind.i64.wrap ((m:Int).tdiv 16)=((m / 16:Nat):Int):=by
    rw [show (m:Int).tdiv 16=((m / 16:Nat):Int) from rfl,wrap_id (by omega) (by omega)]
   have em:(m:Int).tmod 16=((m % 16:Nat):Int):=rfl
   generalize g8:S.σ 8=r8 at hT
   simp only [↓rA,rB,Int.reduceEq,Nat.reduceEqDiff,tbCL0,gb,g6,g8,g10,q]
   have hl:m / 16 < 8:=by omega
   have hl6:m / 16 < e6.length:=by omega
   refine⟨by rw [ed];omega,by rw [ed,List.length_map];omega,?_⟩
   rw [ed,em,Int.toNat_natCast,getD_map _ _ _ hl6]
   simp only [rB,Int.reduceEq]
   refine OkF_with bs _ (List.Perm.refl _) (hT _) ?_
   rintro v8 bs rs ⟨hv8,rfl,rfl⟩
   simp only [↓rA,rB,Nat.reduceEqDiff,tbCL0,gr,g7,g9]
   refine OkF_with [] _ (List.Perm.refl _) (below_il v8 v hv8 hden) ?_
   rintro w bs rs ⟨⟨t,rfl⟩,rfl,rfl⟩
   cases t
   ·simp only [↓rA,rB,Nat.reduceEqDiff,tbCL0,gr,g7,List.nil_append]
    refine OkF_with [] _ (List.Perm.refl _) (minus_ok v8 v hv8 hden) ?_
    rintro v9 bs rs ⟨hv9,rfl,rfl⟩
    simp only [↓rA,rB,Nat.reduceEqDiff,gr,List.nil_append]
    refine onCond_splitb (fun hc=>?_) (fun hc=>?_)
    ·simp only [↓rA,rB,Nat.reduceEqDiff,gr]
     exact⟨_,[],[],Le.refl _,List.nil_sublist _,List.nil_sublist _,⟨_,_,rfl⟩,rfl,rfl⟩
    ·simp only [↓rA,rB,Nat.reduceEqDiff,gr,g10,hd]
     refine⟨m,Nat.lt_succ_self _,_,[],List.Sublist.refl _,List.nil_sublist _,by omega,⟨[],fun _=>⟨?_,rfl⟩,?_,rfl⟩,rfl,g1,g2,g6,g7,⟨_,rfl⟩,rfl⟩
     ·exact hv9
     ·exact fun n=>twice_ok _ hv9 n
   ·simp only [↓rA,rB,Nat.reduceEqDiff,gr,List.nil_append]
    refine onCond_splitb (fun hc=>?_) (fun hc=>?_)
    ·simp only [↓rA,rB,Nat.reduceEqDiff,gr]
     exact⟨_,[],[],Le.refl _,List.nil_sublist _,List.nil_sublist _,⟨_,_,rfl⟩,rfl,rfl⟩
    ·simp only [↓rA,rB,Nat.reduceEqDiff,gr,g10,hd]
     refine⟨m,Nat.lt_succ_self _,_,[],List.Sublist.refl _,List.nil_sublist _,by omega,⟨[],fun _=>⟨?_,rfl⟩,?_,rfl⟩,rfl,g1,g2,g6,g7,⟨_,rfl⟩,rfl⟩
     ·exact hv8
     ·exact fun n=>twice_ok _ hv8 n
end Go.Proofs.YtopfanlkbepemaaGreat
set_option linter.unusedSimpArgs false
set_option maxRecDepth 100000
set_option linter.defProp false
namespace Go.Proofs.YtopfanlkbepemaaGreat
open Go.VL Go.Ar Go.Lo Go.Proofs.YtopfanlkbepemaaGreat
def tbCM0:=(aI (aI Ty.t231 (aI Ty.t3 Ty.t36)) (aI Ty.t4 (aI Ty.t81 Ty.t9)))
theorem names07_ok (u:List Fac) (hu:u.length≤1000):Ok Tryz.prog 189 [vFacs u] [] fun v bs rs=>(∃ l:List Str,l.length≤u.length∧v=.list none 1 (l.map fun s=>[vstr s]))∧bs=[]∧rs=[]:=by
 refine Ok.of_ex Ty.mixed Tryz.func189 rfl (by simp [Tryz.ntmps189]) (by kernel_rfl) fun F w0 I0=>?_
 simp only [↓rA,rB,Tryz.results189]
 refine AWP.nilRow 3 1 9 (by simp only [rB,Nat.reduceEqDiff]) (by decide) ?_
 refine EX_forR Ty.mixed (by kernel_rfl) u.length (fun i S=>∃ y,(∃ l:List Str,l.length≤i∧S.σ 3=.list (some y) 1 (l.map fun s=>[vstr s]))∧S.rows=[⟨y,1,9⟩]∧S.σ 0=vFacs u∧S.σ 4=vint i∧S.boxes=[]) ⟨0,1,nilv,?_⟩ (fun i S hi ⟨y,⟨l,hl,g3⟩,gr,g0,g4,gb⟩=>?_) (fun S ⟨y,⟨l,hl,g3⟩,gr,g0,g4,gb⟩=>?_)
 ·simp only [rB,Nat.reduceEqDiff,reduceCtorEq]
  exact⟨[],Nat.le_refl _,rfl⟩
 ·have hwi:=wrap_succ (i:=i) (N:=u.length) hi (by omega)
  simp only [↓rA,rB,Nat.reduceEqDiff,reduceCtorEq,tbCM0,g0,g4,Int.ofNat_lt,hi,List.length_map]
  refine EX_while Ty.mixed (by kernel_rfl) (fun j=>l.length - j) (fun j S=>j≤l.length∧S.σ 5=vint j∧S.σ 3=.list (some y) 1 (l.map fun s=>[vstr s])∧S.rows=[⟨y,1,9⟩]∧S.σ 0=vFacs u∧S.σ 4=vint i∧S.boxes=[]) 0 ⟨0,?_⟩ fun j S ⟨hj,g5,g3,gr,g0,g4,gb⟩=>?_
  ·simp only [rB,Nat.reduceEqDiff,reduceCtorEq,g3,gr,g0,g4,gb]
   try simp
  ·by_cases hjl:j < l.length
   ·have hwj:=wrap_succ hjl (show l.length≤9223372036854775807 by omega)
    generalize hs:u[i].name=s
    cases hc:Op.bytesLess l[j].data.toList s.data.toList
    ·by_cases he:l[j]=s
     ·have hc':Op.bytesLess s.data.toList s.data.toList=false:=he▸hc
      simp only [↓rA,rB,Nat.reduceEqDiff,reduceCtorEq,tbCM0,g3,gr,g0,g4,g5,gb,Int.ofNat_lt,hi,hjl,List.length_map,getD_map _ _ _ hi,getD_map _ _ _ hjl,hs,hc',he,hwi]
      exact⟨0,1,y,⟨l,by omega,rfl⟩,rfl⟩
     ·simp only [↓rA,rB,Nat.reduceEqDiff,reduceCtorEq,tbCM0,g3,g0,g4,g5,Int.ofNat_lt,hi,hj,hjl,List.length_map,getD_map _ _ _ hi,getD_map _ _ _ hjl,hs,hc,he]
      refine Or2.l ?_
      simp only [↓rA,rB,Nat.reduceEqDiff,Nat.reduceLT,Nat.reduceLeDiff,Nat.reduceMul,reduceCtorEq,tbCM0,gr,g0,g4,hs,Int.ofNat_lt,hi,List.length_map,getD_map _ _ _ hi]
      refine⟨(by first | omega | (simp;omega)),fun y1 y2=>takeRF_2 ?_⟩
      simp only [↓rA,rB,Nat.reduceEqDiff,Nat.reduceLT,tbCM0,g3,g5,hs,hj,List.length_map,getD_map _ _ _ hi]
      refine⟨(by first | omega | (simp;omega)),fun y3=>takeRF_1 ?_⟩
      simp only [↓rA,rB,Nat.reduceEqDiff,reduceCtorEq,g0,g4,gb,hs,hwi,List.length_map,getD_map _ _ _ hi]
      refine⟨(by first | omega | (simp;omega)),fun y4=>?_⟩
      exact⟨0,1,y4,⟨l.take j++[s]++l.drop j,by simp;omega,by simp [List.map_take,List.map_drop]⟩,rfl⟩
    ·simp only [↓rA,rB,Nat.reduceEqDiff,reduceCtorEq,tbCM0,g3,gr,g0,g4,g5,gb,Int.ofNat_lt,hi,hjl,List.length_map,getD_map _ _ _ hi,getD_map _ _ _ hjl,hs,hc,hwj]
     exact⟨j+1,by omega,0,by omega,rfl⟩
   ·generalize hs:u[i].name=s
    simp only [↓rA,rB,Nat.reduceEqDiff,tbCM0,g3,g5,Int.ofNat_lt,hj,hjl,List.length_map]
    refine Or2.l ?_
    simp only [↓rA,rB,Nat.reduceEqDiff,Nat.reduceLT,Nat.reduceLeDiff,Nat.reduceMul,reduceCtorEq,tbCM0,gr,g0,g4,hs,Int.ofNat_lt,hi,List.length_map,getD_map _ _ _ hi]
    refine⟨(by first | omega | (simp;omega)),fun y1 y2=>takeRF_2 ?_⟩
    simp only [↓rA,rB,Nat.reduceEqDiff,Nat.reduceLT,tbCM0,g3,g5,hs,hj,List.length_map,getD_map _ _ _ hi]
    refine⟨(by first | omega | (simp;omega)),fun y3=>takeRF_1 ?_⟩
    simp only [↓rA,rB,Nat.reduceEqDiff,reduceCtorEq,g0,g4,gb,hs,hwi,List.length_map,getD_map _ _ _ hi]
    refine⟨(by first | omega | (simp;omega)),fun y4=>?_⟩
    exact⟨0,1,y4,⟨l.take j++[s]++l.drop j,by simp;omega,by simp [List.map_take,List.map_drop]⟩,rfl⟩
 ·simp only [↓rA,rB,Nat.reduceEqDiff,reduceCtorEq,tbCM0,g3,gr,g0,g4,gb,Int.ofNat_lt,Nat.lt_irrefl,List.length_map]
  exact⟨_,[],[],Le.list _ _ _,List.nil_sublist _,List.nil_sublist _,⟨l,hl,rfl⟩,rfl,rfl⟩
def tbCM1:=(aI (aI (aI Ty.c163 (aI Ty.c191 Ty.c192)) (aI Ty.c193 (aI Ty.t104 Ty.t175))) (aI (aI Ty.t231 (aI Ty.t268 Ty.t3)) (aI Ty.t4 (aI Ty.t81 Ty.t9))))
theorem exponent_ok (u:List Fac) (hu:u.length≤1000) (nm:Str):Ok Tryz.prog 190 [vFacs u,vstr nm] [] fun v bs rs=>Qt v∧bs=[]∧rs=[]:=by
 refine Ok.of_exM [(6,2)] Ty.mixed Tryz.func190 rfl (by simp [Tryz.ntmps190]) (by kernel_rfl) fun F w0 I0=>?_
 simp only [↓rA,rB,tbCM1]
 refine OkF_with [] _ (List.Perm.refl _) (of_ok 0) ?_
 rintro v bs rs ⟨⟨x,x',rfl⟩,rfl,rfl⟩
 simp only [↓rA,rB,tbCM1]
 refine fun b6 h6=>?_;replace h6:=newb h6;try simp only [Nb] at h6
 simp only [↓rA,rB,Nat.reduceAdd,Nat.reduceEqDiff,tbCM1,Tryz.results190]
 refine EX_for Ty.mixed (by kernel_rfl) u.length (fun i S=>(∃ x x',S.boxes=[(b6,.c [vint x,vu x'])])∧S.rows=[]∧S.σ 0=vFacs u∧S.σ 1=vstr nm∧S.σ 6=ptr b6∧S.σ 7=vint i) ⟨0,?_⟩ (fun i S hi ⟨⟨x,x',gb⟩,gr,g0,g1,g6,g7⟩=>?_) (fun S ⟨⟨x,x',gb⟩,gr,g0,g1,g6,g7⟩=>?_)
 ·simp only [rB,Nat.reduceEqDiff,reduceCtorEq]
  exact⟨_,_,rfl⟩
 ·have hwi:=wrap_succ (i:=i) (N:=u.length) hi (by omega)
  simp only [↓rA,rB,Nat.reduceEqDiff,reduceCtorEq,tbCM1,g0,g1,g7,Int.ofNat_lt,hi,List.length_map,getD_map _ _ _ hi]
  refine onCond_splitb (fun hc=>?_) (fun hc=>?_)
  ·simp only [↓rA,rB,Nat.reduceAdd,Nat.reduceEqDiff,reduceCtorEq,tbCM1,gb,g0,g6,g7,Int.ofNat_lt,hi,List.length_map,getD_map _ _ _ hi]
   refine OkR_back (of_ok _) ?_
   rintro v bs rs ⟨hv,rfl,rfl⟩
   refine⟨rfl,?_⟩
   simp only [↓rA,rB,Nat.reduceEqDiff,tbCM1,gr]
   refine OkR_back (add_ok _ _ ⟨x,x',rfl⟩ hv) ?_
   rintro v bs rs ⟨⟨z,z',rfl⟩,rfl,rfl⟩
   refine⟨rfl,?_⟩
   simp only [↓rA,rB,Nat.reduceAdd,Nat.reduceEqDiff,reduceCtorEq,tbCM1,gb,gr,g0,g1,g6,g7,hwi]
   exact⟨0,_,_,rfl⟩
  ·simp only [↓rA,rB,Nat.reduceEqDiff,reduceCtorEq,gb,gr,g0,g1,g6,g7,hwi]
   exact⟨0,_,_,rfl⟩
 ·simp only [↓rA,rB,Nat.reduceAdd,Nat.reduceEqDiff,reduceCtorEq,tbCM1,gb,g0,g6,g7,Int.ofNat_lt,Nat.lt_irrefl,List.length_map]
  refine OkF_with [] _ (List.Perm.refl _) (divide_ok _ ⟨x,x',rfl⟩ 1) ?_
  rintro v bs rs ⟨⟨n,t,rfl⟩,rfl,rfl⟩
  have hf:=far_ok n
  cases t
  ·simp only [↓rA,rB,Nat.reduceEqDiff,gr]
   exact⟨_,[],[],Le.refl _,List.nil_sublist _,List.nil_sublist _,⟨_,_,rfl⟩,rfl,rfl⟩
  ·simp only [↓rA,rB,Nat.reduceEqDiff,tbCM1,gr]
   refine OkF_of _ hf ?_
   simp only [↓rA,rB,Nat.reduceEqDiff]
   refine onCond_splitb (fun hc=>?_) (fun hc=>?_) <;>
   ·simp only [↓rA,rB,Nat.reduceEqDiff]
    exact⟨_,[],[],Le.refl _,List.nil_sublist _,List.nil_sublist _,⟨_,_,rfl⟩,rfl,rfl⟩
def tbCM2:=(aI (aI Ty.t231 Ty.t3) (aI Ty.t4 (aI Ty.t81 Ty.t9)))
theorem inverse_ok (u:List Fac) (hu:u.length≤1000):Ok Tryz.prog 188 [vFacs u] [] fun v bs rs=>(∃ u':List Fac,u'.length=u.length∧v=vFacs u')∧bs=[]∧rs=[]:=by
 refine Ok.of_exM [(5,4)] Ty.mixed Tryz.func188 rfl (by simp [Tryz.ntmps188]) (by kernel_rfl) fun F w0 I0=>?_
 simp only [↓rA,rB,Tryz.results188]
 refine AWP.nilRow 3 2 231 (by simp only [rB,Nat.reduceEqDiff]) (by decide) ?_
 refine EX_forR Ty.mixed (by kernel_rfl) u.length (fun i S=>∃ y,(∃ l:List Fac,l.length=i∧S.σ 3=.list (some y) 2 (l.map cFac))∧S.rows=[⟨y,2,231⟩]∧S.σ 0=vFacs u∧S.σ 4=vint i∧S.boxes=[]) ⟨0,1,nilv,?_⟩ (fun i S hi ⟨y,⟨l,hl,g3⟩,gr,g0,g4,gb⟩=>?_) (fun S ⟨y,⟨l,hl,g3⟩,gr,g0,g4,gb⟩=>?_)
 ·simp only [rB,Nat.reduceEqDiff,reduceCtorEq]
  exact⟨[],rfl,rfl⟩
 ·have hwi:=wrap_succ (i:=i) (N:=u.length) hi (by omega)
  simp only [↓rA,rB,Nat.reduceAdd,Nat.reduceEqDiff,Nat.reduceLT,Nat.reduceLeDiff,Nat.reduceMul,reduceCtorEq,tbCM2,g3,gr,g0,g4,Int.ofNat_lt,hi,List.length_map,getD_map _ _ _ hi]
  intro y1
  refine takeRF_2 ?_
  simp only [↓rA,rB,Nat.reduceEqDiff,reduceCtorEq,g0,g4,gb,hwi,hl,List.length_map]
  refine⟨(by first | omega | (simp;omega)),fun y2=>?_⟩
  refine⟨0,1,y2,⟨l++[⟨u[i].name,IntKind.i64.wrap (0 - u[i].exp)⟩],by simp [hl],by simp⟩,rfl⟩
 ·simp only [↓rA,rB,Nat.reduceEqDiff,reduceCtorEq,tbCM2,g3,gr,g0,g4,gb,Int.ofNat_lt,Nat.lt_irrefl,List.length_map]
  exact⟨_,[],[],Le.list _ _ _,List.nil_sublist _,List.nil_sublist _,⟨l,hl,rfl⟩,rfl,rfl⟩
end Go.Proofs.YtopfanlkbepemaaGreat
set_option linter.unusedSimpArgs false
set_option maxRecDepth 100000
set_option linter.defProp false
namespace Go.Proofs.YtopfanlkbepemaaGreat
open Go.VL Go.Ar Go.Lo Go.Proofs.YtopfanlkbepemaaGreat
def Ut (v:V):Prop:=∃ (u:List Fac) (k:Int),u.length≤1000∧v=.tup [vFacs u,vint k]
def tbCN0:=(aI (aI (aI Ty.c162 Ty.c189) (aI Ty.c190 (aI Ty.t104 Ty.t231))) (aI (aI Ty.t26 (aI Ty.t3 Ty.t36)) (aI Ty.t4 (aI Ty.t81 Ty.t9))))
theorem normal_ok (u:List Fac) (hu:u.length≤1000):Ok Tryz.prog 187 [vFacs u] [] fun v bs rs=>Ut v∧bs=[]∧rs=[]:=by
 have bad:∀ (k:Int) (X:List (Nat × B)) (Y:List Row),∃ v bs' rs',Le (.tup [nilS,vint k]) v∧bs'.Sublist X∧rs'.Sublist Y∧Ut v∧bs'=[]∧rs'=[]:=fun k X Y =>
  ⟨_,[],[],leTup (.cons (Le.nil 2) (.cons (Le.refl _) .nil)),List.nil_sublist _,List.nil_sublist _,⟨[],k,Nat.zero_le _,rfl⟩,rfl,rfl⟩
 refine Ok.of_ex Ty.mixed Tryz.func187 rfl (by simp [Tryz.ntmps187]) (by kernel_rfl) fun F w0 I0=>?_
 simp only [↓rA,rB,Tryz.results187]
 refine EX_for Ty.mixed (by kernel_rfl) u.length (fun i S=>S.boxes=[]∧S.rows=[]∧S.σ 0=vFacs u∧S.σ 4=vint i) ⟨0,?_⟩ (fun i S hi ⟨gb,gr,g0,g4⟩=>?_) (fun S ⟨gb,gr,g0,g4⟩=>?_)
 ·simp only [rB,reduceCtorEq]
  try exact rfl
 ·have hwi:=wrap_succ (i:=i) (N:=u.length) hi (by omega)
  simp only [↓rA,rB,Nat.reduceEqDiff,reduceCtorEq,tbCN0,gb,g0,g4,Int.ofNat_lt,hi,List.length_map,getD_map _ _ _ hi]
  refine OkF_of _ (word07_ok _) ?_
  simp only [↓rA,rB,gr]
  refine onCond_splitb (fun hc=>?_) (fun hc=>?_)
  ·simp only [↓rA,rB,Nat.reduceEqDiff,gr]
   exact bad _ _ _
  ·simp only [↓rA,rB,Nat.reduceEqDiff,reduceCtorEq,gr,g0,g4,hwi]
   exact⟨0,trivial⟩
 ·simp only [↓rA,rB,Nat.reduceEqDiff,reduceCtorEq,tbCN0,gb,g0,g4,Int.ofNat_lt,Nat.lt_irrefl,List.length_map]
  refine OkF_with [] _ (List.Perm.refl _) (names07_ok u hu) ?_
  rintro v bs rs ⟨⟨l,hl,rfl⟩,rfl,rfl⟩
  simp only [↓rA,rB,gr]
  refine AWP.nilRow 7 2 231 (by simp only [rB,Nat.reduceEqDiff]) (by decide) ?_
  refine EX_forR Ty.mixed (by kernel_rfl) l.length (fun i S=>∃ y,(∃ w:List Fac,w.length≤i∧S.σ 7=.list (some y) 2 (w.map cFac))∧S.rows=[⟨y,2,231⟩]∧S.σ 0=vFacs u∧S.σ 6=.list none 1 (l.map fun s=>[vstr s])∧S.σ 8=vint i∧S.boxes=[]) ⟨0,1,nilv,?_⟩ (fun i S hi ⟨y,⟨w,hw,g7⟩,gr,g0,g6,g8,gb⟩=>?_) (fun S ⟨y,⟨w,hw,g7⟩,gr,g0,g6,g8,gb⟩=>?_)
  ·simp only [rB,Nat.reduceEqDiff,reduceCtorEq,g0]
   exact⟨[],Nat.le_refl _,rfl⟩
  ·have hwi:=wrap_succ (i:=i) (N:=l.length) hi (by omega)
   simp only [↓rA,rB,Nat.reduceEqDiff,reduceCtorEq,tbCN0,gb,g0,g6,g8,Int.ofNat_lt,hi,List.length_map,getD_map _ _ _ hi]
   refine OkF_with [] _ (List.Perm.refl _) (exponent_ok u hu _) ?_
   rintro v bs rs ⟨⟨n,t,rfl⟩,rfl,rfl⟩
   cases t
   ·simp only [↓rA,rB,Nat.reduceEqDiff,gr]
    exact bad _ _ _
   ·simp only [↓rA,rB,Nat.reduceEqDiff,gr]
    refine onCond_splitb (fun hc=>?_) (fun hc=>?_)
    ·simp only [↓rA,rB,Nat.reduceAdd,Nat.reduceEqDiff,Nat.reduceLT,Nat.reduceLeDiff,Nat.reduceMul,tbCN0,gr,g6,g7,g8,Int.ofNat_lt,hi,List.length_map,getD_map _ _ _ hi]
     intro y1
     refine takeRF_2 ?_
     simp only [↓rA,rB,Nat.reduceEqDiff,reduceCtorEq,gr,g0,g6,g8,hwi,List.length_map]
     refine⟨(by first | omega | (simp;omega)),fun y2=>?_⟩
     exact⟨0,1,y2,⟨w++[⟨l[i],n⟩],by simp;omega,by simp⟩,rfl⟩
    ·simp only [↓rA,rB,Nat.reduceEqDiff,reduceCtorEq,gr,g0,g6,g7,g8,hwi]
     exact⟨0,1,y,⟨w,by omega,rfl⟩,rfl⟩
  ·simp only [↓rA,rB,Nat.reduceEqDiff,tbCN0,g6,g7,g8,Int.ofNat_lt,Nat.lt_irrefl,List.length_map]
   refine onCond_splitb (fun hc=>?_) (fun hc=>?_)
   ·simp only [↓rA,rB,Nat.reduceEqDiff,gb,gr]
    exact bad _ _ _
   ·simp only [↓rA,rB,Nat.reduceEqDiff,gb,gr,g7]
    exact⟨_,[],[],leTup (.cons (Le.list _ _ _) (.cons (Le.refl _) .nil)),List.nil_sublist _,List.nil_sublist _,⟨w,0,by omega,rfl⟩,rfl,rfl⟩
def tbCN1:=(aI (aI (aI Ty.c151 Ty.c187) (aI Ty.t231 Ty.t26)) (aI (aI Ty.t261 Ty.t3) (aI Ty.t4 (aI Ty.t81 Ty.t9))))
theorem times_ok (u w:List Fac):Ok Tryz.prog 185 [vFacs u,vFacs w] [] fun v bs rs=>Ut v∧bs=[]∧rs=[]:=by
 have bad:∀ (k:Int) (X:List (Nat × B)) (Y:List Row),∃ v bs' rs',Le (.tup [nilS,vint k]) v∧bs'.Sublist X∧rs'.Sublist Y∧Ut v∧bs'=[]∧rs'=[]:=fun k X Y =>
  ⟨_,[],[],leTup (.cons (Le.nil 2) (.cons (Le.refl _) .nil)),List.nil_sublist _,List.nil_sublist _,⟨[],k,Nat.zero_le _,rfl⟩,rfl,rfl⟩
 refine Ok.of_ex Ty.mixed Tryz.func185 rfl (by simp [Tryz.ntmps185]) (by kernel_rfl) fun F w0 I0=>?_
 simp only [↓rA,rB,reduceCtorEq,tbCN1]
 refine OkF_of _ (unit07_ok u) ?_
 by_cases hu:unitC u=0
 case neg =>
  simp only [↓rA,rB,Nat.reduceEqDiff,Tryz.results185,hu]
  exact bad _ _ _
 have lu:=unitC_len hu
 simp only [↓rA,rB,Nat.reduceEqDiff,tbCN1,hu]
 refine OkF_of _ (unit07_ok w) ?_
 by_cases hw:unitC w=0
 case neg =>
  simp only [↓rA,rB,Nat.reduceEqDiff,Tryz.results185,hw]
  exact bad _ _ _
 have lw:=unitC_len hw
 simp only [↓rA,rB,Nat.reduceEqDiff,reduceCtorEq,hw]
 refine Or2.l ?_
 simp only [↓rA,rB,Nat.reduceAdd,Nat.reduceEqDiff,Nat.reduceLT,tbCN1,hw]
 refine⟨by rw [List.length_map];omega,fun y1=>⟨by rw [List.length_map,List.length_map];omega,fun y2=>?_⟩⟩
 refine OkF_with [] _ (List.Perm.refl _) (Ok.le (.cons (by rw [← List.map_append];exact Le.list _ _ _) .nil) (normal_ok (u++w) (by rw [List.length_append];omega))) ?_
 rintro v bs rs ⟨⟨z,k,hz,rfl⟩,rfl,rfl⟩
 simp only [↓rA,rB,Nat.reduceEqDiff,Tryz.results185]
 exact⟨_,[],[],Le.refl _,List.nil_sublist _,List.nil_sublist _,⟨z,k,hz,rfl⟩,rfl,rfl⟩
def tbCN2:=(aI (aI (aI Ty.c151 Ty.c185) (aI Ty.c188 (aI Ty.t231 Ty.t26))) (aI (aI Ty.t261 Ty.t3) (aI Ty.t4 (aI Ty.t81 Ty.t9))))
theorem over_ok (u w:List Fac):Ok Tryz.prog 186 [vFacs u,vFacs w] [] fun v bs rs=>Ut v∧bs=[]∧rs=[]:=by
 have bad:∀ (k:Int) (X:List (Nat × B)) (Y:List Row),∃ v bs' rs',Le (.tup [nilS,vint k]) v∧bs'.Sublist X∧rs'.Sublist Y∧Ut v∧bs'=[]∧rs'=[]:=fun k X Y =>
  ⟨_,[],[],leTup (.cons (Le.nil 2) (.cons (Le.refl _) .nil)),List.nil_sublist _,List.nil_sublist _,⟨[],k,Nat.zero_le _,rfl⟩,rfl,rfl⟩
 refine Ok.of_ex Ty.mixed Tryz.func186 rfl (by simp [Tryz.ntmps186]) (by kernel_rfl) fun F w0 I0=>?_
 simp only [↓rA,rB,reduceCtorEq,tbCN2]
 refine OkF_of _ (unit07_ok u) ?_
 by_cases hu:unitC u=0
 case neg =>
  simp only [↓rA,rB,Nat.reduceEqDiff,Tryz.results186,hu]
  exact bad _ _ _
 simp only [↓rA,rB,Nat.reduceEqDiff,tbCN2,hu]
 refine OkF_of _ (unit07_ok w) ?_
 by_cases hw:unitC w=0
 case neg =>
  simp only [↓rA,rB,Nat.reduceEqDiff,Tryz.results186,hw]
  exact bad _ _ _
 have lw:=unitC_len hw
 simp only [↓rA,rB,Nat.reduceEqDiff,reduceCtorEq,tbCN2,hw]
 refine OkF_with [] _ (List.Perm.refl _) (inverse_ok w (by omega)) ?_
 rintro v bs rs ⟨⟨u',_,rfl⟩,rfl,rfl⟩
 simp only [↓rA,rB,Nat.reduceEqDiff,tbCN2]
 refine OkF_with [] _ (List.Perm.refl _) (times_ok u u') ?_
 rintro v bs rs ⟨⟨z,k,hz,rfl⟩,rfl,rfl⟩
 simp only [↓rA,rB,Nat.reduceEqDiff,Tryz.results186]
 exact⟨_,[],[],Le.refl _,List.nil_sublist _,List.nil_sublist _,⟨z,k,hz,rfl⟩,rfl,rfl⟩
end Go.Proofs.YtopfanlkbepemaaGreat
set_option linter.unusedSimpArgs false
set_option maxRecDepth 100000
set_option linter.defProp false
namespace Go.Proofs.YtopfanlkbepemaaGreat
open Go.VL Go.Ar Go.Lo Go.Proofs.YtopfanlkbepemaaGreat
theorem ut_big {u:List Fac} (h:u.length≤1000):u.length≤big:=by unfold big;omega
def tbCO0:=(aI (aI (aI Ty.c150 (aI Ty.c156 Ty.c184)) (aI Ty.c185 (aI Ty.c186 Ty.t231))) (aI (aI Ty.t26 (aI Ty.t261 Ty.t3)) (aI (aI Ty.t4 Ty.t81) (aI Ty.t83 Ty.t9))))
set_option maxHeartbeats 4000000 in
theorem binary_ok (o:Str) (a b:Typ) (ha:FitU a) (hb:FitU b):OkTI Tryz.prog 180 [vstr o,vTyp a,vTyp b]:=by
 refine Ok.of_ex Ty.mixed Tryz.func180 rfl (by simp [Tryz.ntmps180]) (by kernel_rfl) fun F w0 I0=>?_
 simp only [↓rA,rB]
 refine fun b4 h4=>?_;replace h4:=newb h4;try simp only [Nb] at h4
 simp only [↓rA,rB,Nat.reduceEqDiff]
 refine fun b5 h5=>?_;replace h5:=newb h5;try simp only [Nb] at h5
 simp only [↓rA,rB,tbCO0]
 refine fun b6 h6=>?_;replace h6:=newb h6;try simp only [Nb] at h6
 simp only [↓rA,rB,Nat.reduceAdd,Nat.reduceLeDiff,tbCO0]
 refine fun b8 h8=>?_;replace h8:=newb h8;try simp only [Nb] at h8
 have hh:=And.intro h4 (And.intro h5 (And.intro h6 h8))
 simp only [↓EX_ops_nil,↓EX_plain,↓ST_store,↓storeK_eq,onVal_eq,Todo_eq,put_eq,put_ne,put_none,put_boxes,addBox_σ,addBox_boxes,S0_boxes,ev_tmp,getB_same,setB_same,onSome_some,onPtr_ptr,And2_true,cellsV,oneB,okC,Nat.le_refl,eq_self,and_self,not_false_eq_true,ne_eq,List.map_cons,List.map_nil,List.take_zero,List.drop_succ_cons,List.drop_nil,List.length_cons,List.length_nil,List.nil_append,List.append_nil,List.toList_toArray,Nat.zero_add,Bool.and_true,Nat.reduceEqDiff,Nat.reduceAdd,tbCO0,Tryz.results180]
 rw [EX_seq]
 refine EX_cut (fun S=>S.boxes=[(b8,.c [vint 1,nilS,vstr es0]),(b6,.c [vint 0,nilS,vstr es0]),(b5,.c [vint b.kind,vFacs b.unit,vstr b.of]),(b4,.c [vint a.kind,vFacs a.unit,vstr a.of])]∧S.rows=[]∧S.σ 0=vstr o∧S.σ 4=ptr b4∧S.σ 5=ptr b5∧S.σ 6=ptr b6∧S.σ 8=ptr b8∧∃ n,S.σ 9=vbool n) ?_ ?_
 ·simp only [↓rA,rB,Nat.reduceAdd,Nat.reduceEqDiff,tbCO0,hh]
  repeat' (first
   | (refine onCond_splitb (fun hc=>?_) (fun hc=>?_) <;> (first | (subst hc;try simp only [↓rA,rB,Int.reduceEq,Int.reduceLE,Int.reduceLT,Int.reduceToNat,Nat.reduceAdd,Nat.reduceEqDiff,Nat.reduceLT,Nat.reduceLeDiff,Nat.reduceMul,Nat.reduceSub,reduceCtorEq,tbCO0,Tryz.results180,hh]) | (try simp only [↓rA,rB,Nat.reduceEqDiff,reduceCtorEq,hc])))
   | (refine onGuard_splitb (fun hc=>?_) (fun hc=>?_) <;> (first | (subst hc;try simp only [↓rA,rB,Int.reduceEq,Int.reduceLE,Int.reduceLT,Int.reduceToNat,Nat.reduceAdd,Nat.reduceEqDiff,Nat.reduceLT,Nat.reduceLeDiff,Nat.reduceMul,Nat.reduceSub,reduceCtorEq,tbCO0,Tryz.results180,hh]) | (try simp only [↓rA,rB,Nat.reduceAdd,Nat.reduceEqDiff,reduceCtorEq,tbCO0,hh,hc])))
   | (refine onGuard_splitf (fun hc=>?_) (fun hc=>?_) <;> (first | (subst hc;try simp only [↓rA,rB,Int.reduceEq,Int.reduceLE,Int.reduceLT,Int.reduceToNat,Nat.reduceAdd,Nat.reduceEqDiff,Nat.reduceLT,Nat.reduceLeDiff,Nat.reduceMul,Nat.reduceSub,reduceCtorEq,tbCO0,Tryz.results180,hh]) | (try simp only [↓rA,rB,Int.reduceEq,Int.reduceLE,Int.reduceLT,Int.reduceToNat,Nat.reduceAdd,Nat.reduceEqDiff,Nat.reduceLT,Nat.reduceLeDiff,Nat.reduceMul,Nat.reduceSub,reduceCtorEq,tbCO0,Tryz.results180,hh,hc])))
   | (refine OkF_of _ (number_ok _ _ _) ?_;try simp only [↓rA,rB,Nat.reduceEqDiff])
   | exact⟨_,rfl⟩)
 rintro S ⟨gb,gr,g0,g4,g5,g6,g8,n,g9⟩
 rw [EX_seq]
 simp only [↓EX_region,↓EX_ops_nil,↓EX_plain,↓ST_assign,onVal_eq,Todo_eq,ev_const]
 rw [EX_seq]
 refine EX_cut (fun S=>S.boxes=[(b8,.c [vint 1,nilS,vstr es0]),(b6,.c [vint 0,nilS,vstr es0]),(b5,.c [vint b.kind,vFacs b.unit,vstr b.of]),(b4,.c [vint a.kind,vFacs a.unit,vstr a.of])]∧S.rows=[]∧S.σ 0=vstr o∧S.σ 4=ptr b4∧S.σ 5=ptr b5∧S.σ 6=ptr b6∧S.σ 8=ptr b8∧S.σ 9=vbool n∧∃ k,S.σ 10=vint k) ?_ ?_
 ·simp only [↓rA,rB,Nat.reduceAdd,Nat.reduceEqDiff,tbCO0,gb,g4,hh]
  repeat' (first
   | (refine onCond_splitb (fun hc=>?_) (fun hc=>?_) <;> (first | (subst hc;try simp only [↓rA,rB,Int.reduceEq,Int.reduceLE,Int.reduceLT,Int.reduceToNat,Nat.reduceAdd,Nat.reduceEqDiff,Nat.reduceLT,Nat.reduceLeDiff,Nat.reduceMul,Nat.reduceSub,reduceCtorEq,tbCO0,Tryz.results180,gb,gr,g0,g4,g5,g6,g8,g9,hh]) | (try simp only [↓rA,rB,Nat.reduceEqDiff,reduceCtorEq,gb,gr,g0,g4,g5,g6,g8,g9,hc])))
   | (refine onGuard_splitb (fun hc=>?_) (fun hc=>?_) <;> (first | (subst hc;try simp only [↓rA,rB,Int.reduceEq,Int.reduceLE,Int.reduceLT,Int.reduceToNat,Nat.reduceAdd,Nat.reduceEqDiff,Nat.reduceLT,Nat.reduceLeDiff,Nat.reduceMul,Nat.reduceSub,reduceCtorEq,tbCO0,Tryz.results180,gb,gr,g0,g4,g5,g6,g8,g9,hh]) | (try simp only [↓rA,rB,Nat.reduceAdd,Nat.reduceEqDiff,reduceCtorEq,tbCO0,gb,gr,g0,g4,g5,g6,g8,g9,hh,hc])))
   | (refine onGuard_splitf (fun hc=>?_) (fun hc=>?_) <;> (first | (subst hc;try simp only [↓rA,rB,Int.reduceEq,Int.reduceLE,Int.reduceLT,Int.reduceToNat,Nat.reduceAdd,Nat.reduceEqDiff,Nat.reduceLT,Nat.reduceLeDiff,Nat.reduceMul,Nat.reduceSub,reduceCtorEq,tbCO0,Tryz.results180,gb,gr,g0,g4,g5,g6,g8,g9,hh]) | (try simp only [↓rA,rB,Int.reduceEq,Int.reduceLE,Int.reduceLT,Int.reduceToNat,Nat.reduceAdd,Nat.reduceEqDiff,Nat.reduceLT,Nat.reduceLeDiff,Nat.reduceMul,Nat.reduceSub,reduceCtorEq,tbCO0,Tryz.results180,gb,gr,g0,g4,g5,g6,g8,g9,hh,hc])))
   | exact⟨_,rfl⟩)
 clear gb gr g0 g4 g5 g6 g8 g9 S
 rintro S ⟨gb,gr,g0,g4,g5,g6,g8,g9,k,g10⟩
 by_cases e0:o=⟨#[97,110,100]⟩
 ·have f0:(o=⟨#[97,110,100]⟩)=True:=eq_true e0
  have f1:(o=⟨#[111,114]⟩)=False:=eq_false (by rw [e0];decide)
  have f2:(o=⟨#[61,61]⟩)=False:=eq_false (by rw [e0];decide)
  have f3:(o=⟨#[33,61]⟩)=False:=eq_false (by rw [e0];decide)
  have f4:(o=⟨#[60]⟩)=False:=eq_false (by rw [e0];decide)
  have f5:(o=⟨#[60,61]⟩)=False:=eq_false (by rw [e0];decide)
  have f6:(o=⟨#[42]⟩)=False:=eq_false (by rw [e0];decide)
  have f7:(o=⟨#[47]⟩)=False:=eq_false (by rw [e0];decide)
  have ff:=And.intro f0 ( And.intro f1 ( And.intro f2 ( And.intro f3 ( And.intro f4 ( And.intro f5 ( And.intro f6 (f7)))))))
  clear f0 f1 f2 f3 f4 f5 f6 f7
  simp only [↓rA,rB,Nat.reduceAdd,Nat.reduceEqDiff,reduceCtorEq,tbCO0,gb,g0,g4,hh,ff]
  repeat' (first
   | (refine onCond_splitb (fun hc=>?_) (fun hc=>?_) <;> (first | (subst hc;try simp only [↓rA,rB,Int.reduceEq,Int.reduceLE,Int.reduceLT,Int.reduceToNat,Nat.reduceAdd,Nat.reduceEqDiff,Nat.reduceLT,Nat.reduceLeDiff,Nat.reduceMul,Nat.reduceSub,reduceCtorEq,tbCO0,Tryz.results180,gb,gr,g0,g4,g5,g6,g8,g9,g10,hh,ff]) | (try simp only [↓rA,rB,Nat.reduceAdd,Nat.reduceEqDiff,tbCO0,gb,gr,g6,g8,hh,hc])))
   | (refine onGuard_splitb (fun hc=>?_) (fun hc=>?_) <;> (first | (subst hc;try simp only [↓rA,rB,Int.reduceEq,Int.reduceLE,Int.reduceLT,Int.reduceToNat,Nat.reduceAdd,Nat.reduceEqDiff,Nat.reduceLT,Nat.reduceLeDiff,Nat.reduceMul,Nat.reduceSub,reduceCtorEq,tbCO0,Tryz.results180,gb,gr,g0,g4,g5,g6,g8,g9,g10,hh,ff]) | (try simp only [↓rA,rB,Int.reduceEq,Int.reduceLE,Int.reduceLT,Int.reduceToNat,Nat.reduceAdd,Nat.reduceEqDiff,Nat.reduceLT,Nat.reduceLeDiff,Nat.reduceMul,Nat.reduceSub,reduceCtorEq,tbCO0,Tryz.results180,gb,gr,g0,g4,g5,g6,g8,g9,g10,hh,ff,hc])))
   | (refine onGuard_splitf (fun hc=>?_) (fun hc=>?_) <;> (first | (subst hc;try simp only [↓rA,rB,Int.reduceEq,Int.reduceLE,Int.reduceLT,Int.reduceToNat,Nat.reduceAdd,Nat.reduceEqDiff,Nat.reduceLT,Nat.reduceLeDiff,Nat.reduceMul,Nat.reduceSub,reduceCtorEq,tbCO0,Tryz.results180,gb,gr,g0,g4,g5,g6,g8,g9,g10,hh,ff]) | (try simp only [↓rA,rB,Nat.reduceAdd,Nat.reduceEqDiff,tbCO0,gb,gr,g5,g6,hh,hc])))
   | (refine OkF_of _ (number_ok _ _ _) ?_;try simp only [↓rA,rB,Int.reduceEq,Int.reduceLE,Int.reduceLT,Int.reduceToNat,Nat.reduceAdd,Nat.reduceEqDiff,Nat.reduceLT,Nat.reduceLeDiff,Nat.reduceMul,Nat.reduceSub,reduceCtorEq,tbCO0,Tryz.results180,gb,gr,g0,g4,g5,g6,g8,g9,g10,hh,ff])
   | (refine OkF_of _ (same07_ok _ _ ha) ?_;try simp only [↓rA,rB,Int.reduceEq,Int.reduceLE,Int.reduceLT,Int.reduceToNat,Nat.reduceAdd,Nat.reduceEqDiff,Nat.reduceLT,Nat.reduceLeDiff,Nat.reduceMul,Nat.reduceSub,reduceCtorEq,tbCO0,Tryz.results180,gb,gr,g0,g4,g5,g6,g8,g9,g10,hh,ff])
   | (refine OkF_with [] _ (List.Perm.refl _) (times_ok _ _) ?_;rintro v bs rs ⟨⟨u,k,hu,rfl⟩,rfl,rfl⟩;try simp only [↓rA,rB,Int.reduceEq,Int.reduceLE,Int.reduceLT,Int.reduceToNat,Nat.reduceAdd,Nat.reduceEqDiff,Nat.reduceLT,Nat.reduceLeDiff,Nat.reduceMul,Nat.reduceSub,reduceCtorEq,tbCO0,Tryz.results180,gb,gr,g0,g4,g5,g6,g8,g9,g10,hh,ff])
   | (refine OkF_with [] _ (List.Perm.refl _) (over_ok _ _) ?_;rintro v bs rs ⟨⟨u,k,hu,rfl⟩,rfl,rfl⟩;try simp only [↓rA,rB,Int.reduceEq,Int.reduceLE,Int.reduceLT,Int.reduceToNat,Nat.reduceAdd,Nat.reduceEqDiff,Nat.reduceLT,Nat.reduceLeDiff,Nat.reduceMul,Nat.reduceSub,reduceCtorEq,tbCO0,Tryz.results180,gb,gr,g0,g4,g5,g6,g8,g9,g10,hh,ff])
   | (refine OkF_with [] _ (List.Perm.refl _) (sameType10_ok _ _ ha) ?_;rintro v bs rs ⟨⟨t,rfl⟩,rfl,rfl⟩;try simp only [↓rA,rB,Int.reduceEq,Int.reduceLE,Int.reduceLT,Int.reduceToNat,Nat.reduceAdd,Nat.reduceEqDiff,Nat.reduceLT,Nat.reduceLeDiff,Nat.reduceMul,Nat.reduceSub,reduceCtorEq,tbCO0,Tryz.results180,gb,gr,g0,g4,g5,g6,g8,g9,g10,hh,ff])
   | exact finTI0 _ _ _ _ _
   | exact finTI _ _ _ _ _ _ _ (Le.refl _) ha
   | exact finTI _ _ _ _ _ _ _ (Le.refl _) (ut_big (by assumption)))
 by_cases e1:o=⟨#[111,114]⟩
 ·have f0:(o=⟨#[97,110,100]⟩)=False:=eq_false (by rw [e1];decide)
  have f1:(o=⟨#[111,114]⟩)=True:=eq_true e1
  have f2:(o=⟨#[61,61]⟩)=False:=eq_false (by rw [e1];decide)
  have f3:(o=⟨#[33,61]⟩)=False:=eq_false (by rw [e1];decide)
  have f4:(o=⟨#[60]⟩)=False:=eq_false (by rw [e1];decide)
  have f5:(o=⟨#[60,61]⟩)=False:=eq_false (by rw [e1];decide)
  have f6:(o=⟨#[42]⟩)=False:=eq_false (by rw [e1];decide)
  have f7:(o=⟨#[47]⟩)=False:=eq_false (by rw [e1];decide)
  have ff:=And.intro f0 ( And.intro f1 ( And.intro f2 ( And.intro f3 ( And.intro f4 ( And.intro f5 ( And.intro f6 (f7)))))))
  clear f0 f1 f2 f3 f4 f5 f6 f7
  simp only [↓rA,rB,Nat.reduceAdd,Nat.reduceEqDiff,reduceCtorEq,tbCO0,gb,g0,g4,hh,ff]
  repeat' (first
   | (refine onCond_splitb (fun hc=>?_) (fun hc=>?_) <;> (first | (subst hc;try simp only [↓rA,rB,Int.reduceEq,Int.reduceLE,Int.reduceLT,Int.reduceToNat,Nat.reduceAdd,Nat.reduceEqDiff,Nat.reduceLT,Nat.reduceLeDiff,Nat.reduceMul,Nat.reduceSub,reduceCtorEq,tbCO0,Tryz.results180,gb,gr,g0,g4,g5,g6,g8,g9,g10,hh,ff]) | (try simp only [↓rA,rB,Nat.reduceAdd,Nat.reduceEqDiff,tbCO0,gb,gr,g6,g8,hh,hc])))
   | (refine onGuard_splitb (fun hc=>?_) (fun hc=>?_) <;> (first | (subst hc;try simp only [↓rA,rB,Int.reduceEq,Int.reduceLE,Int.reduceLT,Int.reduceToNat,Nat.reduceAdd,Nat.reduceEqDiff,Nat.reduceLT,Nat.reduceLeDiff,Nat.reduceMul,Nat.reduceSub,reduceCtorEq,tbCO0,Tryz.results180,gb,gr,g0,g4,g5,g6,g8,g9,g10,hh,ff]) | (try simp only [↓rA,rB,Int.reduceEq,Int.reduceLE,Int.reduceLT,Int.reduceToNat,Nat.reduceAdd,Nat.reduceEqDiff,Nat.reduceLT,Nat.reduceLeDiff,Nat.reduceMul,Nat.reduceSub,reduceCtorEq,tbCO0,Tryz.results180,gb,gr,g0,g4,g5,g6,g8,g9,g10,hh,ff,hc])))
   | (refine onGuard_splitf (fun hc=>?_) (fun hc=>?_) <;> (first | (subst hc;try simp only [↓rA,rB,Int.reduceEq,Int.reduceLE,Int.reduceLT,Int.reduceToNat,Nat.reduceAdd,Nat.reduceEqDiff,Nat.reduceLT,Nat.reduceLeDiff,Nat.reduceMul,Nat.reduceSub,reduceCtorEq,tbCO0,Tryz.results180,gb,gr,g0,g4,g5,g6,g8,g9,g10,hh,ff]) | (try simp only [↓rA,rB,Nat.reduceAdd,Nat.reduceEqDiff,tbCO0,gb,gr,g5,g6,hh,hc])))
   | (refine OkF_of _ (number_ok _ _ _) ?_;try simp only [↓rA,rB,Int.reduceEq,Int.reduceLE,Int.reduceLT,Int.reduceToNat,Nat.reduceAdd,Nat.reduceEqDiff,Nat.reduceLT,Nat.reduceLeDiff,Nat.reduceMul,Nat.reduceSub,reduceCtorEq,tbCO0,Tryz.results180,gb,gr,g0,g4,g5,g6,g8,g9,g10,hh,ff])
   | (refine OkF_of _ (same07_ok _ _ ha) ?_;try simp only [↓rA,rB,Int.reduceEq,Int.reduceLE,Int.reduceLT,Int.reduceToNat,Nat.reduceAdd,Nat.reduceEqDiff,Nat.reduceLT,Nat.reduceLeDiff,Nat.reduceMul,Nat.reduceSub,reduceCtorEq,tbCO0,Tryz.results180,gb,gr,g0,g4,g5,g6,g8,g9,g10,hh,ff])
   | (refine OkF_with [] _ (List.Perm.refl _) (times_ok _ _) ?_;rintro v bs rs ⟨⟨u,k,hu,rfl⟩,rfl,rfl⟩;try simp only [↓rA,rB,Int.reduceEq,Int.reduceLE,Int.reduceLT,Int.reduceToNat,Nat.reduceAdd,Nat.reduceEqDiff,Nat.reduceLT,Nat.reduceLeDiff,Nat.reduceMul,Nat.reduceSub,reduceCtorEq,tbCO0,Tryz.results180,gb,gr,g0,g4,g5,g6,g8,g9,g10,hh,ff])
   | (refine OkF_with [] _ (List.Perm.refl _) (over_ok _ _) ?_;rintro v bs rs ⟨⟨u,k,hu,rfl⟩,rfl,rfl⟩;try simp only [↓rA,rB,Int.reduceEq,Int.reduceLE,Int.reduceLT,Int.reduceToNat,Nat.reduceAdd,Nat.reduceEqDiff,Nat.reduceLT,Nat.reduceLeDiff,Nat.reduceMul,Nat.reduceSub,reduceCtorEq,tbCO0,Tryz.results180,gb,gr,g0,g4,g5,g6,g8,g9,g10,hh,ff])
   | (refine OkF_with [] _ (List.Perm.refl _) (sameType10_ok _ _ ha) ?_;rintro v bs rs ⟨⟨t,rfl⟩,rfl,rfl⟩;try simp only [↓rA,rB,Int.reduceEq,Int.reduceLE,Int.reduceLT,Int.reduceToNat,Nat.reduceAdd,Nat.reduceEqDiff,Nat.reduceLT,Nat.reduceLeDiff,Nat.reduceMul,Nat.reduceSub,reduceCtorEq,tbCO0,Tryz.results180,gb,gr,g0,g4,g5,g6,g8,g9,g10,hh,ff])
   | exact finTI0 _ _ _ _ _
   | exact finTI _ _ _ _ _ _ _ (Le.refl _) ha
   | exact finTI _ _ _ _ _ _ _ (Le.refl _) (ut_big (by assumption)))
 by_cases e2:o=⟨#[61,61]⟩
 ·have f0:(o=⟨#[97,110,100]⟩)=False:=eq_false (by rw [e2];decide)
  have f1:(o=⟨#[111,114]⟩)=False:=eq_false (by rw [e2];decide)
  have f2:(o=⟨#[61,61]⟩)=True:=eq_true e2
  have f3:(o=⟨#[33,61]⟩)=False:=eq_false (by rw [e2];decide)
  have f4:(o=⟨#[60]⟩)=False:=eq_false (by rw [e2];decide)
  have f5:(o=⟨#[60,61]⟩)=False:=eq_false (by rw [e2];decide)
  have f6:(o=⟨#[42]⟩)=False:=eq_false (by rw [e2];decide)
  have f7:(o=⟨#[47]⟩)=False:=eq_false (by rw [e2];decide)
  have ff:=And.intro f0 ( And.intro f1 ( And.intro f2 ( And.intro f3 ( And.intro f4 ( And.intro f5 ( And.intro f6 (f7)))))))
  clear f0 f1 f2 f3 f4 f5 f6 f7
  simp only [↓rA,rB,Nat.reduceAdd,Nat.reduceEqDiff,reduceCtorEq,tbCO0,gb,g0,g4,g5,hh,ff]
  repeat' (first
   | (refine onCond_splitb (fun hc=>?_) (fun hc=>?_) <;> (first | (subst hc;try simp only [↓rA,rB,Int.reduceEq,Int.reduceLE,Int.reduceLT,Int.reduceToNat,Nat.reduceAdd,Nat.reduceEqDiff,Nat.reduceLT,Nat.reduceLeDiff,Nat.reduceMul,Nat.reduceSub,reduceCtorEq,tbCO0,Tryz.results180,gb,gr,g0,g4,g5,g6,g8,g9,g10,hh,ff]) | (try simp only [↓rA,rB,Nat.reduceAdd,Nat.reduceEqDiff,tbCO0,gr,g6,g8,g9,hh,hc])))
   | (refine onGuard_splitb (fun hc=>?_) (fun hc=>?_) <;> (first | (subst hc;try simp only [↓rA,rB,Nat.reduceAdd,Nat.reduceEqDiff,tbCO0,gr,g4,g5,g9,hh]) | (try simp only [↓rA,rB,Int.reduceEq,Int.reduceLE,Int.reduceLT,Int.reduceToNat,Nat.reduceAdd,Nat.reduceEqDiff,Nat.reduceLT,Nat.reduceLeDiff,Nat.reduceMul,Nat.reduceSub,reduceCtorEq,tbCO0,Tryz.results180,gb,gr,g0,g4,g5,g6,g8,g9,g10,hh,ff,hc])))
   | (refine onGuard_splitf (fun hc=>?_) (fun hc=>?_) <;> (first | (subst hc;try simp only [↓rA,rB,Int.reduceEq,Int.reduceLE,Int.reduceLT,Int.reduceToNat,Nat.reduceAdd,Nat.reduceEqDiff,Nat.reduceLT,Nat.reduceLeDiff,Nat.reduceMul,Nat.reduceSub,reduceCtorEq,tbCO0,Tryz.results180,gb,gr,g0,g4,g5,g6,g8,g9,g10,hh,ff]) | (try simp only [↓rA,rB,Int.reduceEq,Int.reduceLE,Int.reduceLT,Int.reduceToNat,Nat.reduceAdd,Nat.reduceEqDiff,Nat.reduceLT,Nat.reduceLeDiff,Nat.reduceMul,Nat.reduceSub,reduceCtorEq,tbCO0,Tryz.results180,gb,gr,g0,g4,g5,g6,g8,g9,g10,hh,ff,hc])))
   | (refine OkF_of _ (number_ok _ _ _) ?_;try simp only [↓rA,rB,Int.reduceEq,Int.reduceLE,Int.reduceLT,Int.reduceToNat,Nat.reduceAdd,Nat.reduceEqDiff,Nat.reduceLT,Nat.reduceLeDiff,Nat.reduceMul,Nat.reduceSub,reduceCtorEq,tbCO0,Tryz.results180,gb,gr,g0,g4,g5,g6,g8,g9,g10,hh,ff])
   | (refine OkF_of _ (same07_ok _ _ ha) ?_;try simp only [↓rA,rB,Nat.reduceEqDiff,gr])
   | (refine OkF_with [] _ (List.Perm.refl _) (times_ok _ _) ?_;rintro v bs rs ⟨⟨u,k,hu,rfl⟩,rfl,rfl⟩;try simp only [↓rA,rB,Int.reduceEq,Int.reduceLE,Int.reduceLT,Int.reduceToNat,Nat.reduceAdd,Nat.reduceEqDiff,Nat.reduceLT,Nat.reduceLeDiff,Nat.reduceMul,Nat.reduceSub,reduceCtorEq,tbCO0,Tryz.results180,gb,gr,g0,g4,g5,g6,g8,g9,g10,hh,ff])
   | (refine OkF_with [] _ (List.Perm.refl _) (over_ok _ _) ?_;rintro v bs rs ⟨⟨u,k,hu,rfl⟩,rfl,rfl⟩;try simp only [↓rA,rB,Int.reduceEq,Int.reduceLE,Int.reduceLT,Int.reduceToNat,Nat.reduceAdd,Nat.reduceEqDiff,Nat.reduceLT,Nat.reduceLeDiff,Nat.reduceMul,Nat.reduceSub,reduceCtorEq,tbCO0,Tryz.results180,gb,gr,g0,g4,g5,g6,g8,g9,g10,hh,ff])
   | (refine OkF_with [] _ (List.Perm.refl _) (sameType10_ok _ _ ha) ?_;rintro v bs rs ⟨⟨t,rfl⟩,rfl,rfl⟩;try simp only [↓rA,rB,Nat.reduceEqDiff,reduceCtorEq,gr,g0,g9,ff])
   | exact finTI0 _ _ _ _ _
   | exact finTI _ _ _ _ _ _ _ (Le.refl _) ha
   | exact finTI _ _ _ _ _ _ _ (Le.refl _) (ut_big (by assumption)))
 by_cases e3:o=⟨#[33,61]⟩
 ·have f0:(o=⟨#[97,110,100]⟩)=False:=eq_false (by rw [e3];decide)
  have f1:(o=⟨#[111,114]⟩)=False:=eq_false (by rw [e3];decide)
  have f2:(o=⟨#[61,61]⟩)=False:=eq_false (by rw [e3];decide)
  have f3:(o=⟨#[33,61]⟩)=True:=eq_true e3
  have f4:(o=⟨#[60]⟩)=False:=eq_false (by rw [e3];decide)
  have f5:(o=⟨#[60,61]⟩)=False:=eq_false (by rw [e3];decide)
  have f6:(o=⟨#[42]⟩)=False:=eq_false (by rw [e3];decide)
  have f7:(o=⟨#[47]⟩)=False:=eq_false (by rw [e3];decide)
  have ff:=And.intro f0 ( And.intro f1 ( And.intro f2 ( And.intro f3 ( And.intro f4 ( And.intro f5 ( And.intro f6 (f7)))))))
  clear f0 f1 f2 f3 f4 f5 f6 f7
  simp only [↓rA,rB,Nat.reduceAdd,Nat.reduceEqDiff,reduceCtorEq,tbCO0,gb,g0,g4,g5,hh,ff]
  repeat' (first
   | (refine onCond_splitb (fun hc=>?_) (fun hc=>?_) <;> (first | (subst hc;try simp only [↓rA,rB,Int.reduceEq,Int.reduceLE,Int.reduceLT,Int.reduceToNat,Nat.reduceAdd,Nat.reduceEqDiff,Nat.reduceLT,Nat.reduceLeDiff,Nat.reduceMul,Nat.reduceSub,reduceCtorEq,tbCO0,Tryz.results180,gb,gr,g0,g4,g5,g6,g8,g9,g10,hh,ff]) | (try simp only [↓rA,rB,Nat.reduceAdd,Nat.reduceEqDiff,tbCO0,gr,g6,g8,g9,hh,hc])))
   | (refine onGuard_splitb (fun hc=>?_) (fun hc=>?_) <;> (first | (subst hc;try simp only [↓rA,rB,Nat.reduceAdd,Nat.reduceEqDiff,tbCO0,gr,g4,g5,g9,hh]) | (try simp only [↓rA,rB,Int.reduceEq,Int.reduceLE,Int.reduceLT,Int.reduceToNat,Nat.reduceAdd,Nat.reduceEqDiff,Nat.reduceLT,Nat.reduceLeDiff,Nat.reduceMul,Nat.reduceSub,reduceCtorEq,tbCO0,Tryz.results180,gb,gr,g0,g4,g5,g6,g8,g9,g10,hh,ff,hc])))
   | (refine onGuard_splitf (fun hc=>?_) (fun hc=>?_) <;> (first | (subst hc;try simp only [↓rA,rB,Int.reduceEq,Int.reduceLE,Int.reduceLT,Int.reduceToNat,Nat.reduceAdd,Nat.reduceEqDiff,Nat.reduceLT,Nat.reduceLeDiff,Nat.reduceMul,Nat.reduceSub,reduceCtorEq,tbCO0,Tryz.results180,gb,gr,g0,g4,g5,g6,g8,g9,g10,hh,ff]) | (try simp only [↓rA,rB,Int.reduceEq,Int.reduceLE,Int.reduceLT,Int.reduceToNat,Nat.reduceAdd,Nat.reduceEqDiff,Nat.reduceLT,Nat.reduceLeDiff,Nat.reduceMul,Nat.reduceSub,reduceCtorEq,tbCO0,Tryz.results180,gb,gr,g0,g4,g5,g6,g8,g9,g10,hh,ff,hc])))
   | (refine OkF_of _ (number_ok _ _ _) ?_;try simp only [↓rA,rB,Int.reduceEq,Int.reduceLE,Int.reduceLT,Int.reduceToNat,Nat.reduceAdd,Nat.reduceEqDiff,Nat.reduceLT,Nat.reduceLeDiff,Nat.reduceMul,Nat.reduceSub,reduceCtorEq,tbCO0,Tryz.results180,gb,gr,g0,g4,g5,g6,g8,g9,g10,hh,ff])
   | (refine OkF_of _ (same07_ok _ _ ha) ?_;try simp only [↓rA,rB,Nat.reduceEqDiff,gr])
   | (refine OkF_with [] _ (List.Perm.refl _) (times_ok _ _) ?_;rintro v bs rs ⟨⟨u,k,hu,rfl⟩,rfl,rfl⟩;try simp only [↓rA,rB,Int.reduceEq,Int.reduceLE,Int.reduceLT,Int.reduceToNat,Nat.reduceAdd,Nat.reduceEqDiff,Nat.reduceLT,Nat.reduceLeDiff,Nat.reduceMul,Nat.reduceSub,reduceCtorEq,tbCO0,Tryz.results180,gb,gr,g0,g4,g5,g6,g8,g9,g10,hh,ff])
   | (refine OkF_with [] _ (List.Perm.refl _) (over_ok _ _) ?_;rintro v bs rs ⟨⟨u,k,hu,rfl⟩,rfl,rfl⟩;try simp only [↓rA,rB,Int.reduceEq,Int.reduceLE,Int.reduceLT,Int.reduceToNat,Nat.reduceAdd,Nat.reduceEqDiff,Nat.reduceLT,Nat.reduceLeDiff,Nat.reduceMul,Nat.reduceSub,reduceCtorEq,tbCO0,Tryz.results180,gb,gr,g0,g4,g5,g6,g8,g9,g10,hh,ff])
   | (refine OkF_with [] _ (List.Perm.refl _) (sameType10_ok _ _ ha) ?_;rintro v bs rs ⟨⟨t,rfl⟩,rfl,rfl⟩;try simp only [↓rA,rB,Nat.reduceEqDiff,reduceCtorEq,gr,g0,g9,ff])
   | exact finTI0 _ _ _ _ _
   | exact finTI _ _ _ _ _ _ _ (Le.refl _) ha
   | exact finTI _ _ _ _ _ _ _ (Le.refl _) (ut_big (by assumption)))
 by_cases e4:o=⟨#[60]⟩
 ·have f0:(o=⟨#[97,110,100]⟩)=False:=eq_false (by rw [e4];decide)
  have f1:(o=⟨#[111,114]⟩)=False:=eq_false (by rw [e4];decide)
  have f2:(o=⟨#[61,61]⟩)=False:=eq_false (by rw [e4];decide)
  have f3:(o=⟨#[33,61]⟩)=False:=eq_false (by rw [e4];decide)
  have f4:(o=⟨#[60]⟩)=True:=eq_true e4
  have f5:(o=⟨#[60,61]⟩)=False:=eq_false (by rw [e4];decide)
  have f6:(o=⟨#[42]⟩)=False:=eq_false (by rw [e4];decide)
  have f7:(o=⟨#[47]⟩)=False:=eq_false (by rw [e4];decide)
  have ff:=And.intro f0 ( And.intro f1 ( And.intro f2 ( And.intro f3 ( And.intro f4 ( And.intro f5 ( And.intro f6 (f7)))))))
  clear f0 f1 f2 f3 f4 f5 f6 f7
  simp only [↓rA,rB,Nat.reduceAdd,Nat.reduceEqDiff,reduceCtorEq,tbCO0,gb,g0,g4,g5,hh,ff]
  repeat' (first
   | (refine onCond_splitb (fun hc=>?_) (fun hc=>?_) <;> (first | (subst hc;try simp only [↓rA,rB,Int.reduceEq,Int.reduceLE,Int.reduceLT,Int.reduceToNat,Nat.reduceAdd,Nat.reduceEqDiff,Nat.reduceLT,Nat.reduceLeDiff,Nat.reduceMul,Nat.reduceSub,reduceCtorEq,tbCO0,Tryz.results180,gb,gr,g0,g4,g5,g6,g8,g9,g10,hh,ff]) | (try simp only [↓rA,rB,Nat.reduceAdd,Nat.reduceEqDiff,tbCO0,gr,g6,g8,g9,hh,hc])))
   | (refine onGuard_splitb (fun hc=>?_) (fun hc=>?_) <;> (first | (subst hc;try simp only [↓rA,rB,Nat.reduceAdd,Nat.reduceEqDiff,tbCO0,gr,g4,g5,g6,g9,hh]) | (try simp only [↓rA,rB,Nat.reduceAdd,Nat.reduceEqDiff,tbCO0,gr,g5,g9,hh,hc])))
   | (refine onGuard_splitf (fun hc=>?_) (fun hc=>?_) <;> (first | (subst hc;try simp only [↓rA,rB,Int.reduceEq,Int.reduceLE,Int.reduceLT,Int.reduceToNat,Nat.reduceAdd,Nat.reduceEqDiff,Nat.reduceLT,Nat.reduceLeDiff,Nat.reduceMul,Nat.reduceSub,reduceCtorEq,tbCO0,Tryz.results180,gb,gr,g0,g4,g5,g6,g8,g9,g10,hh,ff]) | (try simp only [↓rA,rB,Int.reduceEq,Int.reduceLE,Int.reduceLT,Int.reduceToNat,Nat.reduceAdd,Nat.reduceEqDiff,Nat.reduceLT,Nat.reduceLeDiff,Nat.reduceMul,Nat.reduceSub,reduceCtorEq,tbCO0,Tryz.results180,gb,gr,g0,g4,g5,g6,g8,g9,g10,hh,ff,hc])))
   | (refine OkF_of _ (number_ok _ _ _) ?_;try simp only [↓rA,rB,Int.reduceEq,Int.reduceLE,Int.reduceLT,Int.reduceToNat,Nat.reduceAdd,Nat.reduceEqDiff,Nat.reduceLT,Nat.reduceLeDiff,Nat.reduceMul,Nat.reduceSub,reduceCtorEq,tbCO0,Tryz.results180,gb,gr,g0,g4,g5,g6,g8,g9,g10,hh,ff])
   | (refine OkF_of _ (same07_ok _ _ ha) ?_;try simp only [↓rA,rB,Nat.reduceEqDiff,gr])
   | (refine OkF_with [] _ (List.Perm.refl _) (times_ok _ _) ?_;rintro v bs rs ⟨⟨u,k,hu,rfl⟩,rfl,rfl⟩;try simp only [↓rA,rB,Int.reduceEq,Int.reduceLE,Int.reduceLT,Int.reduceToNat,Nat.reduceAdd,Nat.reduceEqDiff,Nat.reduceLT,Nat.reduceLeDiff,Nat.reduceMul,Nat.reduceSub,reduceCtorEq,tbCO0,Tryz.results180,gb,gr,g0,g4,g5,g6,g8,g9,g10,hh,ff])
   | (refine OkF_with [] _ (List.Perm.refl _) (over_ok _ _) ?_;rintro v bs rs ⟨⟨u,k,hu,rfl⟩,rfl,rfl⟩;try simp only [↓rA,rB,Int.reduceEq,Int.reduceLE,Int.reduceLT,Int.reduceToNat,Nat.reduceAdd,Nat.reduceEqDiff,Nat.reduceLT,Nat.reduceLeDiff,Nat.reduceMul,Nat.reduceSub,reduceCtorEq,tbCO0,Tryz.results180,gb,gr,g0,g4,g5,g6,g8,g9,g10,hh,ff])
   | (refine OkF_with [] _ (List.Perm.refl _) (sameType10_ok _ _ ha) ?_;rintro v bs rs ⟨⟨t,rfl⟩,rfl,rfl⟩;try simp only [↓rA,rB,Nat.reduceAdd,Nat.reduceEqDiff,reduceCtorEq,tbCO0,gr,g0,g4,hh,ff])
   | exact finTI0 _ _ _ _ _
   | exact finTI _ _ _ _ _ _ _ (Le.refl _) ha
   | exact finTI _ _ _ _ _ _ _ (Le.refl _) (ut_big (by assumption)))
 by_cases e5:o=⟨#[60,61]⟩
 ·have f0:(o=⟨#[97,110,100]⟩)=False:=eq_false (by rw [e5];decide)
  have f1:(o=⟨#[111,114]⟩)=False:=eq_false (by rw [e5];decide)
  have f2:(o=⟨#[61,61]⟩)=False:=eq_false (by rw [e5];decide)
  have f3:(o=⟨#[33,61]⟩)=False:=eq_false (by rw [e5];decide)
  have f4:(o=⟨#[60]⟩)=False:=eq_false (by rw [e5];decide)
  have f5:(o=⟨#[60,61]⟩)=True:=eq_true e5
  have f6:(o=⟨#[42]⟩)=False:=eq_false (by rw [e5];decide)
  have f7:(o=⟨#[47]⟩)=False:=eq_false (by rw [e5];decide)
  have ff:=And.intro f0 ( And.intro f1 ( And.intro f2 ( And.intro f3 ( And.intro f4 ( And.intro f5 ( And.intro f6 (f7)))))))
  clear f0 f1 f2 f3 f4 f5 f6 f7
  simp only [↓rA,rB,Nat.reduceAdd,Nat.reduceEqDiff,reduceCtorEq,tbCO0,gb,g0,g4,g5,hh,ff]
  repeat' (first
   | (refine onCond_splitb (fun hc=>?_) (fun hc=>?_) <;> (first | (subst hc;try simp only [↓rA,rB,Int.reduceEq,Int.reduceLE,Int.reduceLT,Int.reduceToNat,Nat.reduceAdd,Nat.reduceEqDiff,Nat.reduceLT,Nat.reduceLeDiff,Nat.reduceMul,Nat.reduceSub,reduceCtorEq,tbCO0,Tryz.results180,gb,gr,g0,g4,g5,g6,g8,g9,g10,hh,ff]) | (try simp only [↓rA,rB,Nat.reduceAdd,Nat.reduceEqDiff,tbCO0,gr,g6,g8,g9,hh,hc])))
   | (refine onGuard_splitb (fun hc=>?_) (fun hc=>?_) <;> (first | (subst hc;try simp only [↓rA,rB,Nat.reduceAdd,Nat.reduceEqDiff,tbCO0,gr,g4,g5,g6,g9,hh]) | (try simp only [↓rA,rB,Nat.reduceAdd,Nat.reduceEqDiff,tbCO0,gr,g5,g9,hh,hc])))
   | (refine onGuard_splitf (fun hc=>?_) (fun hc=>?_) <;> (first | (subst hc;try simp only [↓rA,rB,Int.reduceEq,Int.reduceLE,Int.reduceLT,Int.reduceToNat,Nat.reduceAdd,Nat.reduceEqDiff,Nat.reduceLT,Nat.reduceLeDiff,Nat.reduceMul,Nat.reduceSub,reduceCtorEq,tbCO0,Tryz.results180,gb,gr,g0,g4,g5,g6,g8,g9,g10,hh,ff]) | (try simp only [↓rA,rB,Int.reduceEq,Int.reduceLE,Int.reduceLT,Int.reduceToNat,Nat.reduceAdd,Nat.reduceEqDiff,Nat.reduceLT,Nat.reduceLeDiff,Nat.reduceMul,Nat.reduceSub,reduceCtorEq,tbCO0,Tryz.results180,gb,gr,g0,g4,g5,g6,g8,g9,g10,hh,ff,hc])))
   | (refine OkF_of _ (number_ok _ _ _) ?_;try simp only [↓rA,rB,Int.reduceEq,Int.reduceLE,Int.reduceLT,Int.reduceToNat,Nat.reduceAdd,Nat.reduceEqDiff,Nat.reduceLT,Nat.reduceLeDiff,Nat.reduceMul,Nat.reduceSub,reduceCtorEq,tbCO0,Tryz.results180,gb,gr,g0,g4,g5,g6,g8,g9,g10,hh,ff])
   | (refine OkF_of _ (same07_ok _ _ ha) ?_;try simp only [↓rA,rB,Nat.reduceEqDiff,gr])
   | (refine OkF_with [] _ (List.Perm.refl _) (times_ok _ _) ?_;rintro v bs rs ⟨⟨u,k,hu,rfl⟩,rfl,rfl⟩;try simp only [↓rA,rB,Int.reduceEq,Int.reduceLE,Int.reduceLT,Int.reduceToNat,Nat.reduceAdd,Nat.reduceEqDiff,Nat.reduceLT,Nat.reduceLeDiff,Nat.reduceMul,Nat.reduceSub,reduceCtorEq,tbCO0,Tryz.results180,gb,gr,g0,g4,g5,g6,g8,g9,g10,hh,ff])
   | (refine OkF_with [] _ (List.Perm.refl _) (over_ok _ _) ?_;rintro v bs rs ⟨⟨u,k,hu,rfl⟩,rfl,rfl⟩;try simp only [↓rA,rB,Int.reduceEq,Int.reduceLE,Int.reduceLT,Int.reduceToNat,Nat.reduceAdd,Nat.reduceEqDiff,Nat.reduceLT,Nat.reduceLeDiff,Nat.reduceMul,Nat.reduceSub,reduceCtorEq,tbCO0,Tryz.results180,gb,gr,g0,g4,g5,g6,g8,g9,g10,hh,ff])
   | (refine OkF_with [] _ (List.Perm.refl _) (sameType10_ok _ _ ha) ?_;rintro v bs rs ⟨⟨t,rfl⟩,rfl,rfl⟩;try simp only [↓rA,rB,Nat.reduceAdd,Nat.reduceEqDiff,reduceCtorEq,tbCO0,gr,g0,g4,hh,ff])
   | exact finTI0 _ _ _ _ _
   | exact finTI _ _ _ _ _ _ _ (Le.refl _) ha
   | exact finTI _ _ _ _ _ _ _ (Le.refl _) (ut_big (by assumption)))
 by_cases e6:o=⟨#[42]⟩
 ·have f0:(o=⟨#[97,110,100]⟩)=False:=eq_false (by rw [e6];decide)
  have f1:(o=⟨#[111,114]⟩)=False:=eq_false (by rw [e6];decide)
  have f2:(o=⟨#[61,61]⟩)=False:=eq_false (by rw [e6];decide)
  have f3:(o=⟨#[33,61]⟩)=False:=eq_false (by rw [e6];decide)
  have f4:(o=⟨#[60]⟩)=False:=eq_false (by rw [e6];decide)
  have f5:(o=⟨#[60,61]⟩)=False:=eq_false (by rw [e6];decide)
  have f6:(o=⟨#[42]⟩)=True:=eq_true e6
  have f7:(o=⟨#[47]⟩)=False:=eq_false (by rw [e6];decide)
  have ff:=And.intro f0 ( And.intro f1 ( And.intro f2 ( And.intro f3 ( And.intro f4 ( And.intro f5 ( And.intro f6 (f7)))))))
  clear f0 f1 f2 f3 f4 f5 f6 f7
  simp only [↓rA,rB,Nat.reduceAdd,Nat.reduceEqDiff,reduceCtorEq,tbCO0,gb,g0,g4,g5,hh,ff]
  repeat' (first
   | (refine onCond_splitb (fun hc=>?_) (fun hc=>?_) <;> (first | (subst hc;try simp only [↓rA,rB,Int.reduceEq,Int.reduceLE,Int.reduceLT,Int.reduceToNat,Nat.reduceAdd,Nat.reduceEqDiff,Nat.reduceLT,Nat.reduceLeDiff,Nat.reduceMul,Nat.reduceSub,reduceCtorEq,tbCO0,Tryz.results180,gb,gr,g0,g4,g5,g6,g8,g9,g10,hh,ff]) | (try simp only [↓rA,rB,Nat.reduceAdd,Nat.reduceEqDiff,Nat.reduceLeDiff,tbCO0,gr,g6,g10,hh,hc])))
   | (refine onGuard_splitb (fun hc=>?_) (fun hc=>?_) <;> (first | (subst hc;try simp only [↓rA,rB,Int.reduceEq,Int.reduceLE,Int.reduceLT,Int.reduceToNat,Nat.reduceAdd,Nat.reduceEqDiff,Nat.reduceLT,Nat.reduceLeDiff,Nat.reduceMul,Nat.reduceSub,reduceCtorEq,tbCO0,Tryz.results180,gb,gr,g0,g4,g5,g6,g8,g9,g10,hh,ff]) | (try simp only [↓rA,rB,Int.reduceEq,Int.reduceLE,Int.reduceLT,Int.reduceToNat,Nat.reduceAdd,Nat.reduceEqDiff,Nat.reduceLT,Nat.reduceLeDiff,Nat.reduceMul,Nat.reduceSub,reduceCtorEq,tbCO0,Tryz.results180,gb,gr,g0,g4,g5,g6,g8,g9,g10,hh,ff,hc])))
   | (refine onGuard_splitf (fun hc=>?_) (fun hc=>?_) <;> (first | (subst hc;try simp only [↓rA,rB,Int.reduceEq,Int.reduceLE,Int.reduceLT,Int.reduceToNat,Nat.reduceAdd,Nat.reduceEqDiff,Nat.reduceLT,Nat.reduceLeDiff,Nat.reduceMul,Nat.reduceSub,reduceCtorEq,tbCO0,Tryz.results180,gb,gr,g0,g4,g5,g6,g8,g9,g10,hh,ff]) | (try simp only [↓rA,rB,Int.reduceEq,Int.reduceLE,Int.reduceLT,Int.reduceToNat,Nat.reduceAdd,Nat.reduceEqDiff,Nat.reduceLT,Nat.reduceLeDiff,Nat.reduceMul,Nat.reduceSub,reduceCtorEq,tbCO0,Tryz.results180,gb,gr,g0,g4,g5,g6,g8,g9,g10,hh,ff,hc])))
   | (refine OkF_of _ (number_ok _ _ _) ?_;try simp only [↓rA,rB,Int.reduceEq,Int.reduceLE,Int.reduceLT,Int.reduceToNat,Nat.reduceAdd,Nat.reduceEqDiff,Nat.reduceLT,Nat.reduceLeDiff,Nat.reduceMul,Nat.reduceSub,reduceCtorEq,tbCO0,Tryz.results180,gb,gr,g0,g4,g5,g6,g8,g9,g10,hh,ff])
   | (refine OkF_of _ (same07_ok _ _ ha) ?_;try simp only [↓rA,rB,Int.reduceEq,Int.reduceLE,Int.reduceLT,Int.reduceToNat,Nat.reduceAdd,Nat.reduceEqDiff,Nat.reduceLT,Nat.reduceLeDiff,Nat.reduceMul,Nat.reduceSub,reduceCtorEq,tbCO0,Tryz.results180,gb,gr,g0,g4,g5,g6,g8,g9,g10,hh,ff])
   | (refine OkF_with [] _ (List.Perm.refl _) (times_ok _ _) ?_;rintro v bs rs ⟨⟨u,k,hu,rfl⟩,rfl,rfl⟩;try simp only [↓rA,rB,Nat.reduceEqDiff,gr,g9])
   | (refine OkF_with [] _ (List.Perm.refl _) (over_ok _ _) ?_;rintro v bs rs ⟨⟨u,k,hu,rfl⟩,rfl,rfl⟩;try simp only [↓rA,rB,Int.reduceEq,Int.reduceLE,Int.reduceLT,Int.reduceToNat,Nat.reduceAdd,Nat.reduceEqDiff,Nat.reduceLT,Nat.reduceLeDiff,Nat.reduceMul,Nat.reduceSub,reduceCtorEq,tbCO0,Tryz.results180,gb,gr,g0,g4,g5,g6,g8,g9,g10,hh,ff])
   | (refine OkF_with [] _ (List.Perm.refl _) (sameType10_ok _ _ ha) ?_;rintro v bs rs ⟨⟨t,rfl⟩,rfl,rfl⟩;try simp only [↓rA,rB,Int.reduceEq,Int.reduceLE,Int.reduceLT,Int.reduceToNat,Nat.reduceAdd,Nat.reduceEqDiff,Nat.reduceLT,Nat.reduceLeDiff,Nat.reduceMul,Nat.reduceSub,reduceCtorEq,tbCO0,Tryz.results180,gb,gr,g0,g4,g5,g6,g8,g9,g10,hh,ff])
   | exact finTI0 _ _ _ _ _
   | exact finTI _ _ _ _ _ _ _ (Le.refl _) ha
   | exact finTI _ _ _ _ _ _ _ (Le.refl _) (ut_big (by assumption)))
 by_cases e7:o=⟨#[47]⟩
 ·have f0:(o=⟨#[97,110,100]⟩)=False:=eq_false (by rw [e7];decide)
  have f1:(o=⟨#[111,114]⟩)=False:=eq_false (by rw [e7];decide)
  have f2:(o=⟨#[61,61]⟩)=False:=eq_false (by rw [e7];decide)
  have f3:(o=⟨#[33,61]⟩)=False:=eq_false (by rw [e7];decide)
  have f4:(o=⟨#[60]⟩)=False:=eq_false (by rw [e7];decide)
  have f5:(o=⟨#[60,61]⟩)=False:=eq_false (by rw [e7];decide)
  have f6:(o=⟨#[42]⟩)=False:=eq_false (by rw [e7];decide)
  have f7:(o=⟨#[47]⟩)=True:=eq_true e7
  have ff:=And.intro f0 ( And.intro f1 ( And.intro f2 ( And.intro f3 ( And.intro f4 ( And.intro f5 ( And.intro f6 (f7)))))))
  clear f0 f1 f2 f3 f4 f5 f6 f7
  simp only [↓rA,rB,Nat.reduceAdd,Nat.reduceEqDiff,reduceCtorEq,tbCO0,gb,g0,g4,g5,hh,ff]
  repeat' (first
   | (refine onCond_splitb (fun hc=>?_) (fun hc=>?_) <;> (first | (subst hc;try simp only [↓rA,rB,Int.reduceEq,Int.reduceLE,Int.reduceLT,Int.reduceToNat,Nat.reduceAdd,Nat.reduceEqDiff,Nat.reduceLT,Nat.reduceLeDiff,Nat.reduceMul,Nat.reduceSub,reduceCtorEq,tbCO0,Tryz.results180,gb,gr,g0,g4,g5,g6,g8,g9,g10,hh,ff]) | (try simp only [↓rA,rB,Nat.reduceAdd,Nat.reduceEqDiff,Nat.reduceLeDiff,tbCO0,gr,g6,hh,hc])))
   | (refine onGuard_splitb (fun hc=>?_) (fun hc=>?_) <;> (first | (subst hc;try simp only [↓rA,rB,Int.reduceEq,Int.reduceLE,Int.reduceLT,Int.reduceToNat,Nat.reduceAdd,Nat.reduceEqDiff,Nat.reduceLT,Nat.reduceLeDiff,Nat.reduceMul,Nat.reduceSub,reduceCtorEq,tbCO0,Tryz.results180,gb,gr,g0,g4,g5,g6,g8,g9,g10,hh,ff]) | (try simp only [↓rA,rB,Int.reduceEq,Int.reduceLE,Int.reduceLT,Int.reduceToNat,Nat.reduceAdd,Nat.reduceEqDiff,Nat.reduceLT,Nat.reduceLeDiff,Nat.reduceMul,Nat.reduceSub,reduceCtorEq,tbCO0,Tryz.results180,gb,gr,g0,g4,g5,g6,g8,g9,g10,hh,ff,hc])))
   | (refine onGuard_splitf (fun hc=>?_) (fun hc=>?_) <;> (first | (subst hc;try simp only [↓rA,rB,Int.reduceEq,Int.reduceLE,Int.reduceLT,Int.reduceToNat,Nat.reduceAdd,Nat.reduceEqDiff,Nat.reduceLT,Nat.reduceLeDiff,Nat.reduceMul,Nat.reduceSub,reduceCtorEq,tbCO0,Tryz.results180,gb,gr,g0,g4,g5,g6,g8,g9,g10,hh,ff]) | (try simp only [↓rA,rB,Int.reduceEq,Int.reduceLE,Int.reduceLT,Int.reduceToNat,Nat.reduceAdd,Nat.reduceEqDiff,Nat.reduceLT,Nat.reduceLeDiff,Nat.reduceMul,Nat.reduceSub,reduceCtorEq,tbCO0,Tryz.results180,gb,gr,g0,g4,g5,g6,g8,g9,g10,hh,ff,hc])))
   | (refine OkF_of _ (number_ok _ _ _) ?_;try simp only [↓rA,rB,Int.reduceEq,Int.reduceLE,Int.reduceLT,Int.reduceToNat,Nat.reduceAdd,Nat.reduceEqDiff,Nat.reduceLT,Nat.reduceLeDiff,Nat.reduceMul,Nat.reduceSub,reduceCtorEq,tbCO0,Tryz.results180,gb,gr,g0,g4,g5,g6,g8,g9,g10,hh,ff])
   | (refine OkF_of _ (same07_ok _ _ ha) ?_;try simp only [↓rA,rB,Int.reduceEq,Int.reduceLE,Int.reduceLT,Int.reduceToNat,Nat.reduceAdd,Nat.reduceEqDiff,Nat.reduceLT,Nat.reduceLeDiff,Nat.reduceMul,Nat.reduceSub,reduceCtorEq,tbCO0,Tryz.results180,gb,gr,g0,g4,g5,g6,g8,g9,g10,hh,ff])
   | (refine OkF_with [] _ (List.Perm.refl _) (times_ok _ _) ?_;rintro v bs rs ⟨⟨u,k,hu,rfl⟩,rfl,rfl⟩;try simp only [↓rA,rB,Int.reduceEq,Int.reduceLE,Int.reduceLT,Int.reduceToNat,Nat.reduceAdd,Nat.reduceEqDiff,Nat.reduceLT,Nat.reduceLeDiff,Nat.reduceMul,Nat.reduceSub,reduceCtorEq,tbCO0,Tryz.results180,gb,gr,g0,g4,g5,g6,g8,g9,g10,hh,ff])
   | (refine OkF_with [] _ (List.Perm.refl _) (over_ok _ _) ?_;rintro v bs rs ⟨⟨u,k,hu,rfl⟩,rfl,rfl⟩;try simp only [↓rA,rB,Nat.reduceEqDiff,gr,g9])
   | (refine OkF_with [] _ (List.Perm.refl _) (sameType10_ok _ _ ha) ?_;rintro v bs rs ⟨⟨t,rfl⟩,rfl,rfl⟩;try simp only [↓rA,rB,Int.reduceEq,Int.reduceLE,Int.reduceLT,Int.reduceToNat,Nat.reduceAdd,Nat.reduceEqDiff,Nat.reduceLT,Nat.reduceLeDiff,Nat.reduceMul,Nat.reduceSub,reduceCtorEq,tbCO0,Tryz.results180,gb,gr,g0,g4,g5,g6,g8,g9,g10,hh,ff])
   | exact finTI0 _ _ _ _ _
   | exact finTI _ _ _ _ _ _ _ (Le.refl _) ha
   | exact finTI _ _ _ _ _ _ _ (Le.refl _) (ut_big (by assumption)))
 simp only [↓rA,rB,Nat.reduceAdd,Nat.reduceEqDiff,reduceCtorEq,tbCO0,gb,g0,g4,g5,hh,e0,e1,e2,e3,e4,e5,e6,e7]
 repeat' (first
  | (refine onCond_splitb (fun hc=>?_) (fun hc=>?_) <;> (first | (subst hc;try simp only [↓rA,rB,Int.reduceEq,Int.reduceLE,Int.reduceLT,Int.reduceToNat,Nat.reduceAdd,Nat.reduceEqDiff,Nat.reduceLT,Nat.reduceLeDiff,Nat.reduceMul,Nat.reduceSub,reduceCtorEq,tbCO0,Tryz.results180,gb,gr,g0,g4,g5,g6,g8,g9,g10,hh,e0,e1,e2,e3,e4,e5,e6,e7]) | (try simp only [↓rA,rB,Int.reduceEq,Nat.reduceAdd,Nat.reduceEqDiff,Nat.reduceLeDiff,tbCO0,gr,g6,g9,g10,hh,hc])))
  | (refine onGuard_splitb (fun hc=>?_) (fun hc=>?_) <;> (first | (subst hc;try simp only [↓rA,rB,Int.reduceEq,Int.reduceLE,Int.reduceLT,Int.reduceToNat,Nat.reduceAdd,Nat.reduceEqDiff,Nat.reduceLT,Nat.reduceLeDiff,Nat.reduceMul,Nat.reduceSub,reduceCtorEq,tbCO0,Tryz.results180,gb,gr,g0,g4,g5,g6,g8,g9,g10,hh,e0,e1,e2,e3,e4,e5,e6,e7]) | (try simp only [↓rA,rB,Int.reduceEq,Int.reduceLE,Int.reduceLT,Int.reduceToNat,Nat.reduceAdd,Nat.reduceEqDiff,Nat.reduceLT,Nat.reduceLeDiff,Nat.reduceMul,Nat.reduceSub,reduceCtorEq,tbCO0,Tryz.results180,gb,gr,g0,g4,g5,g6,g8,g9,g10,hh,e0,e1,e2,e3,e4,e5,e6,e7,hc])))
  | (refine onGuard_splitf (fun hc=>?_) (fun hc=>?_) <;> (first | (subst hc;try simp only [↓rA,rB,Int.reduceEq,Int.reduceLE,Int.reduceLT,Int.reduceToNat,Nat.reduceAdd,Nat.reduceEqDiff,Nat.reduceLT,Nat.reduceLeDiff,Nat.reduceMul,Nat.reduceSub,reduceCtorEq,tbCO0,Tryz.results180,gb,gr,g0,g4,g5,g6,g8,g9,g10,hh,e0,e1,e2,e3,e4,e5,e6,e7]) | (try simp only [↓rA,rB,Int.reduceEq,Int.reduceLE,Int.reduceLT,Int.reduceToNat,Nat.reduceAdd,Nat.reduceEqDiff,Nat.reduceLT,Nat.reduceLeDiff,Nat.reduceMul,Nat.reduceSub,reduceCtorEq,tbCO0,Tryz.results180,gb,gr,g0,g4,g5,g6,g8,g9,g10,hh,e0,e1,e2,e3,e4,e5,e6,e7,hc])))
  | (refine OkF_of _ (number_ok _ _ _) ?_;try simp only [↓rA,rB,Int.reduceEq,Int.reduceLE,Int.reduceLT,Int.reduceToNat,Nat.reduceAdd,Nat.reduceEqDiff,Nat.reduceLT,Nat.reduceLeDiff,Nat.reduceMul,Nat.reduceSub,reduceCtorEq,tbCO0,Tryz.results180,gb,gr,g0,g4,g5,g6,g8,g9,g10,hh,e0,e1,e2,e3,e4,e5,e6,e7])
  | (refine OkF_of _ (same07_ok _ _ ha) ?_;try simp only [↓rA,rB,gr])
  | (refine OkF_with [] _ (List.Perm.refl _) (times_ok _ _) ?_;rintro v bs rs ⟨⟨u,k,hu,rfl⟩,rfl,rfl⟩;try simp only [↓rA,rB,Int.reduceEq,Int.reduceLE,Int.reduceLT,Int.reduceToNat,Nat.reduceAdd,Nat.reduceEqDiff,Nat.reduceLT,Nat.reduceLeDiff,Nat.reduceMul,Nat.reduceSub,reduceCtorEq,tbCO0,Tryz.results180,gb,gr,g0,g4,g5,g6,g8,g9,g10,hh,e0,e1,e2,e3,e4,e5,e6,e7])
  | (refine OkF_with [] _ (List.Perm.refl _) (over_ok _ _) ?_;rintro v bs rs ⟨⟨u,k,hu,rfl⟩,rfl,rfl⟩;try simp only [↓rA,rB,Int.reduceEq,Int.reduceLE,Int.reduceLT,Int.reduceToNat,Nat.reduceAdd,Nat.reduceEqDiff,Nat.reduceLT,Nat.reduceLeDiff,Nat.reduceMul,Nat.reduceSub,reduceCtorEq,tbCO0,Tryz.results180,gb,gr,g0,g4,g5,g6,g8,g9,g10,hh,e0,e1,e2,e3,e4,e5,e6,e7])
  | (refine OkF_with [] _ (List.Perm.refl _) (sameType10_ok _ _ ha) ?_;rintro v bs rs ⟨⟨t,rfl⟩,rfl,rfl⟩;try simp only [↓rA,rB,Int.reduceEq,Int.reduceLE,Int.reduceLT,Int.reduceToNat,Nat.reduceAdd,Nat.reduceEqDiff,Nat.reduceLT,Nat.reduceLeDiff,Nat.reduceMul,Nat.reduceSub,reduceCtorEq,tbCO0,Tryz.results180,gb,gr,g0,g4,g5,g6,g8,g9,g10,hh,e0,e1,e2,e3,e4,e5,e6,e7])
  | exact finTI0 _ _ _ _ _
  | exact finTI _ _ _ _ _ _ _ (Le.refl _) ha
  | exact finTI _ _ _ _ _ _ _ (Le.refl _) (ut_big (by assumption)))
end Go.Proofs.YtopfanlkbepemaaGreat
set_option linter.unusedSimpArgs false
set_option maxRecDepth 100000
set_option linter.defProp false
namespace Go.Proofs.YtopfanlkbepemaaGreat
open Go.VL Go.Ar Go.Lo Go.Proofs.YtopfanlkbepemaaGreat
abbrev cTyp (t:Typ):List V:=[vint t.kind,vFacs t.unit,vstr t.of]
theorem kind_args {h:Hd} {ins:Bool} {n:Nat} (ho:okHd h ins=true) (hm:(n:Int)=manyH h.kind) :
  (h.kind=1∧n=0)∨(h.kind=2∧n=0)∨(h.kind=3∧n=0)∨(h.kind=4∧n=1)∨(h.kind=5∧n=2)∨(h.kind=6∧n=1)∨(h.kind=7∧n=2)∨(h.kind=8∧n=3)∨(h.kind=9∧n=2):=by
 unfold okHd at ho
 unfold manyH at hm
 by_cases k1:h.kind=1
 ·rw [k1] at hm;exact .inl ⟨k1,by simpa using hm⟩
 by_cases k2:h.kind=2
 ·rw [k2] at hm;exact .inr (.inl ⟨k2,by simpa using hm⟩)
 by_cases k3:h.kind=3
 ·rw [k3] at hm;exact .inr (.inr (.inl ⟨k3,by simpa using hm⟩))
 by_cases k4:h.kind=4
 ·rw [k4] at hm;exact .inr (.inr (.inr (.inl ⟨k4,by simp at hm;omega⟩)))
 by_cases k5:h.kind=5
 ·rw [k5] at hm;exact .inr (.inr (.inr (.inr (.inl ⟨k5,by simp at hm;omega⟩))))
 by_cases k6:h.kind=6
 ·rw [k6] at hm;exact .inr (.inr (.inr (.inr (.inr (.inl ⟨k6,by simp at hm;omega⟩)))))
 by_cases k7:h.kind=7
 ·rw [k7] at hm;exact .inr (.inr (.inr (.inr (.inr (.inr (.inl ⟨k7,by simp at hm;omega⟩))))))
 by_cases k8:h.kind=8
 ·rw [k8] at hm;exact .inr (.inr (.inr (.inr (.inr (.inr (.inr (.inl ⟨k8,by simp at hm;omega⟩)))))))
 rw [if_neg k1,if_neg k2,if_neg k3,if_neg k4,if_neg k5,if_neg k6,if_neg k7,if_neg k8] at ho
 have k9:h.kind=9:=of_decide_eq_true ho
 rw [k9] at hm
 exact .inr (.inr (.inr (.inr (.inr (.inr (.inr (.inr ⟨k9,by simp at hm;omega⟩)))))))
def tbCP0:=(aI (aI (aI (aI Ty.c137 (aI Ty.c150 Ty.c177)) (aI Ty.c178 (aI Ty.c179 Ty.c180))) (aI (aI Ty.t156 (aI Ty.t215 Ty.t231)) (aI (aI Ty.t235 Ty.t245) (aI Ty.t26 Ty.t3)))) (aI (aI (aI Ty.t4 (aI Ty.t60 Ty.t61)) (aI (aI Ty.t63 Ty.t78) (aI Ty.t80 Ty.t81))) (aI (aI Ty.t83 (aI Ty.t85 Ty.t87)) (aI (aI Ty.t88 Ty.t9) (aI Ty.t90 Ty.t92)))))
set_option maxHeartbeats 4000000 in
theorem operation_ok (n:Nat) (c:Cat) (e:Str) (t:Tab) (h:Hd) (l:List E) (ins:Bool) (own:Option Value) (ts:List Typ) (hn:n≤1000000) (hk:KFit n c) (ht:FitT t) (hu:h.unit.length≤big) (ho:okHd h ins=true) (hm:(ts.length:Int)=manyH h.kind) (hts:∀ x ∈ ts,FitU x) :
  OkTI Tryz.prog 168 [vSc c e t,.agg (cH h (vEs l)),.list own 3 (ts.map cTyp)]:=by
 have hf:=kind_args ho hm
 clear hm
 refine Ok.of_exM [(11,2),(13,2),(21,2),(26,2)] Ty.mixed Tryz.func168 rfl (by simp [Tryz.ntmps168]) (by kernel_rfl) fun F w0 I0=>?_
 rcases hf with⟨k,hl⟩ | ⟨k,hl⟩ | ⟨k,hl⟩ | ⟨k,hl⟩ | ⟨k,hl⟩ | ⟨k,hl⟩ | ⟨k,hl⟩ | ⟨k,hl⟩ | ⟨k,hl⟩
 ·obtain rfl:ts=[]:=List.eq_nil_of_length_eq_zero hl
  simp only [↓rA,rB]
  refine fun b3 h3=>?_;replace h3:=newb h3;try simp only [Nb] at h3
  simp only [↓rA,rB,Nat.reduceEqDiff]
  refine fun b4 h4=>?_;replace h4:=newb h4;try simp only [Nb] at h4
  simp only [↓rA,rB,tbCP0]
  refine fun b6 h6=>?_;replace h6:=newb h6;try simp only [Nb] at h6
  have hh:=And.intro h3 (And.intro h4 h6)
  have q12:(1:Int) < ((2:Nat):Int)∧(0:Int) < ((2:Nat):Int)∧(1:Int) < ((3:Nat):Int)∧(2:Int) < ((3:Nat):Int)∧IntKind.i64.wrap (((3:Nat):Int) - 1)=2∧IntKind.i64.wrap (((2:Nat):Int) - 1)=1∧IntKind.i64.wrap ((2:Int) - 1)=1∧IntKind.i64.wrap ((1:Int) - 1)=0:=by decide
  simp only [↓rA,rB,Nat.reduceAdd,Nat.reduceEqDiff,Nat.reduceLeDiff,tbCP0,Tryz.results168,hh,k]
  repeat' (first
   | (refine onCond_splitb (fun hc=>?_) (fun hc=>?_) <;> (first | (subst hc;try simp only [↓rA,rB,Int.reduceEq,Int.reduceLE,Int.reduceLT,Int.reduceToNat,Nat.reduceAdd,Nat.reduceEqDiff,Nat.reduceLT,Nat.reduceLeDiff,Nat.reduceMul,Nat.reduceSub,reduceCtorEq,tbCP0,Tryz.results168,hh,k,q12,List.map_cons,List.map_nil]) | (try simp only [↓rA,rB,Int.reduceEq,Int.reduceLE,Int.reduceLT,Int.reduceToNat,Nat.reduceAdd,Nat.reduceEqDiff,Nat.reduceLT,Nat.reduceLeDiff,Nat.reduceMul,Nat.reduceSub,reduceCtorEq,tbCP0,Tryz.results168,hh,k,q12,List.map_cons,List.map_nil,hc])))
   | (refine onGuard_splitb (fun hc=>?_) (fun hc=>?_) <;> (first | (subst hc;try simp only [↓rA,rB,Int.reduceEq,Int.reduceLE,Int.reduceLT,Int.reduceToNat,Nat.reduceAdd,Nat.reduceEqDiff,Nat.reduceLT,Nat.reduceLeDiff,Nat.reduceMul,Nat.reduceSub,reduceCtorEq,tbCP0,Tryz.results168,hh,k,q12,List.map_cons,List.map_nil]) | (try simp only [↓rA,rB,Int.reduceEq,Int.reduceLE,Int.reduceLT,Int.reduceToNat,Nat.reduceAdd,Nat.reduceEqDiff,Nat.reduceLT,Nat.reduceLeDiff,Nat.reduceMul,Nat.reduceSub,reduceCtorEq,tbCP0,Tryz.results168,hh,k,q12,List.map_cons,List.map_nil,hc])))
   | (refine onGuard_splitf (fun hc=>?_) (fun hc=>?_) <;> (first | (subst hc;try simp only [↓rA,rB,Int.reduceEq,Int.reduceLE,Int.reduceLT,Int.reduceToNat,Nat.reduceAdd,Nat.reduceEqDiff,Nat.reduceLT,Nat.reduceLeDiff,Nat.reduceMul,Nat.reduceSub,reduceCtorEq,tbCP0,Tryz.results168,hh,k,q12,List.map_cons,List.map_nil]) | (try simp only [↓rA,rB,Int.reduceEq,Int.reduceLE,Int.reduceLT,Int.reduceToNat,Nat.reduceAdd,Nat.reduceEqDiff,Nat.reduceLT,Nat.reduceLeDiff,Nat.reduceMul,Nat.reduceSub,reduceCtorEq,tbCP0,Tryz.results168,hh,k,q12,List.map_cons,List.map_nil,hc])))
   | exact finTI0 _ _ _ _ _
   | exact finTI _ _ _ _ _ _ _ (Le.refl _) (by assumption))
 ·obtain rfl:ts=[]:=List.eq_nil_of_length_eq_zero hl
  simp only [↓rA,rB]
  refine fun b3 h3=>?_;replace h3:=newb h3;try simp only [Nb] at h3
  simp only [↓rA,rB,Nat.reduceEqDiff]
  refine fun b4 h4=>?_;replace h4:=newb h4;try simp only [Nb] at h4
  simp only [↓rA,rB,tbCP0]
  refine fun b6 h6=>?_;replace h6:=newb h6;try simp only [Nb] at h6
  have hh:=And.intro h3 (And.intro h4 h6)
  have q12:(1:Int) < ((2:Nat):Int)∧(0:Int) < ((2:Nat):Int)∧(1:Int) < ((3:Nat):Int)∧(2:Int) < ((3:Nat):Int)∧IntKind.i64.wrap (((3:Nat):Int) - 1)=2∧IntKind.i64.wrap (((2:Nat):Int) - 1)=1∧IntKind.i64.wrap ((2:Int) - 1)=1∧IntKind.i64.wrap ((1:Int) - 1)=0:=by decide
  simp only [↓rA,rB,Int.reduceEq,Nat.reduceAdd,Nat.reduceEqDiff,tbCP0,hh,k]
  repeat' (first
   | (refine onCond_splitb (fun hc=>?_) (fun hc=>?_) <;> (first | (subst hc;try simp only [↓rA,rB,Int.reduceEq,Int.reduceLE,Int.reduceLT,Int.reduceToNat,Nat.reduceAdd,Nat.reduceEqDiff,Nat.reduceLT,Nat.reduceLeDiff,Nat.reduceMul,Nat.reduceSub,reduceCtorEq,tbCP0,Tryz.results168,hh,k,q12,List.map_cons,List.map_nil]) | (try simp only [↓rA,rB,Int.reduceEq,Int.reduceLE,Int.reduceLT,Int.reduceToNat,Nat.reduceAdd,Nat.reduceEqDiff,Nat.reduceLT,Nat.reduceLeDiff,Nat.reduceMul,Nat.reduceSub,reduceCtorEq,tbCP0,Tryz.results168,hh,k,q12,List.map_cons,List.map_nil,hc])))
   | (refine onGuard_splitb (fun hc=>?_) (fun hc=>?_) <;> (first | (subst hc;try simp only [↓rA,rB,Int.reduceEq,Int.reduceLE,Int.reduceLT,Int.reduceToNat,Nat.reduceAdd,Nat.reduceEqDiff,Nat.reduceLT,Nat.reduceLeDiff,Nat.reduceMul,Nat.reduceSub,reduceCtorEq,tbCP0,Tryz.results168,hh,k,q12,List.map_cons,List.map_nil]) | (try simp only [↓rA,rB,Int.reduceEq,Int.reduceLE,Int.reduceLT,Int.reduceToNat,Nat.reduceAdd,Nat.reduceEqDiff,Nat.reduceLT,Nat.reduceLeDiff,Nat.reduceMul,Nat.reduceSub,reduceCtorEq,tbCP0,Tryz.results168,hh,k,q12,List.map_cons,List.map_nil,hc])))
   | (refine onGuard_splitf (fun hc=>?_) (fun hc=>?_) <;> (first | (subst hc;try simp only [↓rA,rB,Int.reduceEq,Int.reduceLE,Int.reduceLT,Int.reduceToNat,Nat.reduceAdd,Nat.reduceEqDiff,Nat.reduceLT,Nat.reduceLeDiff,Nat.reduceMul,Nat.reduceSub,reduceCtorEq,tbCP0,Tryz.results168,hh,k,q12,List.map_cons,List.map_nil]) | (try simp only [↓rA,rB,Int.reduceEq,Int.reduceLE,Int.reduceLT,Int.reduceToNat,Nat.reduceAdd,Nat.reduceEqDiff,Nat.reduceLT,Nat.reduceLeDiff,Nat.reduceMul,Nat.reduceSub,reduceCtorEq,tbCP0,Tryz.results168,hh,k,q12,List.map_cons,List.map_nil,hc])))
   | (refine OkF_with [] _ (List.Perm.refl _) (field10_ok c e t h.name ht) ?_;rintro v bs rs ⟨⟨zt,zn,rfl,hzu⟩,rfl,rfl⟩;try simp only [↓rA,rB,Nat.reduceAdd,Nat.reduceEqDiff,tbCP0,Tryz.results168,k])
   | exact finTI0 _ _ _ _ _
   | exact finTI _ _ _ _ _ _ _ (Le.refl _) (by assumption))
 ·obtain rfl:ts=[]:=List.eq_nil_of_length_eq_zero hl
  simp only [↓rA,rB]
  refine fun b3 h3=>?_;replace h3:=newb h3;try simp only [Nb] at h3
  simp only [↓rA,rB,Nat.reduceEqDiff]
  refine fun b4 h4=>?_;replace h4:=newb h4;try simp only [Nb] at h4
  simp only [↓rA,rB,tbCP0]
  refine fun b6 h6=>?_;replace h6:=newb h6;try simp only [Nb] at h6
  have hh:=And.intro h3 (And.intro h4 h6)
  have q12:(1:Int) < ((2:Nat):Int)∧(0:Int) < ((2:Nat):Int)∧(1:Int) < ((3:Nat):Int)∧(2:Int) < ((3:Nat):Int)∧IntKind.i64.wrap (((3:Nat):Int) - 1)=2∧IntKind.i64.wrap (((2:Nat):Int) - 1)=1∧IntKind.i64.wrap ((2:Int) - 1)=1∧IntKind.i64.wrap ((1:Int) - 1)=0:=by decide
  simp only [↓rA,rB,Int.reduceEq,Nat.reduceAdd,Nat.reduceEqDiff,tbCP0,hh,k]
  repeat' (first
   | (refine onCond_splitb (fun hc=>?_) (fun hc=>?_) <;> (first | (subst hc;try simp only [↓rA,rB,Int.reduceEq,Int.reduceLE,Int.reduceLT,Int.reduceToNat,Nat.reduceAdd,Nat.reduceEqDiff,Nat.reduceLT,Nat.reduceLeDiff,Nat.reduceMul,Nat.reduceSub,reduceCtorEq,tbCP0,Tryz.results168,hh,k,q12,List.map_cons,List.map_nil]) | (try simp only [↓rA,rB,Int.reduceEq,Int.reduceLE,Int.reduceLT,Int.reduceToNat,Nat.reduceAdd,Nat.reduceEqDiff,Nat.reduceLT,Nat.reduceLeDiff,Nat.reduceMul,Nat.reduceSub,reduceCtorEq,tbCP0,Tryz.results168,hh,k,q12,List.map_cons,List.map_nil,hc])))
   | (refine onGuard_splitb (fun hc=>?_) (fun hc=>?_) <;> (first | (subst hc;try simp only [↓rA,rB,Int.reduceEq,Int.reduceLE,Int.reduceLT,Int.reduceToNat,Nat.reduceAdd,Nat.reduceEqDiff,Nat.reduceLT,Nat.reduceLeDiff,Nat.reduceMul,Nat.reduceSub,reduceCtorEq,tbCP0,Tryz.results168,hh,k,q12,List.map_cons,List.map_nil]) | (try simp only [↓rA,rB,Int.reduceEq,Int.reduceLE,Int.reduceLT,Int.reduceToNat,Nat.reduceAdd,Nat.reduceEqDiff,Nat.reduceLT,Nat.reduceLeDiff,Nat.reduceMul,Nat.reduceSub,reduceCtorEq,tbCP0,Tryz.results168,hh,k,q12,List.map_cons,List.map_nil,hc])))
   | (refine onGuard_splitf (fun hc=>?_) (fun hc=>?_) <;> (first | (subst hc;try simp only [↓rA,rB,Int.reduceEq,Int.reduceLE,Int.reduceLT,Int.reduceToNat,Nat.reduceAdd,Nat.reduceEqDiff,Nat.reduceLT,Nat.reduceLeDiff,Nat.reduceMul,Nat.reduceSub,reduceCtorEq,tbCP0,Tryz.results168,hh,k,q12,List.map_cons,List.map_nil]) | (try simp only [↓rA,rB,Int.reduceEq,Int.reduceLE,Int.reduceLT,Int.reduceToNat,Nat.reduceAdd,Nat.reduceEqDiff,Nat.reduceLT,Nat.reduceLeDiff,Nat.reduceMul,Nat.reduceSub,reduceCtorEq,tbCP0,Tryz.results168,hh,k,q12,List.map_cons,List.map_nil,hc])))
   | (refine OkF_with [] _ (List.Perm.refl _) (feature10_ok c e t h.name e (Nat.le_trans hk.lf hn) hk.ff) ?_;rintro v bs rs ⟨⟨zt,zn,rfl,hzu⟩,rfl,rfl⟩;try simp only [↓rA,rB,Nat.reduceAdd,Nat.reduceEqDiff,tbCP0,Tryz.results168,k])
   | exact finTI0 _ _ _ _ _
   | exact finTI _ _ _ _ _ _ _ (Le.refl _) (by assumption))
 ·obtain⟨t0,rfl⟩:∃ t0,ts=[t0]:=by
   rcases ts with _ | ⟨t0,(_ | ⟨zz,zr⟩)⟩ <;> first | (simp at hl;done) | exact⟨t0,rfl⟩
  have ft0:FitU t0:=hts _ (by simp)
  simp only [↓rA,rB]
  refine fun b3 h3=>?_;replace h3:=newb h3;try simp only [Nb] at h3
  simp only [↓rA,rB,Nat.reduceEqDiff]
  refine fun b4 h4=>?_;replace h4:=newb h4;try simp only [Nb] at h4
  simp only [↓rA,rB,tbCP0]
  refine fun b6 h6=>?_;replace h6:=newb h6;try simp only [Nb] at h6
  have hh:=And.intro h3 (And.intro h4 h6)
  have q12:(1:Int) < ((2:Nat):Int)∧(0:Int) < ((2:Nat):Int)∧(1:Int) < ((3:Nat):Int)∧(2:Int) < ((3:Nat):Int)∧IntKind.i64.wrap (((3:Nat):Int) - 1)=2∧IntKind.i64.wrap (((2:Nat):Int) - 1)=1∧IntKind.i64.wrap ((2:Int) - 1)=1∧IntKind.i64.wrap ((1:Int) - 1)=0:=by decide
  simp only [↓rA,rB,Int.reduceEq,Int.reduceToNat,Nat.reduceAdd,Nat.reduceEqDiff,tbCP0,hh,k]
  repeat' (first
   | (refine onCond_splitb (fun hc=>?_) (fun hc=>?_) <;> (first | (subst hc;try simp only [↓rA,rB,Int.reduceEq,Int.reduceLE,Int.reduceLT,Int.reduceToNat,Nat.reduceAdd,Nat.reduceEqDiff,Nat.reduceLT,Nat.reduceLeDiff,Nat.reduceMul,Nat.reduceSub,reduceCtorEq,tbCP0,Tryz.results168,hh,k,q12,List.map_cons,List.map_nil]) | (try simp only [↓rA,rB,Int.reduceToNat,Nat.reduceAdd,Nat.reduceEqDiff,reduceCtorEq,tbCP0,Tryz.results168,hh,k,hc])))
   | (refine onGuard_splitb (fun hc=>?_) (fun hc=>?_) <;> (first | (subst hc;try simp only [↓rA,rB,Int.reduceEq,Int.reduceLE,Int.reduceLT,Int.reduceToNat,Nat.reduceAdd,Nat.reduceEqDiff,Nat.reduceLT,Nat.reduceLeDiff,Nat.reduceMul,Nat.reduceSub,reduceCtorEq,tbCP0,Tryz.results168,hh,k,q12,List.map_cons,List.map_nil]) | (try simp only [↓rA,rB,Int.reduceEq,Int.reduceLE,Int.reduceLT,Int.reduceToNat,Nat.reduceAdd,Nat.reduceEqDiff,Nat.reduceLT,Nat.reduceLeDiff,Nat.reduceMul,Nat.reduceSub,reduceCtorEq,tbCP0,Tryz.results168,hh,k,q12,List.map_cons,List.map_nil,hc])))
   | (refine onGuard_splitf (fun hc=>?_) (fun hc=>?_) <;> (first | (subst hc;try simp only [↓rA,rB,Int.reduceEq,Int.reduceLE,Int.reduceLT,Int.reduceToNat,Nat.reduceAdd,Nat.reduceEqDiff,Nat.reduceLT,Nat.reduceLeDiff,Nat.reduceMul,Nat.reduceSub,reduceCtorEq,tbCP0,Tryz.results168,hh,k,q12,List.map_cons,List.map_nil]) | (try simp only [↓rA,rB,Int.reduceEq,Int.reduceLE,Int.reduceLT,Int.reduceToNat,Nat.reduceAdd,Nat.reduceEqDiff,Nat.reduceLT,Nat.reduceLeDiff,Nat.reduceMul,Nat.reduceSub,reduceCtorEq,tbCP0,Tryz.results168,hh,k,q12,List.map_cons,List.map_nil,hc])))
   | (refine OkR_back (feature10_ok c e t h.name t0.of (Nat.le_trans hk.lf hn) hk.ff) ?_;rintro v bs rs ⟨⟨zt,zn,rfl,hzu⟩,rfl,rfl⟩;refine⟨rfl,?_⟩;try simp only [↓rA,rB,Nat.reduceAdd,Nat.reduceEqDiff,reduceCtorEq,tbCP0,Tryz.results168,k])
   | exact finTI0 _ _ _ _ _
   | exact finTI _ _ _ _ _ _ _ (Le.refl _) (by assumption))
 ·obtain⟨t0,t1,rfl⟩:∃ t0 t1,ts=[t0,t1]:=by
   rcases ts with _ | ⟨t0,(_ | ⟨t1,(_ | ⟨zz,zr⟩)⟩)⟩ <;> first | (simp at hl;done) | exact⟨t0,t1,rfl⟩
  have ft0:FitU t0:=hts _ (by simp)
  have ft1:FitU t1:=hts _ (by simp)
  have hov:OkTI Tryz.prog 179 [.agg [vint h.kind,vstr h.op,vstr h.name,vstr h.table,vint h.val.kind,vint h.val.n,vstr h.val.s,vFacs h.unit,vint h.param,vint h.wk,vint h.ws,vEs l],vTyp t0,vTyp t1]:=by
   have:=overAll_ok (.mk h l) t0 t1 ft0
   simp only [vE,cE_eq] at this
   exact this
  rw [k] at hov
  simp only [↓rA,rB]
  refine fun b3 h3=>?_;replace h3:=newb h3;try simp only [Nb] at h3
  simp only [↓rA,rB,Nat.reduceEqDiff]
  refine fun b4 h4=>?_;replace h4:=newb h4;try simp only [Nb] at h4
  simp only [↓rA,rB,tbCP0]
  refine fun b6 h6=>?_;replace h6:=newb h6;try simp only [Nb] at h6
  have hh:=And.intro h3 (And.intro h4 h6)
  have q12:(1:Int) < ((2:Nat):Int)∧(0:Int) < ((2:Nat):Int)∧(1:Int) < ((3:Nat):Int)∧(2:Int) < ((3:Nat):Int)∧IntKind.i64.wrap (((3:Nat):Int) - 1)=2∧IntKind.i64.wrap (((2:Nat):Int) - 1)=1∧IntKind.i64.wrap ((2:Int) - 1)=1∧IntKind.i64.wrap ((1:Int) - 1)=0:=by decide
  simp only [↓rA,rB,Int.reduceEq,Int.reduceLE,Int.reduceToNat,Nat.reduceAdd,Nat.reduceEqDiff,reduceCtorEq,tbCP0,hh,k,q12]
  repeat' (first
   | (refine onCond_splitb (fun hc=>?_) (fun hc=>?_) <;> (first | (subst hc;try simp only [↓rA,rB,Int.reduceEq,Int.reduceLE,Int.reduceLT,Int.reduceToNat,Nat.reduceAdd,Nat.reduceEqDiff,Nat.reduceLT,Nat.reduceLeDiff,Nat.reduceMul,Nat.reduceSub,reduceCtorEq,tbCP0,Tryz.results168,hh,k,q12,List.map_cons,List.map_nil]) | (try simp only [↓rA,rB,Int.reduceEq,Int.reduceLE,Int.reduceLT,Int.reduceToNat,Nat.reduceAdd,Nat.reduceEqDiff,Nat.reduceLT,Nat.reduceLeDiff,Nat.reduceMul,Nat.reduceSub,reduceCtorEq,tbCP0,Tryz.results168,hh,k,q12,List.map_cons,List.map_nil,hc])))
   | (refine onGuard_splitb (fun hc=>?_) (fun hc=>?_) <;> (first | (subst hc;try simp only [↓rA,rB,Int.reduceEq,Int.reduceLE,Int.reduceLT,Int.reduceToNat,Nat.reduceAdd,Nat.reduceEqDiff,Nat.reduceLT,Nat.reduceLeDiff,Nat.reduceMul,Nat.reduceSub,reduceCtorEq,tbCP0,Tryz.results168,hh,k,q12,List.map_cons,List.map_nil]) | (try simp only [↓rA,rB,Int.reduceEq,Int.reduceLE,Int.reduceLT,Int.reduceToNat,Nat.reduceAdd,Nat.reduceEqDiff,Nat.reduceLT,Nat.reduceLeDiff,Nat.reduceMul,Nat.reduceSub,reduceCtorEq,tbCP0,Tryz.results168,hh,k,q12,List.map_cons,List.map_nil,hc])))
   | (refine onGuard_splitf (fun hc=>?_) (fun hc=>?_) <;> (first | (subst hc;try simp only [↓rA,rB,Int.reduceEq,Int.reduceLE,Int.reduceLT,Int.reduceToNat,Nat.reduceAdd,Nat.reduceEqDiff,Nat.reduceLT,Nat.reduceLeDiff,Nat.reduceMul,Nat.reduceSub,reduceCtorEq,tbCP0,Tryz.results168,hh,k,q12,List.map_cons,List.map_nil]) | (try simp only [↓rA,rB,Int.reduceEq,Int.reduceLE,Int.reduceLT,Int.reduceToNat,Nat.reduceAdd,Nat.reduceEqDiff,Nat.reduceLT,Nat.reduceLeDiff,Nat.reduceMul,Nat.reduceSub,reduceCtorEq,tbCP0,Tryz.results168,hh,k,q12,List.map_cons,List.map_nil,hc])))
   | (refine OkR_back (hov) ?_;rintro v bs rs ⟨⟨zt,zn,rfl,hzu⟩,rfl,rfl⟩;refine⟨rfl,?_⟩;try simp only [↓rA,rB,Nat.reduceAdd,Nat.reduceEqDiff,reduceCtorEq,tbCP0,Tryz.results168,k])
   | exact finTI0 _ _ _ _ _
   | exact finTI _ _ _ _ _ _ _ (Le.refl _) (by assumption))
 ·obtain⟨t0,rfl⟩:∃ t0,ts=[t0]:=by
   rcases ts with _ | ⟨t0,(_ | ⟨zz,zr⟩)⟩ <;> first | (simp at hl;done) | exact⟨t0,rfl⟩
  have ft0:FitU t0:=hts _ (by simp)
  simp only [↓rA,rB]
  refine fun b3 h3=>?_;replace h3:=newb h3;try simp only [Nb] at h3
  simp only [↓rA,rB,Nat.reduceEqDiff]
  refine fun b4 h4=>?_;replace h4:=newb h4;try simp only [Nb] at h4
  simp only [↓rA,rB,tbCP0]
  refine fun b6 h6=>?_;replace h6:=newb h6;try simp only [Nb] at h6
  have hh:=And.intro h3 (And.intro h4 h6)
  have q12:(1:Int) < ((2:Nat):Int)∧(0:Int) < ((2:Nat):Int)∧(1:Int) < ((3:Nat):Int)∧(2:Int) < ((3:Nat):Int)∧IntKind.i64.wrap (((3:Nat):Int) - 1)=2∧IntKind.i64.wrap (((2:Nat):Int) - 1)=1∧IntKind.i64.wrap ((2:Int) - 1)=1∧IntKind.i64.wrap ((1:Int) - 1)=0:=by decide
  by_cases e1:h.op=⟨#[45]⟩
  ·have f1:(h.op=⟨#[45]⟩)=True:=eq_true e1
   have f2:(h.op=⟨#[110,111,116]⟩)=False:=eq_false (by rw [e1];decide)
   simp only [↓rA,rB,Int.reduceEq,Int.reduceToNat,Nat.reduceAdd,Nat.reduceEqDiff,tbCP0,hh,k,f1]
   refine OkF_of _ (number_ok _ _ _) ?_
   generalize decide (t0.kind=2∨t0.kind=3)=p
   cases p <;> simp only [↓rA,rB,Int.reduceToNat,Nat.reduceAdd,Nat.reduceEqDiff,tbCP0,Tryz.results168,hh,k,f1,f2]
   ·exact finTI0 _ _ _ _ _
   ·exact finTI _ _ _ _ _ _ _ (Le.refl _) ft0
  by_cases e2:h.op=⟨#[110,111,116]⟩
  ·have f1:(h.op=⟨#[45]⟩)=False:=eq_false e1
   have f2:(h.op=⟨#[110,111,116]⟩)=True:=eq_true e2
   by_cases e3:t0.kind=1 <;> simp only [↓rA,rB,Int.reduceEq,Int.reduceToNat,Nat.reduceAdd,Nat.reduceEqDiff,Nat.reduceLeDiff,tbCP0,Tryz.results168,hh,k,f1,f2,e3] <;> exact finTI0 _ _ _ _ _
  ·simp only [↓rA,rB,Int.reduceEq,Nat.reduceAdd,Nat.reduceEqDiff,Nat.reduceLeDiff,tbCP0,Tryz.results168,hh,k,e1,e2]
   exact finTI0 _ _ _ _ _
 ·obtain⟨t0,t1,rfl⟩:∃ t0 t1,ts=[t0,t1]:=by
   rcases ts with _ | ⟨t0,(_ | ⟨t1,(_ | ⟨zz,zr⟩)⟩)⟩ <;> first | (simp at hl;done) | exact⟨t0,t1,rfl⟩
  have ft0:FitU t0:=hts _ (by simp)
  have ft1:FitU t1:=hts _ (by simp)
  simp only [↓rA,rB]
  refine fun b3 h3=>?_;replace h3:=newb h3;try simp only [Nb] at h3
  simp only [↓rA,rB,Nat.reduceEqDiff]
  refine fun b4 h4=>?_;replace h4:=newb h4;try simp only [Nb] at h4
  simp only [↓rA,rB,tbCP0]
  refine fun b6 h6=>?_;replace h6:=newb h6;try simp only [Nb] at h6
  have hh:=And.intro h3 (And.intro h4 h6)
  have q12:(1:Int) < ((2:Nat):Int)∧(0:Int) < ((2:Nat):Int)∧(1:Int) < ((3:Nat):Int)∧(2:Int) < ((3:Nat):Int)∧IntKind.i64.wrap (((3:Nat):Int) - 1)=2∧IntKind.i64.wrap (((2:Nat):Int) - 1)=1∧IntKind.i64.wrap ((2:Int) - 1)=1∧IntKind.i64.wrap ((1:Int) - 1)=0:=by decide
  simp only [↓rA,rB,Int.reduceEq,Int.reduceLE,Int.reduceToNat,Nat.reduceAdd,Nat.reduceEqDiff,reduceCtorEq,tbCP0,hh,k,q12]
  repeat' (first
   | (refine onCond_splitb (fun hc=>?_) (fun hc=>?_) <;> (first | (subst hc;try simp only [↓rA,rB,Int.reduceEq,Int.reduceLE,Int.reduceLT,Int.reduceToNat,Nat.reduceAdd,Nat.reduceEqDiff,Nat.reduceLT,Nat.reduceLeDiff,Nat.reduceMul,Nat.reduceSub,reduceCtorEq,tbCP0,Tryz.results168,hh,k,q12,List.map_cons,List.map_nil]) | (try simp only [↓rA,rB,Int.reduceEq,Int.reduceLE,Int.reduceLT,Int.reduceToNat,Nat.reduceAdd,Nat.reduceEqDiff,Nat.reduceLT,Nat.reduceLeDiff,Nat.reduceMul,Nat.reduceSub,reduceCtorEq,tbCP0,Tryz.results168,hh,k,q12,List.map_cons,List.map_nil,hc])))
   | (refine onGuard_splitb (fun hc=>?_) (fun hc=>?_) <;> (first | (subst hc;try simp only [↓rA,rB,Int.reduceEq,Int.reduceLE,Int.reduceLT,Int.reduceToNat,Nat.reduceAdd,Nat.reduceEqDiff,Nat.reduceLT,Nat.reduceLeDiff,Nat.reduceMul,Nat.reduceSub,reduceCtorEq,tbCP0,Tryz.results168,hh,k,q12,List.map_cons,List.map_nil]) | (try simp only [↓rA,rB,Int.reduceEq,Int.reduceLE,Int.reduceLT,Int.reduceToNat,Nat.reduceAdd,Nat.reduceEqDiff,Nat.reduceLT,Nat.reduceLeDiff,Nat.reduceMul,Nat.reduceSub,reduceCtorEq,tbCP0,Tryz.results168,hh,k,q12,List.map_cons,List.map_nil,hc])))
   | (refine onGuard_splitf (fun hc=>?_) (fun hc=>?_) <;> (first | (subst hc;try simp only [↓rA,rB,Int.reduceEq,Int.reduceLE,Int.reduceLT,Int.reduceToNat,Nat.reduceAdd,Nat.reduceEqDiff,Nat.reduceLT,Nat.reduceLeDiff,Nat.reduceMul,Nat.reduceSub,reduceCtorEq,tbCP0,Tryz.results168,hh,k,q12,List.map_cons,List.map_nil]) | (try simp only [↓rA,rB,Int.reduceEq,Int.reduceLE,Int.reduceLT,Int.reduceToNat,Nat.reduceAdd,Nat.reduceEqDiff,Nat.reduceLT,Nat.reduceLeDiff,Nat.reduceMul,Nat.reduceSub,reduceCtorEq,tbCP0,Tryz.results168,hh,k,q12,List.map_cons,List.map_nil,hc])))
   | (refine OkR_back (binary_ok h.op t0 t1 ft0 ft1) ?_;rintro v bs rs ⟨⟨zt,zn,rfl,hzu⟩,rfl,rfl⟩;refine⟨rfl,?_⟩;try simp only [↓rA,rB,Nat.reduceAdd,Nat.reduceEqDiff,reduceCtorEq,tbCP0,Tryz.results168,k])
   | exact finTI0 _ _ _ _ _
   | exact finTI _ _ _ _ _ _ _ (Le.refl _) (by assumption))
 ·obtain⟨t0,t1,t2,rfl⟩:∃ t0 t1 t2,ts=[t0,t1,t2]:=by
   rcases ts with _ | ⟨t0,(_ | ⟨t1,(_ | ⟨t2,(_ | ⟨zz,zr⟩)⟩)⟩)⟩ <;> first | (simp at hl;done) | exact⟨t0,t1,t2,rfl⟩
  have ft0:FitU t0:=hts _ (by simp)
  have ft1:FitU t1:=hts _ (by simp)
  have ft2:FitU t2:=hts _ (by simp)
  simp only [↓rA,rB]
  refine fun b3 h3=>?_;replace h3:=newb h3;try simp only [Nb] at h3
  simp only [↓rA,rB,Nat.reduceEqDiff]
  refine fun b4 h4=>?_;replace h4:=newb h4;try simp only [Nb] at h4
  simp only [↓rA,rB,tbCP0]
  refine fun b6 h6=>?_;replace h6:=newb h6;try simp only [Nb] at h6
  have hh:=And.intro h3 (And.intro h4 h6)
  have q12:(1:Int) < ((2:Nat):Int)∧(0:Int) < ((2:Nat):Int)∧(1:Int) < ((3:Nat):Int)∧(2:Int) < ((3:Nat):Int)∧IntKind.i64.wrap (((3:Nat):Int) - 1)=2∧IntKind.i64.wrap (((2:Nat):Int) - 1)=1∧IntKind.i64.wrap ((2:Int) - 1)=1∧IntKind.i64.wrap ((1:Int) - 1)=0:=by decide
  simp only [↓rA,rB,Int.reduceEq,Int.reduceToNat,Nat.reduceAdd,Nat.reduceEqDiff,tbCP0,hh,k]
  repeat' (first
   | (refine onCond_splitb (fun hc=>?_) (fun hc=>?_) <;> (first | (subst hc;try simp only [↓rA,rB,Int.reduceEq,Int.reduceLE,Int.reduceLT,Int.reduceToNat,Nat.reduceAdd,Nat.reduceEqDiff,Nat.reduceLT,Nat.reduceLeDiff,Nat.reduceMul,Nat.reduceSub,reduceCtorEq,tbCP0,Tryz.results168,hh,k,q12,List.map_cons,List.map_nil]) | (try simp only [↓rA,rB,Int.reduceLE,Int.reduceToNat,Nat.reduceAdd,Nat.reduceEqDiff,reduceCtorEq,tbCP0,Tryz.results168,k,q12,hc])))
   | (refine onGuard_splitb (fun hc=>?_) (fun hc=>?_) <;> (first | (subst hc;try simp only [↓rA,rB,Int.reduceEq,Int.reduceLE,Int.reduceLT,Int.reduceToNat,Nat.reduceAdd,Nat.reduceEqDiff,Nat.reduceLT,Nat.reduceLeDiff,Nat.reduceMul,Nat.reduceSub,reduceCtorEq,tbCP0,Tryz.results168,hh,k,q12,List.map_cons,List.map_nil]) | (try simp only [↓rA,rB,Int.reduceEq,Int.reduceLE,Int.reduceLT,Int.reduceToNat,Nat.reduceAdd,Nat.reduceEqDiff,Nat.reduceLT,Nat.reduceLeDiff,Nat.reduceMul,Nat.reduceSub,reduceCtorEq,tbCP0,Tryz.results168,hh,k,q12,List.map_cons,List.map_nil,hc])))
   | (refine onGuard_splitf (fun hc=>?_) (fun hc=>?_) <;> (first | (subst hc;try simp only [↓rA,rB,Int.reduceEq,Int.reduceLE,Int.reduceLT,Int.reduceToNat,Nat.reduceAdd,Nat.reduceEqDiff,Nat.reduceLT,Nat.reduceLeDiff,Nat.reduceMul,Nat.reduceSub,reduceCtorEq,tbCP0,Tryz.results168,hh,k,q12,List.map_cons,List.map_nil]) | (try simp only [↓rA,rB,Int.reduceEq,Int.reduceLE,Int.reduceLT,Int.reduceToNat,Nat.reduceAdd,Nat.reduceEqDiff,Nat.reduceLT,Nat.reduceLeDiff,Nat.reduceMul,Nat.reduceSub,reduceCtorEq,tbCP0,Tryz.results168,hh,k,q12,List.map_cons,List.map_nil,hc])))
   | (refine OkR_back (both_ok t1 t2 ft1) ?_;rintro v bs rs ⟨⟨zn,rfl⟩,rfl,rfl⟩;refine⟨rfl,?_⟩;try simp only [↓rA,rB,Nat.reduceAdd,reduceCtorEq,k])
   | exact finTI0 _ _ _ _ _
   | exact finTI _ _ _ _ _ _ _ (Le.refl _) (by assumption))
 ·obtain⟨t0,t1,rfl⟩:∃ t0 t1,ts=[t0,t1]:=by
   rcases ts with _ | ⟨t0,(_ | ⟨t1,(_ | ⟨zz,zr⟩)⟩)⟩ <;> first | (simp at hl;done) | exact⟨t0,t1,rfl⟩
  have ft0:FitU t0:=hts _ (by simp)
  have ft1:FitU t1:=hts _ (by simp)
  simp only [↓rA,rB]
  refine fun b3 h3=>?_;replace h3:=newb h3;try simp only [Nb] at h3
  simp only [↓rA,rB,Nat.reduceEqDiff]
  refine fun b4 h4=>?_;replace h4:=newb h4;try simp only [Nb] at h4
  simp only [↓rA,rB,tbCP0]
  refine fun b6 h6=>?_;replace h6:=newb h6;try simp only [Nb] at h6
  have hh:=And.intro h3 (And.intro h4 h6)
  have q12:(1:Int) < ((2:Nat):Int)∧(0:Int) < ((2:Nat):Int)∧(1:Int) < ((3:Nat):Int)∧(2:Int) < ((3:Nat):Int)∧IntKind.i64.wrap (((3:Nat):Int) - 1)=2∧IntKind.i64.wrap (((2:Nat):Int) - 1)=1∧IntKind.i64.wrap ((2:Int) - 1)=1∧IntKind.i64.wrap ((1:Int) - 1)=0:=by decide
  simp only [↓rA,rB,Int.reduceEq,Int.reduceLE,Int.reduceToNat,Nat.reduceAdd,Nat.reduceEqDiff,reduceCtorEq,tbCP0,hh,k,q12]
  repeat' (first
   | (refine onCond_splitb (fun hc=>?_) (fun hc=>?_) <;> (first | (subst hc;try simp only [↓rA,rB,Int.reduceEq,Int.reduceLE,Int.reduceLT,Int.reduceToNat,Nat.reduceAdd,Nat.reduceEqDiff,Nat.reduceLT,Nat.reduceLeDiff,Nat.reduceMul,Nat.reduceSub,reduceCtorEq,tbCP0,Tryz.results168,hh,k,q12,List.map_cons,List.map_nil]) | (try simp only [↓rA,rB,Int.reduceLE,Int.reduceToNat,Nat.reduceAdd,Nat.reduceEqDiff,tbCP0,Tryz.results168,k,q12,hc])))
   | (refine onGuard_splitb (fun hc=>?_) (fun hc=>?_) <;> (first | (subst hc;try simp only [↓rA,rB,Int.reduceEq,Int.reduceLE,Int.reduceLT,Int.reduceToNat,Nat.reduceAdd,Nat.reduceEqDiff,Nat.reduceLT,Nat.reduceLeDiff,Nat.reduceMul,Nat.reduceSub,reduceCtorEq,tbCP0,Tryz.results168,hh,k,q12,List.map_cons,List.map_nil]) | (try simp only [↓rA,rB,Int.reduceEq,Int.reduceLE,Int.reduceLT,Int.reduceToNat,Nat.reduceAdd,Nat.reduceEqDiff,Nat.reduceLT,Nat.reduceLeDiff,Nat.reduceMul,Nat.reduceSub,reduceCtorEq,tbCP0,Tryz.results168,hh,k,q12,List.map_cons,List.map_nil,hc])))
   | (refine onGuard_splitf (fun hc=>?_) (fun hc=>?_) <;> (first | (subst hc;try simp only [↓rA,rB,Int.reduceEq,Int.reduceLE,Int.reduceLT,Int.reduceToNat,Nat.reduceAdd,Nat.reduceEqDiff,Nat.reduceLT,Nat.reduceLeDiff,Nat.reduceMul,Nat.reduceSub,reduceCtorEq,tbCP0,Tryz.results168,hh,k,q12,List.map_cons,List.map_nil]) | (try simp only [↓rA,rB,Int.reduceEq,Int.reduceLE,Int.reduceLT,Int.reduceToNat,Nat.reduceAdd,Nat.reduceEqDiff,Nat.reduceLT,Nat.reduceLeDiff,Nat.reduceMul,Nat.reduceSub,reduceCtorEq,tbCP0,Tryz.results168,hh,k,q12,List.map_cons,List.map_nil,hc])))
   | (refine OkR_back (both_ok t0 t1 ft0) ?_;rintro v bs rs ⟨⟨zn,rfl⟩,rfl,rfl⟩;refine⟨rfl,?_⟩;try simp only [↓rA,rB,Nat.reduceAdd,reduceCtorEq,k])
   | exact finTI0 _ _ _ _ _
   | exact finTI _ _ _ _ _ _ _ (Le.refl _) (by assumption))
end Go.Proofs.YtopfanlkbepemaaGreat
set_option linter.unusedSimpArgs false
set_option maxRecDepth 100000
set_option linter.defProp false
namespace Go.Proofs.YtopfanlkbepemaaGreat
open Go.VL Go.Ar Go.Lo Go.Proofs.YtopfanlkbepemaaGreat
def Bx (base:List (Nat × B)) (la lb:Bool) (v:V) (bs:List (Nat × B)):Prop :=
 (la=false∧lb=false∧bs=base)∨(∃ b,la=true∧lb=false∧Nb b base∧v=ptr b∧bs=(b,.c [vint 0,nilS,vstr es0])::base)∨∃ b t,la=true∧lb=true∧Nb b base∧FitU t∧v=ptr b∧bs=(b,.c (cTyp t))::base
abbrev bs4 (b2 b3 b4 b6:Nat) (h:Hd) (l:List E) (c:Cat) (e:Str) (t:Tab) (c':Cat) (e':Str) (t':Tab):List (Nat × B) :=
 [(b6,.c (cCat c'++(vstr e'::cTab t'))),(b4,.c [vint 0,nilS,vstr es0]),(b3,.c (cH h (vEs l))),(b2,.c (cCat c++(vstr e::cTab t)))]
def InI (b2 b3 b4 b6:Nat) (h:Hd) (l:List E) (c:Cat) (e:Str) (t:Tab) (c':Cat) (e':Str) (t':Tab) (y:Value) (ts:List Typ) (i:Nat) (x:E) (L:Nat→Bool) (S:St):Prop :=
 S.σ 2=ptr b2∧S.σ 3=ptr b3∧S.σ 4=ptr b4∧S.σ 6=ptr b6∧S.σ 9=.list (some y) 3 (ts.map cTyp)∧S.σ 10=vint i∧S.rows=[⟨y,3,83⟩] ∧
 (L 0=true→S.σ 37=vSc c' e' t')∧(L 1=true→S.σ 38=.lit (.pointer (some ⟨b3,11,none⟩)))∧(L 2=true→S.σ 39=vEs l)∧(L 3=true→S.σ 40=vint i)∧(L 4=true→S.σ 41=.ref ((l.map cE).getD (i:Int).toNat []))∧(L 5=true→S.σ 42=vE x) ∧
 (L 6=true→∃ t n,FitU t∧S.σ 43=.tup [vTyp t,vint n])∧(L 7=true→∃ t n,FitU t∧S.σ 36=.tup [vTyp t,vint n])∧(L 8=true→∃ t,FitU t∧S.σ 44=vTyp t)∧(L 9=true→∃ n,S.σ 45=vint n)∧(L 12=true→∃ n,S.σ 12=vint n) ∧
 Bx (bs4 b2 b3 b4 b6 h l c e t c' e' t') (L 10) (L 11) (S.σ 11) S.boxes
def tbCQ0:=(aI (aI (aI (aI Ty.c155 (aI Ty.c167 Ty.c168)) (aI Ty.t156 (aI Ty.t215 Ty.t231))) (aI (aI Ty.t235 (aI Ty.t243 Ty.t245)) (aI Ty.t26 (aI Ty.t3 Ty.t4)))) (aI (aI (aI Ty.t60 (aI Ty.t61 Ty.t63)) (aI Ty.t78 (aI Ty.t80 Ty.t81))) (aI (aI Ty.t83 (aI Ty.t85 Ty.t87)) (aI (aI Ty.t88 Ty.t9) (aI Ty.t90 Ty.t92)))))
set_option maxHeartbeats 4000000 in
theorem infer_ok (n:Nat) (hn:n≤1000000):∀ x:E,∀ (ins:Bool) (c:Cat) (e:Str) (t:Tab),Fit x→properE x ins=true→KFit n c→FitT t→OkTI Tryz.prog 155 [vSc c e t,vE x]:=by
 intro x
 induction x using E.ind with
 | h h l ih =>
 intro ins c e t hf hp hk ht
 obtain⟨p1,p2,p3,p4,p5⟩:=proper_parts hp
 have hl:=hf.len
 have ha:=hf.args
 have hu:=hf.unit
 simp only [E.args,big] at hl ha
 rw [vE,cE_mk]
 refine Ok.of_exM [(11,3)] Ty.mixed Tryz.func155 rfl (by simp [Tryz.ntmps155]) (by kernel_rfl) fun F w0 I0=>?_
 simp only [↓rA,rB]
 refine fun b2 h2=>?_;replace h2:=newb h2;try simp only [Nb] at h2
 simp only [↓rA,rB,Nat.reduceEqDiff]
 refine fun b3 h3=>?_;replace h3:=newb h3;try simp only [Nb] at h3
 simp only [↓rA,rB,tbCQ0]
 refine fun b4 h4=>?_;replace h4:=newb h4;try simp only [Nb] at h4
 simp only [↓rA,rB,Nat.reduceAdd,Nat.reduceEqDiff,tbCQ0,h3,h4]
 refine fun b6 h6=>?_;replace h6:=newb h6;try simp only [Nb] at h6
 have hh:=And.intro h2 (And.intro h3 (And.intro h4 h6))
 simp only [↓EX_ops_nil,↓EX_plain,↓ST_store,↓storeK_eq,onVal_eq,Todo_eq,put_eq,put_ne,put_none,put_boxes,addBox_σ,addBox_boxes,S0_boxes,ev_tmp,getB_same,setB_same,onSome_some,onPtr_ptr,And2_true,cellsV,oneB,okC,Nat.le_refl,eq_self,and_self,not_false_eq_true,ne_eq,List.map_cons,List.map_nil,List.take_zero,List.drop_succ_cons,List.drop_nil,List.length_cons,List.length_nil,List.nil_append,List.append_nil,List.toList_toArray,Nat.zero_add,Bool.and_true,Nat.reduceEqDiff,Nat.reduceAdd,tbCQ0,Tryz.results155]
 rw [EX_seq]
 refine EX_cut (fun S=>∃ X c' e' t',KFit n c'∧FitT t'∧S.boxes=X++bs4 b2 b3 b4 b6 h l c e t c' e' t'∧S.rows=[]∧S.σ 2=ptr b2∧S.σ 3=ptr b3∧S.σ 4=ptr b4∧S.σ 6=ptr b6) ?_ ?_
 ·by_cases k5:h.kind=5
  ·simp only [↓rA,rB,Nat.reduceAdd,Nat.reduceEqDiff,tbCQ0,hh,k5]
   refine OkF_with [] _ (List.Perm.refl _) (within_ok n c e t h.table hn hk) ?_
   rintro v bs rs ⟨⟨c',e',t',k,rfl,hk'⟩,rfl,rfl⟩
   simp only [↓rA,rB,Nat.reduceEqDiff,tbCQ0,k5]
   refine fun b7 h7=>?_;replace h7:=newb h7;try simp only [Nb] at h7
   have h7:=And.intro hh h7
   simp only [↓rA,rB,Nat.reduceAdd,Nat.reduceEqDiff,tbCQ0,k5]
   by_cases k0:k=0
   ·simp only [↓rA,rB,Nat.reduceAdd,Nat.reduceEqDiff,tbCQ0,h7,k5,k0]
    exact⟨[(b7,_)],c',e',t',(hk' k0).1,(hk' k0).2,rfl⟩
   ·simp only [↓rA,rB,Nat.reduceAdd,Nat.reduceEqDiff,tbCQ0,h7,k5,k0]
    exact finTI0 _ _ _ _ _
  ·simp only [↓rA,rB,Nat.reduceAdd,Nat.reduceEqDiff,tbCQ0,hh,k5]
   exact⟨[],c,e,t,hk,ht,rfl⟩
 rintro S ⟨X,c',e',t',hk',ht',gb,gr,g2,g3,g4,g6⟩
 rw [EX_seq]
 simp only [↓rA,rB]
 refine AWP.nilRow 9 3 83 (by simp only [rB,Nat.reduceEqDiff]) (by decide) ?_
 refine EX_forS Ty.mixed (by kernel_rfl) l.length (fun i S=>(∃ (y:Value) (ts:List Typ),ts.length=i∧(∀ z ∈ ts,FitU z)∧S.σ 9=.list (some y) 3 (ts.map cTyp)∧S.rows=[⟨y,3,83⟩])∧S.boxes=bs4 b2 b3 b4 b6 h l c e t c' e' t'∧S.σ 2=ptr b2∧S.σ 3=ptr b3∧S.σ 4=ptr b4∧S.σ 6=ptr b6∧S.σ 10=vint i) ⟨bs4 b2 b3 b4 b6 h l c e t c' e' t',_,?_,List.Sublist.refl _,?_⟩ (fun i S hi ⟨⟨y,ts,hl1,hts,g9,gr⟩,gb,g2,g3,g4,g6,g10⟩=>?_) (fun S ⟨⟨y,ts,hl1,hts,g9,gr⟩,gb,g2,g3,g4,g6,g10⟩=>?_)
 ·simp only [rB,gb]
  exact List.sublist_append_right _ _
 ·simp only [rB,Nat.reduceEqDiff,gr,g2,g3,g4,g6]
  exact⟨nilv,[],rfl,fun z hz=>absurd hz List.not_mem_nil,rfl,rfl⟩
 ·have hwi:=wrap_succ (i:=i) (N:=l.length) hi (by omega)
  have hx:=List.getElem_mem hi
  have hq:=ih l[i] hx (ins || decide (h.kind=5)) c' e' t' (ha _ hx) (p4 _ hx) hk' ht'
  simp only [↓rA,rB,Nat.reduceAdd,Nat.reduceEqDiff,tbCQ0,gb,g3,g10,hh,Int.ofNat_lt,hi,List.length_map]
  refine EX_invA Ty.mixed (by kernel_rfl) (by kernel_rfl) (InI b2 b3 b4 b6 h l c e t c' e' t' y ts i l[i]) ?_ ?_ ?_
  ·refine⟨?_,?_,?_,?_,?_,?_,?_,(fun h=>by cases h),(fun h=>by cases h),(fun h=>by cases h),(fun h=>by cases h),(fun h=>by cases h),(fun h=>by cases h),(fun h=>by cases h),(fun h=>by cases h),(fun h=>by cases h),(fun h=>by cases h),(fun h=>by cases h),.inl ⟨rfl,rfl,?_⟩⟩ <;> first | assumption | simp only [↓rA,rB,Int.reduceEq,Int.reduceLE,Int.reduceLT,Int.reduceToNat,Nat.reduceAdd,Nat.reduceEqDiff,Nat.reduceLT,Nat.reduceLeDiff,Nat.reduceMul,Nat.reduceSub,reduceCtorEq,tbCQ0,Tryz.results155,gb,gr,g2,g3,g4,g6,g9,g10] | exact gb
  ·clear gr gb g2 g3 g4 g6 g9 g10
   intro D S j o ho hL he ⟨g2,g3,g4,g6,g9,g10,gr,f0,f1,f2,f3,f4,f5,f6,f7,f8,f9,f12,hb⟩
   match j,ho with
   | 0,ho =>
    cases ho
    have hb0:=hb
    rcases hb0 with⟨hA,hB,gb⟩ | ⟨b,hA,hB,nb,g11,gb⟩ | ⟨b,t2,hA,hB,nb,hu2,g11,gb⟩
    ·skip
     simp only [↓rA,rB,Nat.reduceAdd,tbCQ0,gb,g6]
     exact⟨g2,g3,g4,g6,g9,g10,gr,fun _=>rfl,f1,f2,f3,f4,f5,f6,f7,f8,f9,f12,by first | exact hb | (rw [gb] at hb;exact hb)⟩
    ·simp only [Nb] at nb
     simp only [↓rA,rB,Nat.reduceAdd,tbCQ0,gb,g6,nb]
     exact⟨g2,g3,g4,g6,g9,g10,gr,fun _=>rfl,f1,f2,f3,f4,f5,f6,f7,f8,f9,f12,by first | exact hb | (rw [gb] at hb;exact hb)⟩
    ·simp only [Nb] at nb
     simp only [↓rA,rB,Nat.reduceAdd,tbCQ0,gb,g6,nb]
     exact⟨g2,g3,g4,g6,g9,g10,gr,fun _=>rfl,f1,f2,f3,f4,f5,f6,f7,f8,f9,f12,by first | exact hb | (rw [gb] at hb;exact hb)⟩
   | 1,ho =>
    cases ho
    have hb0:=hb
    rcases hb0 with⟨hA,hB,gb⟩ | ⟨b,hA,hB,nb,g11,gb⟩ | ⟨b,t2,hA,hB,nb,hu2,g11,gb⟩
    ·skip
     simp only [↓rA,rB,tbCQ0,g3]
     exact⟨g2,g3,g4,g6,g9,g10,gr,f0,fun _=>rfl,f2,f3,f4,f5,f6,f7,f8,f9,f12,by first | exact hb | (rw [gb] at hb;exact hb)⟩
    ·simp only [Nb] at nb
     simp only [↓rA,rB,tbCQ0,g3]
     exact⟨g2,g3,g4,g6,g9,g10,gr,f0,fun _=>rfl,f2,f3,f4,f5,f6,f7,f8,f9,f12,by first | exact hb | (rw [gb] at hb;exact hb)⟩
    ·simp only [Nb] at nb
     simp only [↓rA,rB,tbCQ0,g3]
     exact⟨g2,g3,g4,g6,g9,g10,gr,f0,fun _=>rfl,f2,f3,f4,f5,f6,f7,f8,f9,f12,by first | exact hb | (rw [gb] at hb;exact hb)⟩
   | 2,ho =>
    cases ho
    have q1:=f1 (he ⟨1,.data⟩ (by simp) rfl)
    have hb0:=hb
    rcases hb0 with⟨hA,hB,gb⟩ | ⟨b,hA,hB,nb,g11,gb⟩ | ⟨b,t2,hA,hB,nb,hu2,g11,gb⟩
    ·skip
     simp only [↓rA,rB,tbCQ0,gb,hh,q1]
     try simp only [↓rA,rB,Int.reduceEq,Int.reduceLE,Int.reduceLT,Int.reduceToNat,Nat.reduceAdd,Nat.reduceEqDiff,Nat.reduceLT,Nat.reduceLeDiff,Nat.reduceMul,Nat.reduceSub,reduceCtorEq,tbCQ0,Tryz.results155,gb,gr,g2,g3,g4,g6,g9,g10,hh,Int.ofNat_lt,hi,List.length_map,q1,cE_eq]
     exact⟨g2,g3,g4,g6,g9,g10,gr,f0,f1,fun _=>rfl,f3,f4,f5,f6,f7,f8,f9,f12,by first | exact hb | (rw [gb] at hb;exact hb)⟩
    ·simp only [Nb] at nb
     simp only [↓rA,rB,tbCQ0,gb,hh,q1,nb]
     try simp only [↓rA,rB,Int.reduceEq,Int.reduceLE,Int.reduceLT,Int.reduceToNat,Nat.reduceAdd,Nat.reduceEqDiff,Nat.reduceLT,Nat.reduceLeDiff,Nat.reduceMul,Nat.reduceSub,reduceCtorEq,tbCQ0,Tryz.results155,gb,gr,g2,g3,g4,g6,g9,g10,hh,Int.ofNat_lt,hi,List.length_map,q1,nb,g11,cE_eq]
     exact⟨g2,g3,g4,g6,g9,g10,gr,f0,f1,fun _=>rfl,f3,f4,f5,f6,f7,f8,f9,f12,by first | exact hb | (rw [gb] at hb;exact hb)⟩
    ·simp only [Nb] at nb
     simp only [↓rA,rB,tbCQ0,gb,hh,q1,nb]
     try simp only [↓rA,rB,Int.reduceEq,Int.reduceLE,Int.reduceLT,Int.reduceToNat,Nat.reduceAdd,Nat.reduceEqDiff,Nat.reduceLT,Nat.reduceLeDiff,Nat.reduceMul,Nat.reduceSub,reduceCtorEq,tbCQ0,Tryz.results155,gb,gr,g2,g3,g4,g6,g9,g10,hh,Int.ofNat_lt,hi,List.length_map,q1,nb,g11,cE_eq]
     exact⟨g2,g3,g4,g6,g9,g10,gr,f0,f1,fun _=>rfl,f3,f4,f5,f6,f7,f8,f9,f12,by first | exact hb | (rw [gb] at hb;exact hb)⟩
   | 3,ho =>
    cases ho
    have hb0:=hb
    rcases hb0 with⟨hA,hB,gb⟩ | ⟨b,hA,hB,nb,g11,gb⟩ | ⟨b,t2,hA,hB,nb,hu2,g11,gb⟩
    ·skip
     simp only [↓rA,rB,g10]
     exact⟨g2,g3,g4,g6,g9,g10,gr,f0,f1,f2,fun _=>rfl,f4,f5,f6,f7,f8,f9,f12,by first | exact hb | (rw [gb] at hb;exact hb)⟩
    ·simp only [Nb] at nb
     simp only [↓rA,rB,g10]
     exact⟨g2,g3,g4,g6,g9,g10,gr,f0,f1,f2,fun _=>rfl,f4,f5,f6,f7,f8,f9,f12,by first | exact hb | (rw [gb] at hb;exact hb)⟩
    ·simp only [Nb] at nb
     simp only [↓rA,rB,g10]
     exact⟨g2,g3,g4,g6,g9,g10,gr,f0,f1,f2,fun _=>rfl,f4,f5,f6,f7,f8,f9,f12,by first | exact hb | (rw [gb] at hb;exact hb)⟩
   | 4,ho =>
    cases ho
    have q2:=f2 (he ⟨2,.data⟩ (by simp) rfl)
    have q3:=f3 (he ⟨3,.data⟩ (by simp) rfl)
    have hb0:=hb
    rcases hb0 with⟨hA,hB,gb⟩ | ⟨b,hA,hB,nb,g11,gb⟩ | ⟨b,t2,hA,hB,nb,hu2,g11,gb⟩
    ·skip
     simp only [↓rA,rB,tbCQ0,Int.ofNat_lt,hi,List.length_map,q2,q3]
     exact⟨g2,g3,g4,g6,g9,g10,gr,f0,f1,f2,f3,fun _=>rfl,f5,f6,f7,f8,f9,f12,by first | exact hb | (rw [gb] at hb;exact hb)⟩
    ·simp only [Nb] at nb
     simp only [↓rA,rB,tbCQ0,Int.ofNat_lt,hi,List.length_map,q2,q3]
     exact⟨g2,g3,g4,g6,g9,g10,gr,f0,f1,f2,f3,fun _=>rfl,f5,f6,f7,f8,f9,f12,by first | exact hb | (rw [gb] at hb;exact hb)⟩
    ·simp only [Nb] at nb
     simp only [↓rA,rB,tbCQ0,Int.ofNat_lt,hi,List.length_map,q2,q3]
     exact⟨g2,g3,g4,g6,g9,g10,gr,f0,f1,f2,f3,fun _=>rfl,f5,f6,f7,f8,f9,f12,by first | exact hb | (rw [gb] at hb;exact hb)⟩
   | 5,ho =>
    cases ho
    have q4:=f4 (he ⟨4,.data⟩ (by simp) rfl)
    have hb0:=hb
    rcases hb0 with⟨hA,hB,gb⟩ | ⟨b,hA,hB,nb,g11,gb⟩ | ⟨b,t2,hA,hB,nb,hu2,g11,gb⟩
    ·skip
     simp only [↓rA,rB,tbCQ0,q4]
     try simp only [rB,Nat.reduceAdd,getD_map _ _ _ hi,cE_eq]
     exact⟨g2,g3,g4,g6,g9,g10,gr,f0,f1,f2,f3,f4,fun _=>(congrArg V.agg (cE_eq l[i])).symm,f6,f7,f8,f9,f12,by first | exact hb | (rw [gb] at hb;exact hb)⟩
    ·simp only [Nb] at nb
     simp only [↓rA,rB,tbCQ0,q4]
     try simp only [rB,Nat.reduceAdd,getD_map _ _ _ hi,cE_eq]
     exact⟨g2,g3,g4,g6,g9,g10,gr,f0,f1,f2,f3,f4,fun _=>(congrArg V.agg (cE_eq l[i])).symm,f6,f7,f8,f9,f12,by first | exact hb | (rw [gb] at hb;exact hb)⟩
    ·simp only [Nb] at nb
     simp only [↓rA,rB,tbCQ0,q4]
     try simp only [rB,Nat.reduceAdd,getD_map _ _ _ hi,cE_eq]
     exact⟨g2,g3,g4,g6,g9,g10,gr,f0,f1,f2,f3,f4,fun _=>(congrArg V.agg (cE_eq l[i])).symm,f6,f7,f8,f9,f12,by first | exact hb | (rw [gb] at hb;exact hb)⟩
   | 6,ho =>
    cases ho
    have q0:=f0 (he ⟨0,.data⟩ (by simp) rfl)
    have q5:=f5 (he ⟨5,.data⟩ (by simp) rfl)
    have hb0:=hb
    rcases hb0 with⟨hA,hB,gb⟩ | ⟨b,hA,hB,nb,g11,gb⟩ | ⟨b,t2,hA,hB,nb,hu2,g11,gb⟩
    ·skip
     simp only [↓rA,rB,tbCQ0,gb,q0,q5]
     refine OkF_with [] _ (List.Perm.refl _) hq ?_
     rintro v bs rs ⟨⟨t1,n1,rfl,hu1⟩,rfl,rfl⟩
     simp only [↓rA,rB,gr]
     exact⟨g2,g3,g4,g6,g9,g10,rfl,f0,f1,f2,f3,f4,f5,fun _=>⟨t1,n1,hu1,rfl⟩,f7,f8,f9,f12,by first | exact hb | (rw [gb] at hb;exact hb)⟩
    ·simp only [Nb] at nb
     simp only [↓rA,rB,tbCQ0,gb,q0,q5]
     refine OkF_with [] _ (List.Perm.refl _) hq ?_
     rintro v bs rs ⟨⟨t1,n1,rfl,hu1⟩,rfl,rfl⟩
     simp only [↓rA,rB,gr]
     exact⟨g2,g3,g4,g6,g9,g10,rfl,f0,f1,f2,f3,f4,f5,fun _=>⟨t1,n1,hu1,rfl⟩,f7,f8,f9,f12,by first | exact hb | (rw [gb] at hb;exact hb)⟩
    ·simp only [Nb] at nb
     simp only [↓rA,rB,tbCQ0,gb,q0,q5]
     refine OkF_with [] _ (List.Perm.refl _) hq ?_
     rintro v bs rs ⟨⟨t1,n1,rfl,hu1⟩,rfl,rfl⟩
     simp only [↓rA,rB,gr]
     exact⟨g2,g3,g4,g6,g9,g10,rfl,f0,f1,f2,f3,f4,f5,fun _=>⟨t1,n1,hu1,rfl⟩,f7,f8,f9,f12,by first | exact hb | (rw [gb] at hb;exact hb)⟩
   | 7,ho =>
    cases ho
    obtain⟨t1,n1,hu1,q6⟩:=f6 (he ⟨6,.data⟩ (by simp) rfl)
    have hb0:=hb
    rcases hb0 with⟨hA,hB,gb⟩ | ⟨b,hA,hB,nb,g11,gb⟩ | ⟨b,t2,hA,hB,nb,hu2,g11,gb⟩
    ·skip
     simp only [↓rA,rB,q6]
     exact⟨g2,g3,g4,g6,g9,g10,gr,f0,f1,f2,f3,f4,f5,f6,fun _=>⟨t1,n1,hu1,rfl⟩,f8,f9,f12,by first | exact hb | (rw [gb] at hb;exact hb)⟩
    ·simp only [Nb] at nb
     simp only [↓rA,rB,q6]
     exact⟨g2,g3,g4,g6,g9,g10,gr,f0,f1,f2,f3,f4,f5,f6,fun _=>⟨t1,n1,hu1,rfl⟩,f8,f9,f12,by first | exact hb | (rw [gb] at hb;exact hb)⟩
    ·simp only [Nb] at nb
     simp only [↓rA,rB,q6]
     exact⟨g2,g3,g4,g6,g9,g10,gr,f0,f1,f2,f3,f4,f5,f6,fun _=>⟨t1,n1,hu1,rfl⟩,f8,f9,f12,by first | exact hb | (rw [gb] at hb;exact hb)⟩
   | 8,ho =>
    cases ho
    obtain⟨t1,n1,hu1,q7⟩:=f7 (he ⟨7,.data⟩ (by simp) rfl)
    have hb0:=hb
    rcases hb0 with⟨hA,hB,gb⟩ | ⟨b,hA,hB,nb,g11,gb⟩ | ⟨b,t2,hA,hB,nb,hu2,g11,gb⟩
    ·skip
     simp only [↓rA,rB,q7]
     exact⟨g2,g3,g4,g6,g9,g10,gr,f0,f1,f2,f3,f4,f5,f6,f7,fun _=>⟨t1,hu1,rfl⟩,f9,f12,by first | exact hb | (rw [gb] at hb;exact hb)⟩
    ·simp only [Nb] at nb
     simp only [↓rA,rB,q7]
     exact⟨g2,g3,g4,g6,g9,g10,gr,f0,f1,f2,f3,f4,f5,f6,f7,fun _=>⟨t1,hu1,rfl⟩,f9,f12,by first | exact hb | (rw [gb] at hb;exact hb)⟩
    ·simp only [Nb] at nb
     simp only [↓rA,rB,q7]
     exact⟨g2,g3,g4,g6,g9,g10,gr,f0,f1,f2,f3,f4,f5,f6,f7,fun _=>⟨t1,hu1,rfl⟩,f9,f12,by first | exact hb | (rw [gb] at hb;exact hb)⟩
   | 9,ho =>
    cases ho
    obtain⟨t1,n1,hu1,q7⟩:=f7 (he ⟨7,.data⟩ (by simp) rfl)
    have hb0:=hb
    rcases hb0 with⟨hA,hB,gb⟩ | ⟨b,hA,hB,nb,g11,gb⟩ | ⟨b,t2,hA,hB,nb,hu2,g11,gb⟩
    ·skip
     simp only [↓rA,rB,q7]
     exact⟨g2,g3,g4,g6,g9,g10,gr,f0,f1,f2,f3,f4,f5,f6,f7,f8,fun _=>⟨n1,rfl⟩,f12,by first | exact hb | (rw [gb] at hb;exact hb)⟩
    ·simp only [Nb] at nb
     simp only [↓rA,rB,q7]
     exact⟨g2,g3,g4,g6,g9,g10,gr,f0,f1,f2,f3,f4,f5,f6,f7,f8,fun _=>⟨n1,rfl⟩,f12,by first | exact hb | (rw [gb] at hb;exact hb)⟩
    ·simp only [Nb] at nb
     simp only [↓rA,rB,q7]
     exact⟨g2,g3,g4,g6,g9,g10,gr,f0,f1,f2,f3,f4,f5,f6,f7,f8,fun _=>⟨n1,rfl⟩,f12,by first | exact hb | (rw [gb] at hb;exact hb)⟩
   | 10,ho =>
    cases ho
    have hb0:=hb
    rcases hb0 with⟨hA,hB,gb⟩ | ⟨b,hA,hB,nb,g11,gb⟩ | ⟨b,t2,hA,hB,nb,hu2,g11,gb⟩
    ·skip
     simp only [↓rA,rB,tbCQ0,gb,gr]
     refine fun b hbn=>?_;replace hbn:=newb hbn;try simp only [Nb] at hbn
     simp only [↓rA,rB]
     exact⟨g2,g3,g4,g6,g9,g10,gr,f0,f1,f2,f3,f4,f5,f6,f7,f8,f9,f12,.inr (.inl ⟨b,rfl,hB,hbn,rfl,congrArg (_::·) gb⟩)⟩
    ·simp only [Nb] at nb
     rw [hA] at hL;cases hL
    ·simp only [Nb] at nb
     rw [hA] at hL;cases hL
   | 11,ho =>
    cases ho
    obtain⟨t1,hu1,q8⟩:=f8 (he ⟨8,.data⟩ (by simp) rfl)
    have hb0:=hb
    rcases hb0 with⟨hA,hB,gb⟩ | ⟨b,hA,hB,nb,g11,gb⟩ | ⟨b,t2,hA,hB,nb,hu2,g11,gb⟩
    ·skip
     exact absurd (he ⟨10,.data⟩ (by simp) rfl) (by rw [hA];simp)
    ·simp only [Nb] at nb
     simp only [↓rA,rB,Nat.reduceAdd,tbCQ0,gb,q8,g11]
     exact⟨g2,g3,g4,g6,g9,g10,gr,f0,f1,f2,f3,f4,f5,f6,f7,f8,f9,f12,.inr (.inr ⟨b,t1,hA,rfl,nb,hu1,g11,rfl⟩)⟩
    ·simp only [Nb] at nb
     rw [hB] at hL;cases hL
   | 12,ho =>
    cases ho
    obtain⟨n1,q9⟩:=f9 (he ⟨9,.data⟩ (by simp) rfl)
    have hb0:=hb
    rcases hb0 with⟨hA,hB,gb⟩ | ⟨b,hA,hB,nb,g11,gb⟩ | ⟨b,t2,hA,hB,nb,hu2,g11,gb⟩
    ·skip
     simp only [↓rA,rB,q9]
     exact⟨g2,g3,g4,g6,g9,g10,gr,f0,f1,f2,f3,f4,f5,f6,f7,f8,f9,fun _=>⟨n1,rfl⟩,by first | exact hb | (rw [gb] at hb;exact hb)⟩
    ·simp only [Nb] at nb
     simp only [↓rA,rB,q9]
     exact⟨g2,g3,g4,g6,g9,g10,gr,f0,f1,f2,f3,f4,f5,f6,f7,f8,f9,fun _=>⟨n1,rfl⟩,by first | exact hb | (rw [gb] at hb;exact hb)⟩
    ·simp only [Nb] at nb
     simp only [↓rA,rB,q9]
     exact⟨g2,g3,g4,g6,g9,g10,gr,f0,f1,f2,f3,f4,f5,f6,f7,f8,f9,fun _=>⟨n1,rfl⟩,by first | exact hb | (rw [gb] at hb;exact hb)⟩
  ·clear gr gb g2 g3 g4 g6 g9 g10
   intro D S hD ⟨g2,g3,g4,g6,g9,g10,gr,f0,f1,f2,f3,f4,f5,f6,f7,f8,f9,f12,hb⟩
   obtain⟨n1,g12⟩:=f12 (hD 12 (by decide))
   rcases hb with⟨hA,hB,gb⟩ | ⟨b,hA,hB,nb,g11,gb⟩ | ⟨b,t2,hA,hB,nb,hu2,g11,gb⟩
   ·rw [hD 10 (by decide)] at hA;cases hA
   ·rw [hD 11 (by decide)] at hB;cases hB
   simp only [Nb] at nb
   simp only [↓rA,rB,g12]
   by_cases n0:n1=0
   ·simp only [↓rA,rB,Nat.reduceAdd,Nat.reduceEqDiff,Nat.reduceLT,Nat.reduceLeDiff,Nat.reduceMul,tbCQ0,gb,gr,g9,g11,n0]
    intro y1
    refine takeRF_2 ?_
    simp only [↓rA,rB,Nat.reduceEqDiff,g10,n0,hl1,hwi,List.length_map]
    refine⟨by omega,fun y2=>?_⟩
    refine⟨bs4 b2 b3 b4 b6 h l c e t c' e' t',[⟨y2,3,83⟩],?_,?_,?_⟩
    ·simp only [rB,gb]
     exact List.sublist_cons_self _ _
    ·exact List.Sublist.cons_cons _ (List.nil_sublist _)
    ·simp only [rB,Nat.reduceEqDiff,g2,g3,g4,g6]
     refine⟨y2,ts++[t2],by simp [hl1],fun z hz=>?_,by simp,rfl⟩
     rcases List.mem_append.1 hz with hz | hz
     ·exact hts z hz
     ·rw [List.mem_singleton.1 hz];exact hu2
   ·simp only [↓rA,rB,Nat.reduceAdd,Nat.reduceEqDiff,tbCQ0,gb,gr,g4,g12,hh,nb,n0]
    exact finTI0 _ _ _ _ _
 ·have hq:=operation_ok n c e t h l ins (some y) ts hn hk ht hu p1 (by rw [hl1];exact p3) hts
  simp only [↓rA,rB,Nat.reduceAdd,Nat.reduceEqDiff,tbCQ0,gb,g2,g3,g9,g10,hh,Int.ofNat_lt,Nat.lt_irrefl,List.length_map]
  refine OkF_with [] _ (List.Perm.refl _) hq ?_
  rintro v bs rs ⟨⟨t1,n1,rfl,hu1⟩,rfl,rfl⟩
  simp only [↓rA,rB,Nat.reduceAdd,Nat.reduceEqDiff,tbCQ0,gr,g4,hh]
  exact finTI _ _ _ _ _ _ _ (Le.refl _) hu1
end Go.Proofs.YtopfanlkbepemaaGreat
set_option linter.unusedSimpArgs false
set_option maxRecDepth 100000
set_option linter.defProp false
namespace Go.Proofs.YtopfanlkbepemaaGreat
open Go.VL Go.Ar Go.Lo Go.Proofs.YtopfanlkbepemaaGreat
theorem leSc0 (c:Cat) (en:Str):Le (.agg (cCat c++[vstr en,vstr es0,vstr es0,nilS,vint 0])) (vSc c en tab0) :=
 leAgg (.cons (Le.refl _) (.cons (Le.refl _) (.cons (Le.refl _) (.cons (Le.refl _) (.cons (Le.refl _) (.cons (Le.refl _) (.cons (Le.refl _) (.cons (Le.nil 4) (.cons (Le.refl _) .nil)))))))))
theorem fitT0:FitT tab0:=⟨by simp [big],fun f hf=>by cases hf⟩
def tbCR0:=(aI (aI (aI (aI Ty.c135 Ty.c155) (aI Ty.t156 (aI Ty.t215 Ty.t231))) (aI (aI Ty.t235 (aI Ty.t26 Ty.t3)) (aI Ty.t4 (aI Ty.t60 Ty.t61)))) (aI (aI (aI Ty.t63 Ty.t78) (aI Ty.t80 (aI Ty.t81 Ty.t83))) (aI (aI Ty.t85 (aI Ty.t87 Ty.t88)) (aI Ty.t9 (aI Ty.t90 Ty.t92)))))
theorem inferC_ok (n:Nat) (c:Cat) (en:Str) (x:E) (hn:n≤1000000) (hk:KFit n c) (hf:Fit x) (hb:depthE x≤big):OkTI Tryz.prog 136 [vCat c,vstr en,vE x]:=by
 have hs:=shapeR_ok x hf hb
 have hq:shapeC x=0→OkTI Tryz.prog 155 [vSc c en tab0,vE x]:=fun h=>infer_ok n hn x false c en tab0 hf (shape_parts h).2.2 hk fitT0
 simp only [vE,cE_eq x] at hs hq ⊢
 refine Ok.of_ex Ty.mixed Tryz.func136 rfl (by simp [Tryz.ntmps136]) (by kernel_rfl) fun F w0 I0=>?_
 simp only [↓rA,rB]
 refine fun b3 h3=>?_;replace h3:=newb h3;try simp only [Nb] at h3
 simp only [↓rA,rB,Nat.reduceEqDiff]
 refine fun b5 h5=>?_;replace h5:=newb h5;try simp only [Nb] at h5
 simp only [↓rA,rB,tbCR0]
 refine fun b6 h6=>?_;replace h6:=newb h6;try simp only [Nb] at h6
 have hh:=And.intro h3 (And.intro h5 h6)
 simp only [↓rA,rB,Nat.reduceAdd,Nat.reduceEqDiff,tbCR0,hh]
 refine OkF_of _ hs ?_
 by_cases h0:shapeC x=0
 case neg =>
  simp only [↓rA,rB,Nat.reduceAdd,Nat.reduceEqDiff,tbCR0,Tryz.results136,h0]
  exact finTI0 _ _ _ _ _
 simp only [↓rA,rB,Nat.reduceAdd,Nat.reduceEqDiff,Nat.reduceLeDiff,tbCR0,hh,h0]
 refine fun b9 h9=>?_;replace h9:=newb h9;try simp only [Nb] at h9
 have hh:=And.intro hh h9
 simp only [↓rA,rB,Nat.reduceAdd,Nat.reduceEqDiff,tbCR0,hh]
 refine OkF_with [] _ (List.Perm.refl _) (Ok.le (.cons (leSc0 c en) (.cons (Le.refl _) .nil)) (hq h0)) ?_
 rintro v bs rs ⟨⟨t1,n1,rfl,hu1⟩,rfl,rfl⟩
 simp only [↓rA,rB,Nat.reduceAdd,Nat.reduceEqDiff,tbCR0,Tryz.results136,hh]
 exact finTI _ _ _ _ _ _ _ (Le.refl _) hu1
def tbCR1:=(aI (aI (aI (aI Ty.c134 Ty.c136) (aI Ty.c137 (aI Ty.c66 Ty.t156))) (aI (aI Ty.t215 (aI Ty.t231 Ty.t26)) (aI Ty.t3 (aI Ty.t4 Ty.t60)))) (aI (aI (aI Ty.t61 (aI Ty.t63 Ty.t78)) (aI Ty.t80 (aI Ty.t81 Ty.t83))) (aI (aI Ty.t85 (aI Ty.t87 Ty.t88)) (aI Ty.t9 (aI Ty.t90 Ty.t92)))))
theorem featureC_ok (n:Nat) (c:Cat) (f:Ftr) (hn:n≤1000000) (hk:KFit n c) (hf:FitF f) (hb:depthE f.body≤big):OkI Tryz.prog 104 [vCat c,.agg (cFtr f)]:=by
 have hq:=inferC_ok n c f.entity f.body hn hk hf.2 hb
 simp only [vE,cE_eq f.body,cFtr_eq] at hq ⊢
 refine Ok.of_ex Ty.mixed Tryz.func104 rfl (by simp [Tryz.ntmps104]) (by kernel_rfl) fun F w0 I0=>?_
 simp only [↓rA,rB]
 refine fun b2 h2=>?_;replace h2:=newb h2;try simp only [Nb] at h2
 simp only [↓rA,rB,Nat.reduceEqDiff]
 refine fun b3 h3=>?_;replace h3:=newb h3;try simp only [Nb] at h3
 have hh:=And.intro h2 h3
 simp only [↓rA,rB,Nat.reduceAdd,Nat.reduceEqDiff,tbCR1]
 repeat' (first
  | (refine onCond_splitb (fun hc=>?_) (fun hc=>?_) <;> (first | (subst hc;try simp only [↓rA,rB,Int.reduceEq,Int.reduceLE,Int.reduceLT,Int.reduceToNat,Nat.reduceAdd,Nat.reduceEqDiff,Nat.reduceLT,Nat.reduceLeDiff,Nat.reduceMul,Nat.reduceSub,reduceCtorEq,tbCR1,Tryz.results104,hh]) | (try simp only [↓rA,rB,Nat.reduceAdd,Nat.reduceEqDiff,Nat.reduceLeDiff,tbCR1,Tryz.results104,hh,hc])))
  | (refine onGuard_splitb (fun hc=>?_) (fun hc=>?_) <;> (first | (subst hc;try simp only [↓rA,rB,Int.reduceEq,Int.reduceLE,Int.reduceLT,Int.reduceToNat,Nat.reduceAdd,Nat.reduceEqDiff,Nat.reduceLT,Nat.reduceLeDiff,Nat.reduceMul,Nat.reduceSub,reduceCtorEq,tbCR1,Tryz.results104,hh]) | (try simp only [↓rA,rB,Int.reduceEq,Int.reduceLE,Int.reduceLT,Int.reduceToNat,Nat.reduceAdd,Nat.reduceEqDiff,Nat.reduceLT,Nat.reduceLeDiff,Nat.reduceMul,Nat.reduceSub,reduceCtorEq,tbCR1,Tryz.results104,hh,hc])))
  | (refine onGuard_splitf (fun hc=>?_) (fun hc=>?_) <;> (first | (subst hc;try simp only [↓rA,rB,Int.reduceEq,Int.reduceLE,Int.reduceLT,Int.reduceToNat,Nat.reduceAdd,Nat.reduceEqDiff,Nat.reduceLT,Nat.reduceLeDiff,Nat.reduceMul,Nat.reduceSub,reduceCtorEq,tbCR1,Tryz.results104,hh]) | (try simp only [↓rA,rB,Nat.reduceAdd,Nat.reduceEqDiff,tbCR1,Tryz.results104,hc])))
  | (refine OkF_of _ (nameR_ok _) ?_;try simp only [↓rA,rB,Nat.reduceEqDiff])
  | (refine OkF_of _ (typeR_ok _ _ _) ?_;try simp only [↓rA,rB])
  | exact finI _ _ _
  | (refine OkF_with [] _ (List.Perm.refl _) hq ?_;rintro v bs rs ⟨⟨t1,n1,rfl,hu1⟩,rfl,rfl⟩;try simp only [↓rA,rB,Nat.reduceEqDiff,tbCR1])
  | (refine fun b6 h6=>?_;replace h6:=newb h6;simp only [Nb] at h6;have hh:=And.intro hh h6;try simp only [↓rA,rB,Nat.reduceAdd,Nat.reduceEqDiff,tbCR1])
  | (refine OkF_with [] _ (List.Perm.refl _) (both_ok _ _ (by assumption)) ?_;rintro v bs rs ⟨⟨k1,rfl⟩,rfl,rfl⟩;try simp only [↓rA,rB,Tryz.results104]))
end Go.Proofs.YtopfanlkbepemaaGreat
set_option linter.unusedSimpArgs false
set_option maxRecDepth 100000
set_option linter.defProp false
namespace Go.Proofs.YtopfanlkbepemaaGreat
open Go.VL Go.Ar Go.Lo Go.Proofs.YtopfanlkbepemaaGreat
def tbCS0:=(aI (aI (aI Ty.c134 (aI Ty.c66 Ty.t156)) (aI Ty.t231 (aI Ty.t26 Ty.t3))) (aI (aI Ty.t4 (aI Ty.t78 Ty.t80)) (aI Ty.t81 (aI Ty.t83 Ty.t9))))
theorem tableC_ok (t:Tab):OkI Tryz.prog 133 [.agg (cTab t)]:=by
 refine Ok.of_ex Ty.mixed Tryz.func133 rfl (by simp [Tryz.ntmps133]) (by kernel_rfl) fun F w0 I0=>?_
 simp only [↓rA,rB]
 refine fun b1 h1=>?_;replace h1:=newb h1;try simp only [Nb] at h1
 simp only [↓EX_ops_nil,↓EX_plain,↓ST_assign,onVal_eq,Todo_eq,ev_const,List.toList_toArray,Tryz.results133]
 rw [EX_seq]
 by_cases h8:(8:Int) < t.fields.length
 ·simp only [↓rA,rB,Nat.reduceAdd,Nat.reduceEqDiff,tbCS0]
  repeat' (first
   | (refine onCond_splitb (fun hc=>?_) (fun hc=>?_) <;> (first | (subst hc;try simp only [↓rA,rB,Int.reduceEq,Int.reduceLE,Int.reduceLT,Int.reduceToNat,Nat.reduceAdd,Nat.reduceEqDiff,Nat.reduceLT,Nat.reduceLeDiff,Nat.reduceMul,Nat.reduceSub,reduceCtorEq,tbCS0,Tryz.results133,h1,h8,List.length_map]) | (try simp only [↓rA,rB,Nat.reduceAdd,Nat.reduceEqDiff,tbCS0,h8,List.length_map,hc])))
   | (refine onGuard_splitb (fun hc=>?_) (fun hc=>?_) <;> (first | (subst hc;try simp only [↓rA,rB,Int.reduceEq,Int.reduceLE,Int.reduceLT,Int.reduceToNat,Nat.reduceAdd,Nat.reduceEqDiff,Nat.reduceLT,Nat.reduceLeDiff,Nat.reduceMul,Nat.reduceSub,reduceCtorEq,tbCS0,Tryz.results133,h1,h8,List.length_map]) | (try simp only [↓rA,rB,Int.reduceEq,Int.reduceLE,Int.reduceLT,Int.reduceToNat,Nat.reduceAdd,Nat.reduceEqDiff,Nat.reduceLT,Nat.reduceLeDiff,Nat.reduceMul,Nat.reduceSub,reduceCtorEq,tbCS0,Tryz.results133,h1,h8,List.length_map,hc])))
   | (refine onGuard_splitf (fun hc=>?_) (fun hc=>?_) <;> (first | (subst hc;try simp only [↓rA,rB,Int.reduceEq,Int.reduceLE,Int.reduceLT,Int.reduceToNat,Nat.reduceAdd,Nat.reduceEqDiff,Nat.reduceLT,Nat.reduceLeDiff,Nat.reduceMul,Nat.reduceSub,reduceCtorEq,tbCS0,Tryz.results133,h1,h8,List.length_map]) | (try simp only [↓rA,rB,Nat.reduceAdd,Nat.reduceEqDiff,tbCS0,hc])))
   | (refine OkF_of _ (nameR_ok _) ?_;try simp only [↓rA,rB,Nat.reduceEqDiff])
   | exact finI _ _ _)
 have hl:t.fields.length≤8:=by omega
 rw [← EX_seq]
 by_cases q1:nameB t.name=true
 case neg =>
  have q1:nameB t.name=false:=by simpa using q1
  simp only [↓rA,rB,Nat.reduceAdd,Nat.reduceEqDiff,tbCS0]
  refine OkF_of _ (nameR_ok _) ?_
  simp only [↓rA,rB,Nat.reduceEqDiff,q1]
  exact finI _ _ _
 by_cases q2:nameB t.entity=true
 case neg =>
  have q2:nameB t.entity=false:=by simpa using q2
  simp only [↓rA,rB,Nat.reduceAdd,Nat.reduceEqDiff,tbCS0]
  refine OkF_of _ (nameR_ok _) ?_
  simp only [↓rA,rB,Nat.reduceAdd,Nat.reduceEqDiff,tbCS0,q1]
  refine OkF_of _ (nameR_ok _) ?_
  simp only [↓rA,rB,Nat.reduceEqDiff,q2]
  exact finI _ _ _
 by_cases q3:t.keep < 0
 ·simp only [↓rA,rB,Nat.reduceAdd,Nat.reduceEqDiff,tbCS0]
  refine OkF_of _ (nameR_ok _) ?_
  simp only [↓rA,rB,Nat.reduceAdd,Nat.reduceEqDiff,tbCS0,q1]
  refine OkF_of _ (nameR_ok _) ?_
  simp only [↓rA,rB,Nat.reduceAdd,Nat.reduceEqDiff,tbCS0,q2,q3]
  exact finI _ _ _
 by_cases q4:1099511627776 < t.keep
 ·simp only [↓rA,rB,Nat.reduceAdd,Nat.reduceEqDiff,tbCS0]
  refine OkF_of _ (nameR_ok _) ?_
  simp only [↓rA,rB,Nat.reduceAdd,Nat.reduceEqDiff,tbCS0,q1]
  refine OkF_of _ (nameR_ok _) ?_
  simp only [↓rA,rB,Nat.reduceAdd,Nat.reduceEqDiff,tbCS0,q2,q3,q4]
  exact finI _ _ _
 simp only [↓rA,rB,Nat.reduceAdd,Nat.reduceEqDiff,tbCS0]
 refine OkF_of _ (nameR_ok _) ?_
 simp only [↓rA,rB,Nat.reduceAdd,Nat.reduceEqDiff,tbCS0,q1]
 refine OkF_of _ (nameR_ok _) ?_
 simp only [↓rA,rB,Nat.reduceAdd,Nat.reduceEqDiff,tbCS0,q2,q3,q4,h8,List.length_map]
 refine EX_for Ty.mixed (by kernel_rfl) t.fields.length (fun i S=>S.boxes=[(b1,.c (cTab t))]∧S.rows=[]∧S.σ 1=ptr b1∧S.σ 3=vint i) ⟨0,?_⟩ (fun i S hi ⟨gb,gr,g1,g3⟩=>?_) (fun S ⟨gb,gr,g1,g3⟩=>?_)
 ·simp only [rB,Nat.reduceEqDiff]
  try exact rfl
 ·have hwi:=wrap_succ (i:=i) (N:=t.fields.length) hi (by omega)
  simp only [↓rA,rB,Nat.reduceAdd,Nat.reduceEqDiff,tbCS0,gb,g1,g3,Int.ofNat_lt,hi,List.length_map,getD_map _ _ _ hi]
  refine OkF_of _ (nameR_ok _) ?_
  simp only [↓rA,rB,gr]
  refine onCond_splitb (fun hc=>?_) (fun hc=>?_)
  ·simp only [↓rA,rB,gr]
   exact finI _ _ _
  simp only [↓rA,rB,gr]
  refine EX_for Ty.mixed (by kernel_rfl) i (fun j S=>S.boxes=[(b1,.c (cTab t))]∧S.rows=[]∧S.σ 1=ptr b1∧S.σ 3=vint i∧S.σ 4=vint j) ⟨0,?_⟩ (fun j S hj ⟨gb,gr,g1,g3,g4⟩=>?_) (fun S ⟨gb,gr,g1,g3,g4⟩=>?_)
  ·simp only [rB,Nat.reduceEqDiff,g1,g3]
   try exact rfl
  ·have hwj:=wrap_succ (i:=j) (N:=i) hj (by omega)
   have hjl:j < t.fields.length:=Nat.lt_trans hj hi
   simp only [↓rA,rB,Nat.reduceAdd,Nat.reduceEqDiff,tbCS0,gb,g1,g3,g4,Int.ofNat_lt,hi,hj,hjl,List.length_map,getD_map _ _ _ hi,getD_map _ _ _ hjl]
   refine onCond_splitb (fun hc=>?_) (fun hc=>?_)
   ·simp only [↓rA,rB,gb,gr]
    exact finI _ _ _
   ·simp only [↓rA,rB,Nat.reduceEqDiff,gb,gr,g1,g3,g4,hwj]
    first | exact⟨0,rfl⟩ | exact⟨0,trivial⟩
  ·simp only [↓rA,rB,Nat.reduceAdd,Nat.reduceEqDiff,tbCS0,gb,g1,g3,g4,Int.ofNat_lt,hi,Nat.lt_irrefl,List.length_map,getD_map _ _ _ hi]
   refine OkF_of _ (typeR_ok _ _ _) ?_
   simp only [↓rA,rB,gr]
   refine onCond_splitb (fun hc=>?_) (fun hc=>?_)
   ·simp only [↓rA,rB,Nat.reduceEqDiff,gr]
    exact finI _ _ _
   ·simp only [↓rA,rB,Nat.reduceEqDiff,gr,g1,g3,hwi]
    first | exact⟨0,rfl⟩ | exact⟨0,trivial⟩
 ·simp only [↓rA,rB,Nat.reduceAdd,Nat.reduceEqDiff,tbCS0,gb,gr,g1,g3,Int.ofNat_lt,Nat.lt_irrefl,List.length_map]
  exact finI _ _ _
def tbCS1:=(aI (aI (aI (aI Ty.t156 Ty.t231) (aI Ty.t3 Ty.t4)) (aI (aI Ty.t60 Ty.t61) (aI Ty.t63 Ty.t78))) (aI (aI (aI Ty.t80 Ty.t81) (aI Ty.t83 Ty.t85)) (aI (aI Ty.t87 Ty.t88) (aI Ty.t9 (aI Ty.t90 Ty.t92)))))
theorem table12_ok (c:Cat) (s:Str) (hl:c.tables.length≤1000000):Ok Tryz.prog 64 [vCat c,vstr s] [] fun v bs rs=>(∃ (t:Tab) (b:Bool),v=.tup [.agg (cTab t),vbool b]∧(b=true→t ∈ c.tables))∧bs=[]∧rs=[]:=by
 refine Ok.of_ex Ty.mixed Tryz.func64 rfl (by simp [Tryz.ntmps64]) (by kernel_rfl) fun F w0 I0=>?_
 simp only [↓rA,rB]
 refine fun b2 h2=>?_;replace h2:=newb h2;try simp only [Nb] at h2
 simp only [↓rA,rB,tbCS1]
 refine fun b4 h4=>?_;replace h4:=newb h4;try simp only [Nb] at h4
 have hh:=And.intro h2 h4
 simp only [↓rA,rB,Tryz.results64]
 refine EX_for Ty.mixed (by kernel_rfl) c.tables.length (fun i S=>S.boxes=[(b4,.c [vstr es0,vstr es0,nilS,vint 0]),(b2,.c (cCat c))]∧S.rows=[]∧S.σ 1=vstr s∧S.σ 2=ptr b2∧S.σ 4=ptr b4∧S.σ 6=vint i) ⟨0,?_⟩ (fun i S hi ⟨gb,gr,g1,g2,g4,g6⟩=>?_) (fun S ⟨gb,gr,g1,g2,g4,g6⟩=>?_)
 ·simp only [rB,Nat.reduceEqDiff]
  try exact rfl
 ·have hwi:=wrap_succ (i:=i) (N:=c.tables.length) hi (by omega)
  simp only [↓rA,rB,Nat.reduceAdd,Nat.reduceEqDiff,tbCS1,gb,g1,g2,g6,hh,Int.ofNat_lt,hi,List.length_map,getD_map _ _ _ hi]
  refine onCond_splitb (fun hc=>?_) (fun hc=>?_)
  ·simp only [↓rA,rB,Nat.reduceAdd,Nat.reduceEqDiff,tbCS1,gb,gr,g2,g4,g6,hh,Int.ofNat_lt,hi,List.length_map,getD_map _ _ _ hi]
   exact⟨_,[],[],Le.refl _,List.nil_sublist _,List.nil_sublist _,⟨c.tables[i],true,rfl,fun _=>List.getElem_mem hi⟩,rfl,rfl⟩
  ·simp only [↓rA,rB,Nat.reduceEqDiff,gb,gr,g1,g2,g4,g6,hwi]
   first | exact⟨0,rfl⟩ | exact⟨0,trivial⟩
 ·simp only [↓rA,rB,Nat.reduceAdd,Nat.reduceEqDiff,tbCS1,gb,gr,g2,g4,g6,hh,Int.ofNat_lt,Nat.lt_irrefl,List.length_map]
  exact⟨_,[],[],leTup (.cons leTab0 (.cons (Le.refl _) .nil)),List.nil_sublist _,List.nil_sublist _,⟨tab0,false,rfl,fun h=>by cases h⟩,rfl,rfl⟩
def tbCS4:=(aI (aI Ty.t3 Ty.t36) (aI Ty.t4 Ty.t9))
theorem in12_ok (l:List Str) (s:Str) (hl:l.length≤1000000000):OkB Tryz.prog 159 [.list none 1 (l.map fun s=>[vstr s]),vstr s]:=by
 refine Ok.of_ex Ty.mixed Tryz.func159 rfl (by simp [Tryz.ntmps159]) (by kernel_rfl) fun F w0 I0=>?_
 simp only [↓rA,rB,Tryz.results159]
 refine EX_for Ty.mixed (by kernel_rfl) l.length (fun i S=>S.boxes=[]∧S.rows=[]∧S.σ 0=.list none 1 (l.map fun s=>[vstr s])∧S.σ 1=vstr s∧S.σ 5=vint i) ⟨0,?_⟩ (fun i S hi ⟨gb,gr,g0,g1,g5⟩=>?_) (fun S ⟨gb,gr,g0,g1,g5⟩=>?_)
 ·simp only [rB,Nat.reduceEqDiff,reduceCtorEq]
  try exact rfl
 ·have hwi:=wrap_succ (i:=i) (N:=l.length) hi (by omega)
  simp only [↓rA,rB,Nat.reduceEqDiff,reduceCtorEq,tbCS4,g0,g1,g5,Int.ofNat_lt,hi,List.length_map,getD_map _ _ _ hi]
  refine onCond_splitb (fun hc=>?_) (fun hc=>?_)
  ·simp only [↓rA,rB,gb,gr]
   exact⟨_,[],[],Le.refl _,List.nil_sublist _,List.nil_sublist _,⟨true,rfl⟩,rfl,rfl⟩
  ·simp only [↓rA,rB,Nat.reduceEqDiff,reduceCtorEq,gb,gr,g0,g1,g5,hwi]
   first | exact⟨0,rfl⟩ | exact⟨0,trivial⟩
 ·simp only [↓rA,rB,Nat.reduceEqDiff,reduceCtorEq,tbCS4,gb,gr,g0,g5,Int.ofNat_lt,Nat.lt_irrefl,List.length_map]
  exact⟨_,[],[],Le.refl _,List.nil_sublist _,List.nil_sublist _,⟨false,rfl⟩,rfl,rfl⟩
end Go.Proofs.YtopfanlkbepemaaGreat
set_option linter.unusedSimpArgs false
set_option maxRecDepth 100000
set_option linter.defProp false
namespace Go.Proofs.YtopfanlkbepemaaGreat
open Go.VL Go.Ar Go.Lo Go.Proofs.YtopfanlkbepemaaGreat
abbrev lSt (l:List Str):V:=.list none 1 (l.map fun s=>[vstr s])
def tbCT0:=(aI (aI Ty.t3 Ty.t36) (aI Ty.t4 Ty.t9))
theorem put12_ok (l:List Str) (s:Str) (hl:l.length≤1000000000):Ok Tryz.prog 169 [lSt l,vstr s] [] fun v bs rs=>(∃ l':List Str,l'.length≤l.length+1∧v=lSt l')∧bs=[]∧rs=[]:=by
 refine Ok.of_ex Ty.mixed Tryz.func169 rfl (by simp [Tryz.ntmps169]) (by kernel_rfl) fun F w0 I0=>?_
 simp only [↓rA,rB,Tryz.results169]
 refine EX_while Ty.mixed (by kernel_rfl) (fun j=>l.length - j) (fun j S=>j≤l.length∧S.boxes=[]∧S.rows=[]∧S.σ 0=lSt l∧S.σ 1=vstr s∧S.σ 5=vint j) 0 ⟨0,?_⟩ fun j S ⟨hj,gb,gr,g0,g1,g5⟩=>?_
 ·simp only [rB,Nat.reduceEqDiff,reduceCtorEq]
  first | done | exact⟨Nat.zero_le _,rfl⟩
 ·by_cases hjl:j < l.length
  ·have hwj:=wrap_succ hjl (show l.length≤9223372036854775807 by omega)
   cases hc:Op.bytesLess l[j].data.toList s.data.toList
   ·by_cases he:l[j]=s
    ·have hc':Op.bytesLess s.data.toList s.data.toList=false:=he▸hc
     simp only [↓rA,rB,Nat.reduceEqDiff,reduceCtorEq,tbCT0,gb,gr,g0,g1,g5,Int.ofNat_lt,hjl,List.length_map,getD_map _ _ _ hjl,hc',he]
     exact⟨_,[],[],Le.refl _,List.nil_sublist _,List.nil_sublist _,⟨l,Nat.le_succ _,rfl⟩,rfl,rfl⟩
    ·simp only [↓rA,rB,Nat.reduceEqDiff,reduceCtorEq,tbCT0,g0,g1,g5,Int.ofNat_lt,hjl,List.length_map,getD_map _ _ _ hjl,hc,he]
     have hk:(j:Int)≤l.length:=by omega
     have q1:(List.take j (l.map fun s=>[vstr s])).length=j:=by rw [List.length_take,List.length_map];omega
     have q2:(List.drop j (l.map fun s=>[vstr s])).length=l.length - j:=by rw [List.length_drop,List.length_map]
     refine Or2.l ?_
     simp only [↓rA,rB,Nat.reduceEqDiff,Nat.reduceLT,Nat.reduceLeDiff,Nat.reduceMul,reduceCtorEq,tbCT0,gr,g0,g1,g5,hj,List.length_map]
     intro y1
     refine⟨by rw [q1];omega,fun y2 y3=>takeRF_2 ?_⟩
     simp only [↓rA,rB,Nat.reduceEqDiff,Nat.reduceLT,reduceCtorEq,tbCT0,g0,g5,hj,List.length_map,q1]
     refine⟨by omega,fun y4=>takeRF_1 ?_⟩
     simp only [↓rA,rB,gb,List.length_map,q1,q2,List.length_append]
     refine⟨by omega,fun y5=>⟨_,[],[],?_,List.nil_sublist _,List.nil_sublist _,⟨l.take j++(s::l.drop j),by simp;omega,rfl⟩,rfl,rfl⟩⟩
     rw [lSt,List.map_append,List.map_cons,List.map_take,List.map_drop]
     refine fun w I x hx=>?_
     have:=Le.list _ _ _ w I x hx
     rwa [List.append_assoc] at this
   ·simp only [↓rA,rB,Nat.reduceEqDiff,reduceCtorEq,tbCT0,gb,gr,g0,g1,g5,Int.ofNat_lt,hjl,List.length_map,getD_map _ _ _ hjl,hc,hwj]
    exact⟨j+1,by omega,0,by omega,rfl⟩
  ·simp only [↓rA,rB,Nat.reduceEqDiff,reduceCtorEq,tbCT0,g0,g5,Int.ofNat_lt,hjl,List.length_map]
   have hk:(j:Int)≤l.length:=by omega
   have q1:(List.take j (l.map fun s=>[vstr s])).length=j:=by rw [List.length_take,List.length_map];omega
   have q2:(List.drop j (l.map fun s=>[vstr s])).length=l.length - j:=by rw [List.length_drop,List.length_map]
   refine Or2.l ?_
   simp only [↓rA,rB,Nat.reduceEqDiff,Nat.reduceLT,Nat.reduceLeDiff,Nat.reduceMul,reduceCtorEq,tbCT0,gr,g0,g1,g5,hj,List.length_map]
   intro y1
   refine⟨by rw [q1];omega,fun y2 y3=>takeRF_2 ?_⟩
   simp only [↓rA,rB,Nat.reduceEqDiff,Nat.reduceLT,reduceCtorEq,tbCT0,g0,g5,hj,List.length_map,q1]
   refine⟨by omega,fun y4=>takeRF_1 ?_⟩
   simp only [↓rA,rB,gb,List.length_map,q1,q2,List.length_append]
   refine⟨by omega,fun y5=>⟨_,[],[],?_,List.nil_sublist _,List.nil_sublist _,⟨l.take j++(s::l.drop j),by simp;omega,rfl⟩,rfl,rfl⟩⟩
   rw [lSt,List.map_append,List.map_cons,List.map_take,List.map_drop]
   refine fun w I x hx=>?_
   have:=Le.list _ _ _ w I x hx
   rwa [List.append_assoc] at this
def tbCT1:=(aI (aI (aI Ty.c169 (aI Ty.c171 Ty.t231)) (aI Ty.t250 (aI Ty.t3 Ty.t36))) (aI (aI Ty.t4 (aI Ty.t81 Ty.t85)) (aI (aI Ty.t87 Ty.t88) (aI Ty.t9 Ty.t90))))
theorem direct_ok:∀ x:E,∀ (a b:List Str),Fit x→a.length+sizeE x≤100000000→b.length+sizeE x≤100000000→Ok Tryz.prog 171 [vE x,lSt a,lSt b] [] fun v bs rs=>(∃ a' b':List Str,a'.length≤a.length+sizeE x∧b'.length≤b.length+sizeE x∧v=.tup [lSt a',lSt b'])∧bs=[]∧rs=[]:=by
 intro x
 induction x using E.ind with
 | h h l ih =>
 intro a b hf ha hb
 have hl:=hf.len
 have hfa:=hf.args
 simp only [E.args,big] at hl hfa
 rw [sizeE_mk] at ha hb ⊢
 rw [vE,cE_mk]
 refine Ok.of_ex Ty.mixed Tryz.func171 rfl (by simp [Tryz.ntmps171]) (by kernel_rfl) fun F w0 I0=>?_
 simp only [↓rA,rB]
 refine fun b3 h3=>?_;replace h3:=newb h3;try simp only [Nb] at h3
 simp only [↓EX_ops_nil,↓EX_plain,↓ST_assign,onVal_eq,Todo_eq,ev_const,List.toList_toArray,Tryz.results171]
 rw [EX_seq]
 refine EX_cut (fun S=>(∃ a',a'.length≤a.length+1∧S.σ 1=lSt a')∧S.boxes=[(b3,.c (cH h (vEs l)))]∧S.rows=[]∧S.σ 2=lSt b∧S.σ 3=ptr b3) ?_ ?_
 ·simp only [↓rA,rB,Nat.reduceAdd,Nat.reduceEqDiff,tbCT1]
  repeat' (first
   | (refine onCond_splitb (fun hc=>?_) (fun hc=>?_) <;> (first | (subst hc;try simp only [↓rA,rB,Int.reduceEq,Int.reduceLE,Int.reduceLT,Int.reduceToNat,Nat.reduceAdd,Nat.reduceEqDiff,Nat.reduceLT,Nat.reduceLeDiff,Nat.reduceMul,Nat.reduceSub,reduceCtorEq,tbCT1,Tryz.results171,h3]) | (try simp only [↓rA,rB,Nat.reduceAdd,Nat.reduceEqDiff,tbCT1,hc])))
   | (refine onGuard_splitb (fun hc=>?_) (fun hc=>?_) <;> (first | (subst hc;try simp only [↓rA,rB,Int.reduceEq,Int.reduceLE,Int.reduceLT,Int.reduceToNat,Nat.reduceAdd,Nat.reduceEqDiff,Nat.reduceLT,Nat.reduceLeDiff,Nat.reduceMul,Nat.reduceSub,reduceCtorEq,tbCT1,Tryz.results171,h3]) | (try simp only [↓rA,rB,Int.reduceEq,Int.reduceLE,Int.reduceLT,Int.reduceToNat,Nat.reduceAdd,Nat.reduceEqDiff,Nat.reduceLT,Nat.reduceLeDiff,Nat.reduceMul,Nat.reduceSub,reduceCtorEq,tbCT1,Tryz.results171,h3,hc])))
   | (refine onGuard_splitf (fun hc=>?_) (fun hc=>?_) <;> (first | (subst hc;try simp only [↓rA,rB,Int.reduceEq,Int.reduceLE,Int.reduceLT,Int.reduceToNat,Nat.reduceAdd,Nat.reduceEqDiff,Nat.reduceLT,Nat.reduceLeDiff,Nat.reduceMul,Nat.reduceSub,reduceCtorEq,tbCT1,Tryz.results171,h3]) | (try simp only [↓rA,rB,Nat.reduceAdd,Nat.reduceEqDiff,tbCT1,hc])))
   | exact⟨a,Nat.le_succ _,rfl⟩
   | (refine OkF_with [] _ (List.Perm.refl _) (put12_ok a h.name (by omega)) ?_;rintro v bs rs ⟨⟨l',hl',rfl⟩,rfl,rfl⟩;try simp only [↓rA,rB,Nat.reduceEqDiff])
   | exact⟨_,by assumption,rfl⟩)
 rintro S ⟨⟨a',ha',g1⟩,gb,gr,g2,g3⟩
 rw [EX_seq]
 refine EX_cut (fun S=>(∃ b',b'.length≤b.length+1∧S.σ 2=lSt b')∧S.boxes=[(b3,.c (cH h (vEs l)))]∧S.rows=[]∧S.σ 1=lSt a'∧S.σ 3=ptr b3) ?_ ?_
 ·simp only [↓rA,rB,Nat.reduceAdd,tbCT1,gb,g3]
  repeat' (first
   | (refine onCond_splitb (fun hc=>?_) (fun hc=>?_) <;> (first | (subst hc;try simp only [↓rA,rB,Int.reduceEq,Int.reduceLE,Int.reduceLT,Int.reduceToNat,Nat.reduceAdd,Nat.reduceEqDiff,Nat.reduceLT,Nat.reduceLeDiff,Nat.reduceMul,Nat.reduceSub,reduceCtorEq,tbCT1,Tryz.results171,gb,gr,g1,g2,g3,h3]) | (try simp only [↓rA,rB,Nat.reduceAdd,Nat.reduceEqDiff,tbCT1,gb,gr,g1,g2,g3,hc])))
   | (refine onGuard_splitb (fun hc=>?_) (fun hc=>?_) <;> (first | (subst hc;try simp only [↓rA,rB,Int.reduceEq,Int.reduceLE,Int.reduceLT,Int.reduceToNat,Nat.reduceAdd,Nat.reduceEqDiff,Nat.reduceLT,Nat.reduceLeDiff,Nat.reduceMul,Nat.reduceSub,reduceCtorEq,tbCT1,Tryz.results171,gb,gr,g1,g2,g3,h3]) | (try simp only [↓rA,rB,Int.reduceEq,Int.reduceLE,Int.reduceLT,Int.reduceToNat,Nat.reduceAdd,Nat.reduceEqDiff,Nat.reduceLT,Nat.reduceLeDiff,Nat.reduceMul,Nat.reduceSub,reduceCtorEq,tbCT1,Tryz.results171,gb,gr,g1,g2,g3,h3,hc])))
   | (refine onGuard_splitf (fun hc=>?_) (fun hc=>?_) <;> (first | (subst hc;try simp only [↓rA,rB,Int.reduceEq,Int.reduceLE,Int.reduceLT,Int.reduceToNat,Nat.reduceAdd,Nat.reduceEqDiff,Nat.reduceLT,Nat.reduceLeDiff,Nat.reduceMul,Nat.reduceSub,reduceCtorEq,tbCT1,Tryz.results171,gb,gr,g1,g2,g3,h3]) | (try simp only [↓rA,rB,Int.reduceEq,Int.reduceLE,Int.reduceLT,Int.reduceToNat,Nat.reduceAdd,Nat.reduceEqDiff,Nat.reduceLT,Nat.reduceLeDiff,Nat.reduceMul,Nat.reduceSub,reduceCtorEq,tbCT1,Tryz.results171,gb,gr,g1,g2,g3,h3,hc])))
   | exact⟨b,Nat.le_succ _,rfl⟩
   | (refine OkF_with [] _ (List.Perm.refl _) (put12_ok b h.table (by omega)) ?_;rintro v bs rs ⟨⟨l',hl',rfl⟩,rfl,rfl⟩;try simp only [↓rA,rB,Nat.reduceEqDiff,gr,g1,g3])
   | exact⟨_,by assumption,rfl⟩)
 clear gb gr g1 g2 g3 S
 rintro S ⟨⟨b',hb',g2⟩,gb,gr,g1,g3⟩
 simp only [↓rA,rB]
 refine EX_for Ty.mixed (by kernel_rfl) l.length (fun i S=>(∃ a' b':List Str,a'.length≤a.length+1+sizeEs (l.take i)∧b'.length≤b.length+1+sizeEs (l.take i)∧S.σ 1=lSt a'∧S.σ 2=lSt b')∧S.boxes=[(b3,.c (cH h (vEs l)))]∧S.rows=[]∧S.σ 3=ptr b3∧S.σ 8=vint i) ⟨0,?_⟩ (fun i S hi ⟨⟨a1,b1,ha1,hb1,g1,g2⟩,gb,gr,g3,g8⟩=>?_) (fun S ⟨⟨a1,b1,ha1,hb1,g1,g2⟩,gb,gr,g3,g8⟩=>?_)
 ·simp only [rB,Nat.reduceEqDiff,gb,gr,g1,g2,g3]
  exact⟨a',b',by omega,by omega,rfl,rfl⟩
 ·have hwi:=wrap_succ (i:=i) (N:=l.length) hi (by omega)
  have hx:=List.getElem_mem hi
  have hsz:sizeEs (l.take (i+1))=sizeEs (l.take i)+sizeE l[i]:=by
   rw [List.take_succ_eq_append_getElem hi,sizeEs_append];simp only [sizeEs];omega
  have hle:sizeEs (l.take (i+1))≤sizeEs l:=by
   have:=sizeEs_append (l.take (i+1)) (l.drop (i+1))
   rw [List.take_append_drop] at this
   omega
  have hq:=ih l[i] hx a1 b1 (hfa _ hx) (by omega) (by omega)
  rw [vE,cE_eq] at hq
  simp only [↓rA,rB,Nat.reduceAdd,Nat.reduceEqDiff,tbCT1,gb,g1,g2,g3,g8,Int.ofNat_lt,hi,List.length_map,getD_map _ _ _ hi,cE_eq]
  refine OkF_with [] _ (List.Perm.refl _) hq ?_
  rintro v bs rs ⟨⟨a2,b2,ha2,hb2,rfl⟩,rfl,rfl⟩
  simp only [↓rA,rB,Nat.reduceEqDiff,gr,g3,g8,hwi]
  refine⟨0,⟨a2,b2,by omega,by omega,rfl,rfl⟩,?_⟩
  first | rfl | exact⟨rfl,rfl⟩
 ·rw [List.take_of_length_le (Nat.le_refl _)] at ha1 hb1
  simp only [↓rA,rB,Nat.reduceAdd,Nat.reduceEqDiff,tbCT1,gb,gr,g1,g2,g3,g8,Int.ofNat_lt,Nat.lt_irrefl,List.length_map]
  exact⟨_,[],[],Le.refl _,List.nil_sublist _,List.nil_sublist _,⟨a1,b1,by omega,by omega,rfl⟩,rfl,rfl⟩
def tbCT2:=(aI (aI (aI (aI Ty.c169 Ty.t156) (aI Ty.t231 Ty.t3)) (aI (aI Ty.t36 Ty.t4) (aI Ty.t60 (aI Ty.t61 Ty.t63)))) (aI (aI (aI Ty.t78 Ty.t80) (aI Ty.t81 (aI Ty.t83 Ty.t85))) (aI (aI Ty.t87 Ty.t88) (aI Ty.t9 (aI Ty.t90 Ty.t92)))))
theorem names12_ok (c:Cat) (hl:c.features.length≤1000000):Ok Tryz.prog 157 [vCat c] [] fun v bs rs=>(∃ l:List Str,l.length≤1000000∧v=lSt l)∧bs=[]∧rs=[]:=by
 refine Ok.of_ex Ty.mixed Tryz.func157 rfl (by simp [Tryz.ntmps157]) (by kernel_rfl) fun F w0 I0=>?_
 simp only [↓rA,rB]
 refine fun b1 h1=>?_;replace h1:=newb h1;try simp only [Nb] at h1
 simp only [↓rA,rB,Tryz.results157]
 refine EX_for Ty.mixed (by kernel_rfl) c.features.length (fun i S=>(∃ (l:List Str) (u:V),l.length≤i∧Le u (lSt l)∧S.σ 3=u)∧S.boxes=[(b1,.c (cCat c))]∧S.rows=[]∧S.σ 1=ptr b1∧S.σ 4=vint i) ⟨0,?_⟩ (fun i S hi ⟨⟨l,u,hli,hu,g3⟩,gb,gr,g1,g4⟩=>?_) (fun S ⟨⟨l,u,hli,hu,g3⟩,gb,gr,g1,g4⟩=>?_)
 ·simp only [rB,Nat.reduceEqDiff]
  exact⟨[],nilS,Nat.le_refl _,Le.nil 1,rfl⟩
 ·have hwi:=wrap_succ (i:=i) (N:=c.features.length) hi (by omega)
  simp only [↓rA,rB,Nat.reduceAdd,Nat.reduceEqDiff,tbCT2,gb,g1,g3,g4,Int.ofNat_lt,hi,List.length_map,getD_map _ _ _ hi,cFtr_eq]
  refine OkF_with [] _ (List.Perm.refl _) (Ok.le (.cons hu (.cons (Le.refl _) .nil)) (put12_ok l _ (by omega))) ?_
  rintro v bs rs ⟨⟨l',hl',rfl⟩,rfl,rfl⟩
  simp only [↓rA,rB,Nat.reduceEqDiff,gr,g1,g4,hwi]
  refine⟨0,⟨l',_,by omega,Le.refl _,rfl⟩,?_⟩
  first | rfl | exact⟨rfl,rfl⟩
 ·simp only [↓rA,rB,Nat.reduceAdd,Nat.reduceEqDiff,tbCT2,gb,gr,g1,g3,g4,Int.ofNat_lt,Nat.lt_irrefl,List.length_map]
  exact⟨_,[],[],hu,List.nil_sublist _,List.nil_sublist _,⟨l,by omega,rfl⟩,rfl,rfl⟩
end Go.Proofs.YtopfanlkbepemaaGreat
set_option linter.unusedSimpArgs false
set_option maxRecDepth 100000
set_option linter.defProp false
namespace Go.Proofs.YtopfanlkbepemaaGreat
open Go.VL Go.Ar Go.Lo Go.Proofs.YtopfanlkbepemaaGreat
def findM (l:List Ftr) (s:Str):Ftr × Bool:=match l with
 | []=>(ftr0,false)
 | x::r=>if x.name=s then (x,true) else findM r s
theorem findM_mem {l:List Ftr} {s:Str}:(findM l s).2=true→(findM l s).1 ∈ l:=by
 induction l with
 | nil=>intro h;cases h
 | cons x r ih =>
  simp only [findM]
  split
  ·intro _;exact List.mem_cons_self
  ·intro h;exact List.mem_cons_of_mem _ (ih h)
theorem findM_no {l:List Ftr} {s:Str}:(findM l s).2=false→(findM l s).1=ftr0:=by
 induction l with
 | nil=>intro _;rfl
 | cons x r ih =>
  simp only [findM]
  split
  ·intro h;cases h
  ·exact ih
def tbCU0:=(aI (aI (aI Ty.t231 (aI Ty.t3 Ty.t4)) (aI Ty.t61 (aI Ty.t81 Ty.t83))) (aI (aI Ty.t85 (aI Ty.t87 Ty.t88)) (aI Ty.t9 (aI Ty.t90 Ty.t92))))
theorem findx_ok (l:List Ftr) (s:Str) (hl:l.length≤1000000):OkP Tryz.prog 181 [vFtrs l,vstr s] (.tup [.agg (cFtr (findM l s).1),vbool (findM l s).2]):=by
 refine Ok.of_ex Ty.mixed Tryz.func181 rfl (by simp [Tryz.ntmps181]) (by kernel_rfl) fun F w0 I0=>?_
 simp only [↓rA,rB,tbCU0]
 refine fun b4 h4=>?_;replace h4:=newb h4;try simp only [Nb] at h4
 simp only [↓rA,rB,Tryz.results181]
 refine EX_for Ty.mixed (by kernel_rfl) l.length (fun i S=>findM (l.drop i) s=findM l s∧S.boxes=[(b4,.c zFt)]∧S.rows=[]∧S.σ 0=vFtrs l∧S.σ 1=vstr s∧S.σ 4=ptr b4∧S.σ 6=vint i) ⟨0,?_⟩ (fun i S hi ⟨hf,gb,gr,g0,g1,g4,g6⟩=>?_) (fun S ⟨hf,gb,gr,g0,g1,g4,g6⟩=>?_)
 ·simp only [rB,Nat.reduceEqDiff,reduceCtorEq]
  try exact rfl
 ·have hwi:=wrap_succ (i:=i) (N:=l.length) hi (by omega)
  rw [List.drop_eq_getElem_cons hi,findM] at hf
  simp only [↓rA,rB,Nat.reduceEqDiff,reduceCtorEq,tbCU0,g0,g1,g6,Int.ofNat_lt,hi,List.length_map,getD_map _ _ _ hi,cFtr_eq l[i]]
  by_cases hc:l[i].name=s
  ·simp only [↓rA,rB,Nat.reduceAdd,Nat.reduceEqDiff,reduceCtorEq,tbCU0,gb,gr,g0,g4,g6,hc,Int.ofNat_lt,hi,List.length_map,getD_map _ _ _ hi,cFtr_eq l[i]]
   rw [if_pos hc] at hf
   refine ret_le (leTup (.cons ?_ (.cons (by rw [← hf];exact Le.refl _) .nil)))
   rw [← hf]
   rw [cFtr_eq,← hc]
   exact Le.refl _
  ·simp only [↓rA,rB,Nat.reduceEqDiff,reduceCtorEq,gb,gr,g0,g1,g4,g6,hwi,hc]
   rw [if_neg hc] at hf
   first | exact⟨0,hf,rfl⟩ | exact⟨0,hf⟩
 ·simp only [↓rA,rB,Nat.reduceAdd,Nat.reduceEqDiff,reduceCtorEq,tbCU0,gb,gr,g0,g4,g6,Int.ofNat_lt,Nat.lt_irrefl,List.length_map]
  rw [List.drop_eq_nil_of_le (Nat.le_refl _),findM] at hf
  refine ret_le (leTup (.cons ?_ (.cons (by rw [← hf];exact Le.refl _) .nil)))
  rw [← hf]
  exact leFtr0
def tbCU1:=(aI (aI (aI (aI Ty.c181 Ty.t156) (aI Ty.t231 Ty.t248)) (aI (aI Ty.t3 Ty.t4) (aI Ty.t60 (aI Ty.t61 Ty.t63)))) (aI (aI (aI Ty.t78 Ty.t80) (aI Ty.t81 (aI Ty.t83 Ty.t85))) (aI (aI Ty.t87 Ty.t88) (aI Ty.t9 (aI Ty.t90 Ty.t92)))))
theorem featurex_ok (c:Cat) (s:Str) (hl:c.features.length≤1000000):OkP Tryz.prog 170 [vCat c,vstr s] (.tup [.agg (cFtr (findM c.features s).1),vbool (findM c.features s).2]):=by
 have hq:=findx_ok c.features s hl
 simp only [cFtr_eq] at hq ⊢
 refine Ok.of_ex Ty.mixed Tryz.func170 rfl (by simp [Tryz.ntmps170]) (by kernel_rfl) fun F w0 I0=>?_
 simp only [↓rA,rB]
 refine fun b2 h2=>?_;replace h2:=newb h2;try simp only [Nb] at h2
 simp only [↓rA,rB,tbCU1]
 refine fun b4 h4=>?_;replace h4:=newb h4;try simp only [Nb] at h4
 have hh:=And.intro h2 h4
 simp only [↓rA,rB,Nat.reduceAdd,Nat.reduceEqDiff,tbCU1,hh]
 refine OkF_of _ hq ?_
 simp only [↓rA,rB,Nat.reduceAdd,Nat.reduceEqDiff,tbCU1,Tryz.results170]
 exact ret_done rfl
def tbCU2:=(aI (aI (aI (aI Ty.c170 Ty.c171) (aI Ty.t156 (aI Ty.t231 Ty.t248))) (aI (aI Ty.t250 (aI Ty.t3 Ty.t36)) (aI Ty.t4 (aI Ty.t60 Ty.t61)))) (aI (aI (aI Ty.t63 Ty.t78) (aI Ty.t80 (aI Ty.t81 Ty.t83))) (aI (aI Ty.t85 (aI Ty.t87 Ty.t88)) (aI Ty.t9 (aI Ty.t90 Ty.t92)))))
theorem next12_ok (n:Nat) (c:Cat) (s:Str) (hn:n≤1000000) (hk:KFit n c):Ok Tryz.prog 158 [vCat c,vstr s] [] fun v bs rs=>(∃ l:List Str,l.length≤100000000∧v=lSt l)∧bs=[]∧rs=[]:=by
 have hl:=Nat.le_trans hk.lf hn
 have hq:=fun s=>featurex_ok c s hl
 have ht:Fit (findM c.features s).1.body∧sizeE (findM c.features s).1.body≤1000000:=by
  cases e:(findM c.features s).2
  ·rw [findM_no e];exact⟨fit0,by decide⟩
  ·have:=findM_mem e
   exact⟨(hk.ff _ this).1.2,hk.sf _ this⟩
 generalize hft:(findM c.features s).1=t at ht
 have hd:=direct_ok t.body [] [] ht.1 (by simp only [List.length_nil];omega) (by simp only [List.length_nil];omega)
 rw [vE,cE_eq] at hd
 have hq1:=hq s
 rw [hft] at hq1
 simp only [cFtr_eq] at hq hq1
 refine Ok.of_exM [(7,1)] Ty.mixed Tryz.func158 rfl (by simp [Tryz.ntmps158]) (by kernel_rfl) fun F w0 I0=>?_
 simp only [↓rA,rB]
 refine fun b2 h2=>?_;replace h2:=newb h2;try simp only [Nb] at h2
 simp only [↓rA,rB,Nat.reduceAdd,Nat.reduceEqDiff,tbCU2]
 refine OkF_of _ hq1 ?_
 simp only [↓rA,rB,Nat.reduceEqDiff,tbCU2]
 refine fun b5 h5=>?_;replace h5:=newb h5;try simp only [Nb] at h5
 have hh:=And.intro h2 h5
 simp only [↓rA,rB,Nat.reduceAdd,Nat.reduceEqDiff,Nat.reduceLeDiff,tbCU2]
 refine OkF_with [] _ (List.Perm.refl _) (Ok.le (.cons (Le.refl _) (.cons (Le.nil 1) (.cons (Le.nil 1) .nil))) hd) ?_
 rintro v bs rs ⟨⟨a,b,ha,hb,rfl⟩,rfl,rfl⟩
 simp only [List.length_nil] at ha hb
 simp only [↓rA,rB,Nat.reduceEqDiff,Tryz.results158]
 refine AWP.nilRow 9 1 9 (by simp only [rB,Nat.reduceEqDiff]) (by decide) ?_
 refine EX_forR Ty.mixed (by kernel_rfl) a.length (fun i S=>∃ y,(∃ l:List Str,l.length≤i∧S.σ 9=.list (some y) 1 (l.map fun s=>[vstr s]))∧S.rows=[⟨y,1,9⟩]∧S.boxes=[(b5,.c (cF t t.body.hd (vEs t.body.args))),(b2,.c (cCat c))]∧S.σ 2=ptr b2∧S.σ 5=ptr b5∧S.σ 7=lSt a∧S.σ 10=vint i) ⟨0,1,nilv,?_⟩ (fun i S hi ⟨y,⟨l,hli,g9⟩,gr,gb,g2,g5,g7,g10⟩=>?_) (fun S ⟨y,⟨l,hli,g9⟩,gr,gb,g2,g5,g7,g10⟩=>?_)
 ·simp only [rB,Nat.reduceEqDiff]
  exact⟨[],Nat.le_refl _,rfl⟩
 ·have hwi:=wrap_succ (i:=i) (N:=a.length) hi (by omega)
  simp only [↓rA,rB,Nat.reduceAdd,Nat.reduceEqDiff,tbCU2,gb,g2,g7,g10,hh,Int.ofNat_lt,hi,List.length_map,getD_map _ _ _ hi]
  refine CallV_of _ (hq _).v ?_
  cases (findM c.features a[i]).2
  ·simp only [↓rA,rB,Nat.reduceEqDiff,tbCU2,gb,gr,List.length_map,getD_map _ _ _ hi]
   refine fun b11 h11=>?_;replace h11:=newb h11;try simp only [Nb] at h11
   have hh:=And.intro hh h11
   simp only [↓rA,rB,Nat.reduceAdd,Nat.reduceEqDiff,tbCU2,gb,gr,g2,g5,g7,g9,g10,hwi,List.length_map,getD_map _ _ _ hi]
   exact⟨1,1,y,⟨l,by omega,rfl⟩,rfl,rfl⟩
  ·simp only [↓rA,rB,Nat.reduceEqDiff,tbCU2,gb,gr,List.length_map,getD_map _ _ _ hi]
   refine fun b11 h11=>?_;replace h11:=newb h11;try simp only [Nb] at h11
   have hh:=And.intro hh h11
   simp only [↓rA,rB,Nat.reduceAdd,Nat.reduceEqDiff,Nat.reduceLT,Nat.reduceLeDiff,Nat.reduceMul,tbCU2,gb,gr,g7,g9,g10,Int.ofNat_lt,hi,List.length_map,getD_map _ _ _ hi]
   intro y1
   refine takeRF_2 ?_
   simp only [↓rA,rB,Nat.reduceEqDiff,g2,g5,g7,g10,hwi,List.length_map,getD_map _ _ _ hi]
   refine⟨(by first | omega | (simp;omega)),fun y2=>?_⟩
   exact⟨1,1,y2,⟨l++[a[i]],by simp;omega,by simp⟩,rfl,rfl⟩
 ·simp only [↓rA,rB,Nat.reduceEqDiff,tbCU2,gb,gr,g7,g9,g10,Int.ofNat_lt,Nat.lt_irrefl,List.length_map]
  exact⟨_,[],[],Le.list _ _ _,List.nil_sublist _,List.nil_sublist _,⟨l,by omega,rfl⟩,rfl,rfl⟩
end Go.Proofs.YtopfanlkbepemaaGreat
set_option linter.unusedSimpArgs false
set_option maxRecDepth 100000
set_option linter.defProp false
namespace Go.Proofs.YtopfanlkbepemaaGreat
open Go.VL Go.Ar Go.Lo Go.Proofs.YtopfanlkbepemaaGreat
abbrev lK (y:Option Value) (g:List Nat):V:=.list y 1 (g.map fun(x:Nat)=>[vint (x:Int)])
def tbCV0:=(aI (aI (aI (aI Ty.c157 Ty.c158) (aI Ty.c159 (aI Ty.t156 Ty.t160))) (aI (aI Ty.t218 (aI Ty.t231 Ty.t3)) (aI Ty.t36 (aI Ty.t4 Ty.t60)))) (aI (aI (aI Ty.t61 (aI Ty.t63 Ty.t78)) (aI Ty.t80 (aI Ty.t81 Ty.t83))) (aI (aI Ty.t85 (aI Ty.t87 Ty.t88)) (aI Ty.t9 (aI Ty.t90 Ty.t92)))))
theorem graph12_ok (n:Nat) (c:Cat) (hn:n≤1000000) (hk:KFit n c):Ok Tryz.prog 138 [vCat c] [] fun v bs rs=>(∃ (l:List Str) (gs:List (List Nat)),l.length≤1000000∧gs.length=l.length∧(∀ g ∈ gs,g.length≤l.length∧∀ x ∈ g,x < l.length)∧v=.tup [lSt l,.list none 1 (gs.map fun g=>[lK none g])])∧bs=[]∧rs=[]:=by
 have hl:=Nat.le_trans hk.lf hn
 refine Ok.of_exM [(6,2)] Ty.mixed Tryz.func138 rfl (by simp [Tryz.ntmps138]) (by kernel_rfl) fun F w0 I0=>?_
 simp only [↓rA,rB]
 refine fun b1 h1=>?_;replace h1:=newb h1;try simp only [Nb] at h1
 simp only [↓rA,rB,Nat.reduceAdd,Nat.reduceEqDiff,tbCV0]
 refine OkF_with [] _ (List.Perm.refl _) (names12_ok c hl) ?_
 rintro v bs rs ⟨⟨l,hll,rfl⟩,rfl,rfl⟩
 simp only [↓rA,rB,Tryz.results138]
 refine AWP.nilRow 5 1 160 (by simp only [rB,Nat.reduceEqDiff]) (by decide) ?_
 refine EX_forW Ty.mixed (by kernel_rfl) l.length (fun i S=>(∃ (z:Value) (gs:List (List Nat)),gs.length=i∧(∀ g ∈ gs,g.length≤l.length∧∀ x ∈ g,x < l.length)∧S.σ 5=.list (some z) 1 (gs.map fun g=>[lK none g])∧S.rows=[⟨z,1,160⟩])∧S.boxes=[(b1,.c (cCat c))]∧S.σ 1=ptr b1∧S.σ 4=lSt l∧S.σ 6=vint i) ⟨5,_,Le.refl _,_,_,List.Sublist.refl _,List.Sublist.refl _,?_⟩ (fun i S hi ⟨⟨z,gs,hg,hgs,g5,gr⟩,gb,g1,g4,g6⟩=>?_) (fun S ⟨⟨z,gs,hg,hgs,g5,gr⟩,gb,g1,g4,g6⟩=>?_)
 ·simp only [rB,Nat.reduceEqDiff]
  exact⟨nilv,[],rfl,(fun g hg=>absurd hg List.not_mem_nil),rfl,rfl⟩
 ·have hwi:=wrap_succ (i:=i) (N:=l.length) hi (by omega)
  simp only [↓rA,rB,Nat.reduceAdd,Nat.reduceEqDiff,reduceCtorEq,tbCV0,gb,g1,g4,g6,Int.ofNat_lt,hi,List.length_map,getD_map _ _ _ hi]
  refine OkR_back (next12_ok n c l[i] hn hk) ?_
  rintro v bs rs ⟨⟨a,ha,rfl⟩,rfl,rfl⟩
  refine⟨rfl,?_⟩
  simp only [↓rA,rB,reduceCtorEq,gr]
  refine AWP.nilRow 8 1 3 (by simp only [rB,Nat.reduceEqDiff]) (by decide) ?_
  refine EX_forS Ty.mixed (by kernel_rfl) l.length (fun j S=>(∃ (y:Value) (g:List Nat),g.length≤j∧(∀ x ∈ g,x < l.length)∧S.σ 8=lK (some y) g∧S.rows=[⟨y,1,3⟩,⟨z,1,160⟩])∧S.boxes=[(b1,.c (cCat c))]∧S.σ 1=ptr b1∧S.σ 4=lSt l∧S.σ 5=.list (some z) 1 (gs.map fun g=>[lK none g])∧S.σ 6=vint i∧S.σ 7=lSt a∧S.σ 9=vint j) ⟨_,_,List.Sublist.refl _,List.Sublist.refl _,?_⟩ (fun j S hj ⟨⟨y,g,hgj,hgl,g8,gr⟩,gb,g1,g4,g5,g6,g7,g9⟩=>?_) (fun S ⟨⟨y,g,hgj,hgl,g8,gr⟩,gb,g1,g4,g5,g6,g7,g9⟩=>?_)
  ·simp only [rB,Nat.reduceEqDiff,gb,g1,g4,g5,g6]
   exact⟨nilv,[],by simp,by simp,rfl,rfl⟩
  ·have hwj:=wrap_succ (i:=j) (N:=l.length) hj (by omega)
   simp only [↓rA,rB,Nat.reduceEqDiff,tbCV0,gb,g4,g7,g9,Int.ofNat_lt,hj,List.length_map,getD_map _ _ _ hj]
   refine OkF_with [] _ (List.Perm.refl _) (in12_ok a l[j] (by omega)) ?_
   rintro v bs rs ⟨⟨t,rfl⟩,rfl,rfl⟩
   cases t
   ·simp only [↓rA,rB,Nat.reduceEqDiff,gr,g9,hwj]
    refine⟨_,_,List.Sublist.refl _,List.Sublist.refl _,?_⟩
    simp only [rB,Nat.reduceEqDiff,g1,g4,g5,g6,g7,g8]
    exact⟨y,g,by omega,hgl,rfl,rfl⟩
   ·simp only [↓rA,rB,Nat.reduceEqDiff,Nat.reduceLT,Nat.reduceLeDiff,Nat.reduceMul,tbCV0,gr,g8,g9]
    intro y1
    refine takeRF_2 ?_
    simp only [↓rA,rB,Nat.reduceEqDiff,gr,g9,hwj,List.length_map]
    refine⟨(by first | omega | (simp;omega)),fun y2=>?_⟩
    refine⟨_,[⟨y2,1,3⟩,⟨z,1,160⟩],List.Sublist.refl _,?_,?_⟩
    ·exact List.Sublist.cons_cons _ (List.Sublist.cons _ (List.Sublist.refl _))
    simp only [rB,Nat.reduceEqDiff,g1,g4,g5,g6,g7]
    refine⟨y2,g++[j],by simp;omega,fun x hx=>?_,by simp,rfl⟩
    rcases List.mem_append.1 hx with hx | hx
    ·exact hgl x hx
    ·rw [List.mem_singleton.1 hx];exact hj
  ·simp only [↓rA,rB,Nat.reduceEqDiff,Nat.reduceLT,Nat.reduceLeDiff,Nat.reduceMul,tbCV0,gr,g4,g5,g8,g9,Int.ofNat_lt,Nat.lt_irrefl,List.length_map]
   intro y1
   refine takeRF_at (l1:=[⟨y1,1,160⟩,⟨y,1,3⟩]) ?_
   simp only [↓rA,rB,Nat.reduceEqDiff,g6,hwi,List.length_map,hg]
   refine⟨(by first | omega | (simp;omega)),fun y2=>?_⟩
   refine⟨5,.list (some y2) 1 ((gs++[g]).map fun g=>[lK none g]),?_,_,[⟨y2,1,160⟩],List.Sublist.refl _,List.Sublist.cons_cons _ (List.nil_sublist _),?_⟩
   ·simp only [rB,Nat.reduceEqDiff]
    rw [List.map_append]
    exact Le.rows (LeR.append (LeR.same _) (.cons (.cons (Le.list _ _ _) .nil) .nil))
   simp only [rB,Nat.reduceEqDiff,gb,g1,g4]
   refine⟨y2,gs++[g],by simp [hg],fun x hx=>?_,rfl,rfl⟩
   rcases List.mem_append.1 hx with hx | hx
   ·exact hgs x hx
   ·rw [List.mem_singleton.1 hx];exact⟨hgj,hgl⟩
 ·simp only [↓rA,rB,Nat.reduceEqDiff,tbCV0,gb,gr,g4,g5,g6,Int.ofNat_lt,Nat.lt_irrefl,List.length_map]
  exact⟨_,[],[],leTup (.cons (Le.refl _) (.cons (Le.list _ _ _) .nil)),List.nil_sublist _,List.nil_sublist _,⟨l,gs,hll,hg,hgs,rfl⟩,rfl,rfl⟩
end Go.Proofs.YtopfanlkbepemaaGreat
set_option linter.unusedSimpArgs false
set_option maxRecDepth 100000
namespace Go.Lo
def candM (gs:List (List Nat)) (t:Nat) (d:List Int) (i k:Nat):Int :=
 let x:=(gs.getD i []).getD k 0
 if x=t then 1 else d.getD x 0+1
def sumD (d:List Int):Nat:=match d with
 | []=>0
 | x::r=>x.toNat+sumD r
structure Dis (gs:List (List Nat)) (t:Nat) (d:List Int):Prop where
 len:d.length=gs.length
 lo:∀ i,i < gs.length→1≤d.getD i 0∧d.getD i 0≤1000
 wit:∀ i,i < gs.length→d.getD i 0=1000∨∃ k,k < (gs.getD i []).length∧candM gs t d i k≤d.getD i 0
def Fixd (gs:List (List Nat)) (t:Nat) (d:List Int) (i:Nat):Prop:=∀ k,k < (gs.getD i []).length→d.getD i 0≤candM gs t d i k
theorem dSet_same {d:List Int} {i:Nat} {v:Int} (h:i < d.length):(d.set i v).getD i 0=v:=by
 simp [List.getD_eq_getElem?_getD,h]
theorem dSet_ne {d:List Int} {i j:Nat} {v:Int} (h:i ≠ j):(d.set i v).getD j 0=d.getD j 0:=by
 simp [List.getD_eq_getElem?_getD,List.getElem?_set_ne h]
theorem sumD_set:∀ {d:List Int} {i:Nat} {v:Int},i < d.length→0≤v→v < d.getD i 0→sumD (d.set i v) < sumD d
 | x::r,0,v,_,h0,hv=>by
  simp only [List.set_cons_zero,sumD]
  have:v < x:=hv
  omega
 | x::r,i+1,v,hi,h0,hv=>by
  simp only [List.set_cons_succ,sumD]
  have:=sumD_set (d:=r) (i:=i) (by simpa using hi) h0 (by simpa using hv)
  omega
theorem candM_le {gs:List (List Nat)} {t:Nat} {d:List Int} {i j k:Nat} {v:Int} (h:v≤d.getD i 0) (hi:i < d.length):candM gs t (d.set i v) j k≤candM gs t d j k:=by
 simp only [candM]
 split
 ·exact Int.le_refl _
 ·rename_i hx
  by_cases e:i=(gs.getD j []).getD k 0
  ·rw [← e,dSet_same hi];omega
  ·rw [dSet_ne e];exact Int.le_refl _
theorem Dis.step {gs:List (List Nat)} {t:Nat} {d:List Int} (h:Dis gs t d) {i k:Nat} (hi:i < gs.length) (hk:k < (gs.getD i []).length) (hr:∀ g ∈ gs,∀ x ∈ g,x < gs.length) (hv:candM gs t d i k < d.getD i 0):Dis gs t (d.set i (candM gs t d i k))∧sumD (d.set i (candM gs t d i k)) < sumD d:=by
 have hid:i < d.length:=by rw [h.len];exact hi
 have h1:1≤candM gs t d i k:=by
  simp only [candM]
  split
  ·exact Int.le_refl _
  ·have hg:gs.getD i [] ∈ gs:=by
    rw [List.getD_eq_getElem?_getD,List.getElem?_eq_getElem hi];exact List.getElem_mem hi
   have hx:(gs.getD i []).getD k 0 < gs.length:=hr _ hg _ (by
    rw [List.getD_eq_getElem?_getD (l:=gs.getD i []),List.getElem?_eq_getElem hk];exact List.getElem_mem hk)
   have:=(h.lo _ hx).1
   omega
 refine⟨⟨by rw [List.length_set];exact h.len,fun j hj=>?_,fun j hj=>?_⟩,sumD_set hid (by omega) hv⟩
 ·by_cases e:i=j
  ·subst e
   rw [dSet_same hid]
   have:=(h.lo i hi).2
   omega
  ·rw [dSet_ne e];exact h.lo j hj
 ·by_cases e:i=j
  ·subst e
   rw [dSet_same hid]
   exact .inr ⟨k,hk,candM_le (Int.le_of_lt hv) hid⟩
  ·rw [dSet_ne e]
   rcases h.wit j hj with h2 | ⟨k',hk',h2⟩
   ·exact .inl h2
   ·exact .inr ⟨k',hk',Int.le_trans (candM_le (Int.le_of_lt hv) hid) h2⟩
end Go.Lo
namespace Go.Proofs.YtopfanlkbepemaaGreat
open Go.VL Go.Ar Go.Lo Go.Proofs.YtopfanlkbepemaaGreat
abbrev lG (gs:List (List Nat)):V:=.list none 1 (gs.map fun g=>[lK none g])
end Go.Proofs.YtopfanlkbepemaaGreat
set_option linter.unusedSimpArgs false
set_option maxRecDepth 100000
set_option linter.defProp false
namespace Go.Lo
theorem dis0 {gs:List (List Nat)} {t:Nat} {d:List Int} (hl:d.length=gs.length) (h:∀ i,i < gs.length→d.getD i 0=1000):Dis gs t d :=
 ⟨hl,fun i hi=>by rw [h i hi];decide,fun i hi=>.inl (h i hi)⟩
end Go.Lo
namespace Go.Proofs.YtopfanlkbepemaaGreat
open Go.VL Go.Ar Go.Lo Go.Proofs.YtopfanlkbepemaaGreat
theorem rep_flat (n:Nat):(List.replicate n [vint 0]).flatten=(List.replicate n (0:Int)).map vint:=by
 induction n with
 | zero=>rfl
 | succ n ih=>simp only [List.replicate_succ,List.flatten_cons,ih,List.map_cons];rfl
theorem dropV {d:List Int} {x:Nat} (h:x < d.length):(d.map vint).drop (x * 1)=vint d[x]::(d.map vint).drop (x+1):=by
 rw [Nat.mul_one,List.drop_eq_getElem_cons (by simpa using h),List.getElem_map]
theorem setV {d:List Int} {i:Nat} (h:i < d.length) (v:Int):(d.map vint).take (i * 1)++[vint v]++(d.map vint).drop (i * 1+1)=(d.set i v).map vint:=by
 obtain⟨A,B,hA,e1,e2⟩:=split_at h
 rw [e1,e2,cutM (by omega)]
theorem dGet {d:List Int} {i:Nat} (h:i < d.length):d.getD i 0=d[i]:=by simp [List.getD_eq_getElem?_getD,h]
def tbCX0:=(aI (aI Ty.t160 Ty.t218) (aI Ty.t3 Ty.t4))
set_option maxHeartbeats 1000000 in
theorem steps_ok (gs:List (List Nat)) (t:Nat) (hN:gs.length≤1000000) (hr:∀ g ∈ gs,∀ x ∈ g,x < gs.length) (hg:∀ g ∈ gs,g.length≤gs.length):Ok Tryz.prog 139 [lG gs,vint t] [] fun v bs rs =>
  (∃ (y:Option Value) (d:List Int),v=lI y d∧Dis gs t d∧∀ i,i < gs.length→Fixd gs t d i)∧bs=[]∧rs=[]:=by
 refine Ok.freeze (Q:=fun v bs rs=>(∃ (b:Nat) (d:List Int),v=slI b gs.length gs.length∧bs=[(b,.c (d.map vint))]∧Dis gs t d∧∀ i,i < gs.length→Fixd gs t d i)∧rs=[]) ?_ fun v bs rs h=>?_
 case refine_2 =>
  obtain⟨⟨b,d,rfl,rfl,h1,h2⟩,rfl⟩:=h
  refine .inr ⟨b,gs.length,gs.length,1,_,d.map fun x=>[vint x],[],_,List.Perm.refl _,?_,.here,⟨_,d,rfl,h1,h2⟩,rfl,rfl⟩
  have:=bi_frozen (g:=b) (rest:=[]) h1.len (Nat.le_refl _)
  rwa [List.append_nil] at this
 refine Ok.of_ex Ty.mixed Tryz.func139 rfl (by simp [Tryz.ntmps139]) (by kernel_rfl) fun F w0 I0=>?_
 simp only [↓rA,rB,Nat.reduceLT,reduceCtorEq,tbCX0,List.length_map,Int.toNat_natCast]
 refine⟨⟨by omega,by omega⟩,?_⟩
 refine fun b hb=>?_;replace hb:=newb hb;try simp only [Nb] at hb
 simp only [↓rA,rB,Tryz.results139,List.length_map]
 have hc0:(List.replicate gs.length (List.map V.lit [Value.int IntKind.i64 0])).flatten=(List.replicate gs.length (0:Int)).map vint:=rep_flat _
 have hby:gs.length * 8≤140737488355328:=by omega
 refine EX_for Ty.mixed (by kernel_rfl) gs.length (fun i S=>(∃ es:List Int,es.length=gs.length∧(∀ j,j < i→es.getD j 0=1000)∧S.boxes=[(b,.c (es.map vint))])∧S.rows=[]∧S.σ 0=lG gs∧S.σ 1=vint t∧S.σ 5=slI b gs.length gs.length∧S.σ 6=vint i) ⟨0,?_⟩ (fun i S hi ⟨⟨es,he,hes,gb⟩,gr,g0,g1,g5,g6⟩=>?_) (fun S ⟨⟨es,he,hes,gb⟩,gr,g0,g1,g5,g6⟩=>?_)
 ·simp only [rB,Nat.reduceEqDiff,reduceCtorEq]
  exact⟨List.replicate gs.length 0,by simp,fun j hj=>absurd hj (Nat.not_lt_zero j),by rw [← rep_flat]⟩
 ·have hwi:=wrap_succ (i:=i) (N:=gs.length) hi (by omega)
  have hie:i < es.length:=by omega
  obtain⟨A,B,hA,e1,e2⟩:=split_at hie
  have hA1:A.length=i * 1:=by omega
  rw [e1] at gb
  simp only [↓rA,rB,Nat.reduceEqDiff,reduceCtorEq,tbCX0,gb,gr,g0,g1,g5,g6,hwi,Int.ofNat_lt,hi,List.length_map]
  refine⟨by rw [List.length_append,List.length_cons];omega,0,es.set i 1000,by rw [List.length_set];exact he,fun j hj=>?_,?_⟩
  ·by_cases e:i=j
   ·subst e;exact dSet_same hie
   ·rw [dSet_ne e];exact hes j (by omega)
  ·rw [List.drop_zero,e2,cutM hA1]
 ·simp only [↓rA,rB,Nat.reduceEqDiff,reduceCtorEq,tbCX0,g0,g6,Int.ofNat_lt,Nat.lt_irrefl,List.length_map]
  have hD:Dis gs t es:=dis0 he hes
  refine EX_while Ty.mixed (by kernel_rfl) (fun x:List Int × Bool=>2 * sumD x.1+bif x.2 then 1 else 0) (fun(x:List Int × Bool) S=>Dis gs t x.1∧(x.2=false→∀ i,i < gs.length→Fixd gs t x.1 i)∧S.boxes=[(b,.c (x.1.map vint))]∧S.rows=[]∧S.σ 0=lG gs∧S.σ 1=vint t∧S.σ 5=slI b gs.length gs.length∧S.σ 7=vbool x.2) (es,true) ⟨0,?_⟩ (fun⟨d,ch⟩ S ⟨hD,hF,gb,gr,g0,g1,g5,g7⟩=>?_)
  ·simp only [rB,Nat.reduceEqDiff,reduceCtorEq,gb,gr,g0,g1,g5]
   exact⟨hD,by simp⟩
  ·cases ch
   ·simp only [↓rA,rB,Nat.reduceEqDiff,gb,gr,g5,g7]
    exact⟨_,[_],[],Le.refl _,List.Sublist.refl _,List.nil_sublist _,⟨b,d,rfl,rfl,hD,hF rfl⟩,rfl⟩
   ·simp only [↓rA,rB,g7]
    refine EX_for Ty.mixed (by kernel_rfl) gs.length (fun i S=>∃ (d':List Int) (ch:Bool),Dis gs t d'∧sumD d'≤sumD d∧(ch=true→sumD d' < sumD d)∧(ch=false→d'=d∧∀ j,j < i→Fixd gs t d j)∧S.boxes=[(b,.c (d'.map vint))]∧S.rows=[]∧S.σ 0=lG gs∧S.σ 1=vint t∧S.σ 5=slI b gs.length gs.length∧S.σ 7=vbool ch∧S.σ 8=vint i) ⟨0,?_⟩ (fun i S hi ⟨d',ch,hD',hs1,hs2,hs3,gb,gr,g0,g1,g5,g7,g8⟩=>?_) (fun S ⟨d',ch,hD',hs1,hs2,hs3,gb,gr,g0,g1,g5,g7,g8⟩=>?_)
    ·simp only [rB,Nat.reduceEqDiff,reduceCtorEq,gb,gr,g0,g1,g5]
     exact⟨d,false,hD,Nat.le_refl _,(fun h=>by cases h),fun _=>⟨rfl,fun j hj=>absurd hj (Nat.not_lt_zero j)⟩,rfl,rfl⟩
    ·have hwi:=wrap_succ (i:=i) (N:=gs.length) hi (by omega)
     have hgi:gs.getD i []=gs[i]:=by simp [List.getD_eq_getElem?_getD,hi]
     have hgm:=List.getElem_mem hi
     have hgl:=hg _ hgm
     have hgx:=hr _ hgm
     generalize hgg:gs[i]=g at hgi hgl hgx
     simp only [↓rA,rB,Nat.reduceEqDiff,reduceCtorEq,tbCX0,g0,g8,Int.ofNat_lt,hi,List.length_map]
     refine EX_for Ty.mixed (by kernel_rfl) g.length (fun k S=>∃ (d':List Int) (ch:Bool),Dis gs t d'∧sumD d'≤sumD d∧(ch=true→sumD d' < sumD d)∧(ch=false→d'=d∧(∀ j,j < i→Fixd gs t d j)∧∀ k',k' < k→d.getD i 0≤candM gs t d i k')∧S.boxes=[(b,.c (d'.map vint))]∧S.rows=[]∧S.σ 0=lG gs∧S.σ 1=vint t∧S.σ 5=slI b gs.length gs.length∧S.σ 7=vbool ch∧S.σ 8=vint i∧S.σ 9=vint k) ⟨0,?_⟩ (fun k S hk ⟨d',ch,hD',hs1,hs2,hs3,gb,gr,g0,g1,g5,g7,g8,g9⟩=>?_) (fun S ⟨d',ch,hD',hs1,hs2,hs3,gb,gr,g0,g1,g5,g7,g8,g9⟩=>?_)
     ·simp only [rB,Nat.reduceEqDiff,reduceCtorEq,gb,gr,g0,g1,g5,g7,g8]
      exact⟨d',ch,hD',hs1,hs2,(fun h=>⟨(hs3 h).1,(hs3 h).2,fun k' hk'=>absurd hk' (Nat.not_lt_zero k')⟩),rfl,rfl⟩
     ·have hwk:=wrap_succ (i:=k) (N:=g.length) hk (by omega)
      have hxm:=List.getElem_mem hk
      have hx:=hgx _ hxm
      generalize hxg:g[k]=x at hx
      have hxd:x < d'.length:=by rw [hD'.len];exact hx
      have hid:i < d'.length:=by rw [hD'.len];exact hi
      have hcx:(gs.getD i []).getD k 0=x:=by rw [hgi,← hxg];simp [List.getD_eq_getElem?_getD,hk]
      have hlx:=hD'.lo x hx
      have hli:=hD'.lo i hi
      rw [dGet hxd] at hlx
      rw [dGet hid] at hli
      have hw1:IntKind.i64.wrap (d'[x]+1)=d'[x]+1:=wrap_id (by omega) (by omega)
      have hgk:k < (gs.getD i []).length:=by rw [hgi];exact hk
      have hcand:candM gs t d' i k=if x=t then 1 else d'[x]+1:=by
       simp only [candM];rw [hcx,dGet hxd]
      have fin0:¬ candM gs t d' i k < d'[i]→ch=false→d'=d∧(∀ j,j < i→Fixd gs t d j)∧∀ k',k' < k+1→d.getD i 0≤candM gs t d i k':=fun h hch=>by
       obtain⟨q1,q2,q3⟩:=hs3 hch
       refine⟨q1,q2,fun k' hk'=>?_⟩
       by_cases e:k'=k
       ·subst e
        rw [← q1,dGet hid];omega
       ·exact q3 k' (by omega)
      have F:=And.intro hw1 (And.intro (dropV hxd) (dropV hid))
      by_cases ht:x=t
      ·have htI:((x:Int)=(t:Int))=True:=eq_true (by omega)
       rw [if_pos ht] at hcand
       by_cases hlt:1 < d'[i]
       ·simp only [↓rA,rB,Nat.reduceEqDiff,reduceCtorEq,tbCX0,gb,gr,g0,g1,g5,g8,g9,Int.ofNat_lt,hi,hk,hx,hgg,hxg,List.length_map,getD_map _ _ _ hi,getD_map _ _ _ hk,F,htI,hlt,hwk,hD'.len]
        have hst:=hD'.step hi hgk hr (by rw [hcand,dGet hid];exact hlt)
        rw [hcand] at hst
        refine⟨by omega,0,_,true,hst.1,by omega,(fun _=>by omega),(fun h=>by cases h),?_,rfl⟩
        rw [List.drop_zero,← setV hid]
       ·simp only [↓rA,rB,Nat.reduceEqDiff,reduceCtorEq,tbCX0,gb,gr,g0,g1,g5,g7,g8,g9,Int.ofNat_lt,hi,hk,hx,hgg,hxg,List.length_map,getD_map _ _ _ hi,getD_map _ _ _ hk,F,htI,hlt,hwk]
        exact⟨0,d',ch,hD',hs1,hs2,fin0 (by rw [hcand];exact hlt),rfl,rfl⟩
      ·have htI:((x:Int)=(t:Int))=False:=eq_false (by omega)
       rw [if_neg ht] at hcand
       by_cases hlt:d'[x]+1 < d'[i]
       ·simp only [↓rA,rB,Nat.reduceEqDiff,reduceCtorEq,tbCX0,gb,gr,g0,g1,g5,g8,g9,Int.ofNat_lt,hi,hk,hx,hgg,hxg,List.length_map,getD_map _ _ _ hi,getD_map _ _ _ hk,F,htI,hlt,hwk,hD'.len]
        have hst:=hD'.step hi hgk hr (by rw [hcand,dGet hid];exact hlt)
        rw [hcand] at hst
        refine⟨by omega,0,_,true,hst.1,by omega,(fun _=>by omega),(fun h=>by cases h),?_,rfl⟩
        rw [List.drop_zero,← setV hid]
       ·simp only [↓rA,rB,Nat.reduceEqDiff,reduceCtorEq,tbCX0,gb,gr,g0,g1,g5,g7,g8,g9,Int.ofNat_lt,hi,hk,hx,hgg,hxg,List.length_map,getD_map _ _ _ hi,getD_map _ _ _ hk,F,htI,hlt,hwk]
        exact⟨0,d',ch,hD',hs1,hs2,fin0 (by rw [hcand];exact hlt),rfl,rfl⟩
     ·simp only [↓rA,rB,Nat.reduceEqDiff,reduceCtorEq,tbCX0,gb,gr,g0,g1,g5,g7,g8,g9,hwi,hi,hgg,Int.ofNat_lt,Nat.lt_irrefl,List.length_map,getD_map _ _ _ hi]
      refine⟨0,d',ch,hD',hs1,hs2,fun h=>?_,rfl,rfl⟩
      obtain⟨q1,q2,q3⟩:=hs3 h
      refine⟨q1,fun j hj=>?_⟩
      by_cases e:j=i
      ·subst e
       exact fun k' hk'=>q3 k' (by rw [hgi] at hk';exact hk')
      ·exact q2 j (by omega)
    ·simp only [↓rA,rB,Nat.reduceEqDiff,reduceCtorEq,tbCX0,gb,gr,g0,g1,g5,g7,g8,Int.ofNat_lt,Nat.lt_irrefl,List.length_map]
     refine⟨(d',ch),?_,0,hD',fun h=>?_,rfl,rfl⟩
     ·cases ch
      ·have:=(hs3 rfl).1
       subst this
       simp
      ·have:=hs2 rfl
       simp only [cond_true]
       omega
     ·obtain⟨q1,q2⟩:=hs3 h
      subst q1
      exact q2
end Go.Proofs.YtopfanlkbepemaaGreat
set_option linter.unusedSimpArgs false
set_option maxRecDepth 100000
set_option linter.defProp false
namespace Go.Lo
theorem Dis.le {gs:List (List Nat)} {t:Nat} {d d':List Int} (h:Dis gs t d) (h':Dis gs t d') (hf:∀ i,i < gs.length→Fixd gs t d' i) (hr:∀ g ∈ gs,∀ x ∈ g,x < gs.length):∀ (n:Nat) (i:Nat),i < gs.length→d.getD i 0≤n→d'.getD i 0≤d.getD i 0
 | 0,i,hi,hn=>by have:=(h.lo i hi).1;omega
 | n+1,i,hi,hn=>by
  rcases h.wit i hi with h1 | ⟨k,hk,h1⟩
  ·rw [h1];exact(h'.lo i hi).2
  ·have h2:=hf i hi k hk
   refine Int.le_trans h2 (Int.le_trans ?_ h1)
   simp only [candM] at h1 ⊢
   split
   ·exact Int.le_refl _
   ·rename_i hx
    rw [if_neg hx] at h1
    have hg:gs.getD i [] ∈ gs:=by
     rw [List.getD_eq_getElem?_getD,List.getElem?_eq_getElem hi];exact List.getElem_mem hi
    have hxl:(gs.getD i []).getD k 0 < gs.length:=hr _ hg _ (by
     rw [List.getD_eq_getElem?_getD (l:=gs.getD i []),List.getElem?_eq_getElem hk];exact List.getElem_mem hk)
    have:=Dis.le h h' hf hr n _ hxl (by omega)
    omega
theorem Dis.eq {gs:List (List Nat)} {t:Nat} {d d':List Int} (h:Dis gs t d) (h':Dis gs t d') (hf:∀ i,i < gs.length→Fixd gs t d i) (hf':∀ i,i < gs.length→Fixd gs t d' i) (hr:∀ g ∈ gs,∀ x ∈ g,x < gs.length) {i:Nat} (hi:i < gs.length):d.getD i 0=d'.getD i 0 :=
 Int.le_antisymm (Dis.le h' h hf hr 1000 i hi (h'.lo i hi).2) (Dis.le h h' hf' hr 1000 i hi (h.lo i hi).2)
theorem Dis.next {gs:List (List Nat)} {t:Nat} {d:List Int} (h:Dis gs t d) (hf:∀ i,i < gs.length→Fixd gs t d i) {i:Nat} (hi:i < gs.length) {m:Int} (hm:0 < m) (hm':m < 999) (hd:d.getD i 0=m+1):∃ k,k < (gs.getD i []).length∧d.getD ((gs.getD i []).getD k 0) 0=m:=by
 rcases h.wit i hi with h1 | ⟨k,hk,h1⟩
 ·omega
 ·have h2:=hf i hi k hk
  refine⟨k,hk,?_⟩
  simp only [candM] at h1 h2
  split at h1
  ·omega
  ·rename_i hx
   rw [if_neg hx] at h2
   omega
end Go.Lo
namespace Go.Proofs.YtopfanlkbepemaaGreat
open Go.VL Go.Ar Go.Lo Go.Proofs.YtopfanlkbepemaaGreat
def tbCY0:=(aI (aI (aI (aI Ty.c138 Ty.c139) (aI Ty.t156 (aI Ty.t160 Ty.t218))) (aI (aI Ty.t219 (aI Ty.t231 Ty.t3)) (aI Ty.t36 (aI Ty.t4 Ty.t60)))) (aI (aI (aI Ty.t61 (aI Ty.t63 Ty.t78)) (aI Ty.t80 (aI Ty.t81 Ty.t83))) (aI (aI Ty.t85 (aI Ty.t87 Ty.t88)) (aI Ty.t9 (aI Ty.t90 Ty.t92)))))
set_option maxHeartbeats 1000000 in
theorem cycle_ok (n:Nat) (c:Cat) (hn:n≤1000000) (hk:KFit n c):Ok Tryz.prog 105 [vCat c] [] fun v bs rs=>(∃ l:List Str,l.length≤1001∧v=lSt l)∧bs=[]∧rs=[]:=by
 refine Ok.of_ex Ty.mixed Tryz.func105 rfl (by simp [Tryz.ntmps105]) (by kernel_rfl) fun F w0 I0=>?_
 simp only [↓rA,rB]
 refine fun b1 h1=>?_;replace h1:=newb h1;try simp only [Nb] at h1
 simp only [↓rA,rB,Nat.reduceAdd,Nat.reduceEqDiff,tbCY0]
 refine OkF_with [] _ (List.Perm.refl _) (graph12_ok n c hn hk) ?_
 rintro v bs rs ⟨⟨l,gs,hll,hgl,hgs,rfl⟩,rfl,rfl⟩
 have hr:∀ g ∈ gs,∀ x ∈ g,x < gs.length:=fun g hg x hx=>by rw [hgl];exact(hgs g hg).2 x hx
 have hg:∀ g ∈ gs,g.length≤gs.length:=fun g hg=>by rw [hgl];exact(hgs g hg).1
 have hN:gs.length≤1000000:=by omega
 clear hgs
 simp only [↓rA,rB,Nat.reduceEqDiff,Tryz.results105]
 refine EX_for Ty.mixed (by kernel_rfl) l.length (fun i S=>((S.σ 5=vint (-1)∧S.σ 6=vint 1000)∨∃ (a:Nat) (m:Int) (d:List Int),a < gs.length∧Dis gs a d∧(∀ i,i < gs.length→Fixd gs a d i)∧d.getD a 0=m∧m < 1000∧S.σ 5=vint a∧S.σ 6=vint m)∧S.boxes=[(b1,.c (cCat c))]∧S.rows=[]∧S.σ 3=lSt l∧S.σ 4=lG gs∧S.σ 7=vint i) ⟨0,?_⟩ (fun i S hi ⟨hbest,gb,gr,g3,g4,g7⟩=>?_) (fun S ⟨hbest,gb,gr,g3,g4,g7⟩=>?_)
 ·simp only [rB,Nat.reduceEqDiff]
  try exact .inl ⟨rfl,rfl⟩
 ·have hwi:=wrap_succ (i:=i) (N:=l.length) hi (by omega)
  have hig:i < gs.length:=by omega
  simp only [↓rA,rB,Nat.reduceEqDiff,tbCY0,gb,g3,g4,g7,Int.ofNat_lt,hi,List.length_map]
  refine OkF_with [] _ (List.Perm.refl _) (steps_ok gs i hN hr hg) ?_
  rintro v bs rs ⟨⟨y,d,rfl,hD,hF⟩,rfl,rfl⟩
  have hid:i < d.length:=by rw [hD.len];exact hig
  have hb6:∃ m5 m6:Int,m6≤1000∧S.σ 5=vint m5∧S.σ 6=vint m6:=by
   rcases hbest with⟨q1,q2⟩ | ⟨a,m,d,_,_,_,_,hm,q1,q2⟩
   ·exact⟨_,_,by decide,q1,q2⟩
   ·exact⟨_,_,by omega,q1,q2⟩
  obtain⟨m5,m6,hm6,g5,g6⟩:=hb6
  rw [g5,g6] at hbest
  by_cases hlt:d[i] < m6
  ·simp only [↓rA,rB,Nat.reduceEqDiff,tbCY0,gr,g3,g4,g6,g7,Int.ofNat_lt,hid,List.length_map,getD_map _ _ _ hid,hlt,hwi]
   refine⟨0,.inr ⟨i,d[i],d,hig,hD,hF,dGet hid,by omega,rfl,rfl⟩,?_⟩
   rfl
  ·simp only [↓rA,rB,Nat.reduceEqDiff,tbCY0,gr,g3,g4,g5,g6,g7,Int.ofNat_lt,hid,List.length_map,getD_map _ _ _ hid,hlt,hwi]
   refine⟨0,hbest,?_⟩
   rfl
 ·rcases hbest with⟨g5,g6⟩ | ⟨a,m,d,ha,hD,hF,hm,hm1,g5,g6⟩
  ·simp only [↓rA,rB,Int.reduceLT,Nat.reduceEqDiff,tbCY0,gb,gr,g3,g5,g7,Int.ofNat_lt,Nat.lt_irrefl,List.length_map]
   exact⟨_,[],[],Le.nil 1,List.nil_sublist _,List.nil_sublist _,⟨[],by simp,rfl⟩,rfl,rfl⟩
  ·have ha0:¬ (a:Int) < 0:=by omega
   simp only [↓rA,rB,Nat.reduceEqDiff,tbCY0,gb,g3,g4,g5,g7,Int.ofNat_lt,Nat.lt_irrefl,List.length_map,ha0]
   refine OkF_with [] _ (List.Perm.refl _) (steps_ok gs a hN hr hg) ?_
   rintro v bs rs ⟨⟨y,d',rfl,hD',hF'⟩,rfl,rfl⟩
   have hm':d'.getD a 0=m:=by rw [← hm];exact Dis.eq hD' hD hF' hF hr ha
   have hal:a < l.length:=by omega
   have h1m:=(hD'.lo a ha).1
   rw [hm'] at h1m
   have hwm:IntKind.i64.wrap (m - 1)=(((m - 1).toNat:Nat):Int):=by rw [wrap_id (by omega) (by omega)];omega
   simp only [↓rA,rB,Nat.reduceEqDiff,Nat.reduceLT,Nat.reduceLeDiff,Nat.reduceMul,tbCY0,gr,g3,g5,g6,Int.ofNat_lt,hal,List.length_map,getD_map _ _ _ hal,hwm]
   intro y1
   refine EX_whileS Ty.mixed (by kernel_rfl) (fun x:Nat × Nat=>x.1) (fun(x:Nat × Nat) S=>x.2 < gs.length∧x.1≤998∧(0 < x.1→d'.getD x.2 0=x.1+1)∧(∃ (z:Value) (w:List Str),w.length+x.1≤1000∧S.σ 10=.list (some z) 1 (w.map fun s=>[vstr s])∧S.rows=[⟨z,1,9⟩])∧S.boxes=[(b1,.c (cCat c))]∧S.σ 3=lSt l∧S.σ 4=lG gs∧S.σ 9=lI y d'∧S.σ 11=vint x.2∧S.σ 12=vint x.1) ((m - 1).toNat,a) ⟨_,_,List.Sublist.refl _,List.Sublist.refl _,?_⟩ (fun⟨q,a⟩ S ⟨ha,hq,hda,⟨z,w,hw,g10,gr⟩,gb,g3,g4,g9,g11,g12⟩=>?_)
   ·simp only [rB,Nat.reduceEqDiff,g3,g4]
    refine⟨ha,by omega,fun _=>by omega,y1,[l[a]],by simp;omega,rfl,rfl⟩
   ·simp only at ha hq hda hw g11 g12
    by_cases hq0:0 < q
    case neg =>
     have hq0':¬ (0:Int) < (q:Int):=by omega
     simp only [↓rA,rB,Nat.reduceEqDiff,gb,gr,g10,g12,hq0']
     exact⟨_,[],[],Le.list _ _ _,List.nil_sublist _,List.nil_sublist _,⟨w,by omega,rfl⟩,rfl,rfl⟩
    have hq0':(0:Int) < (q:Int):=by omega
    obtain⟨k0,hk0,hk1⟩:=hD'.next hF' ha (m:=(q:Int)) hq0' (by omega) (hda hq0)
    have hgi:gs.getD a []=gs[a]:=by simp [List.getD_eq_getElem?_getD,ha]
    have hgm:=List.getElem_mem ha
    have hgx:=hr _ hgm
    have hgl2:=hg _ hgm
    rw [hgi] at hk0 hk1
    generalize hgg:gs[a]=g at hgx hk0 hk1 hgl2
    simp only [↓rA,rB,g12,hq0']
    refine EX_while Ty.mixed (by kernel_rfl) (fun j:Nat=>k0 - j) (fun j S=>j≤k0∧S.σ 10=.list (some z) 1 (w.map fun s=>[vstr s])∧S.rows=[⟨z,1,9⟩]∧S.boxes=[(b1,.c (cCat c))]∧S.σ 3=lSt l∧S.σ 4=lG gs∧S.σ 9=lI y d'∧S.σ 11=vint a∧S.σ 12=vint q∧S.σ 13=vint j) 0 ⟨0,?_⟩ (fun j S ⟨hj,g10,gr,gb,g3,g4,g9,g11,g12,g13⟩=>?_)
    ·simp only [rB,Nat.reduceEqDiff,gb,gr,g3,g4,g9,g10,g11,g12]
     first | done | exact⟨Nat.zero_le _,rfl⟩
    ·have hjg:j < g.length:=by omega
     have hwj:=wrap_succ (i:=j) (N:=g.length) hjg (by omega)
     have hwq:IntKind.i64.wrap ((q:Int) - 1)=((q - 1:Nat):Int):=by rw [wrap_id (by omega) (by omega)];omega
     have hx:=hgx _ (List.getElem_mem hjg)
     have hjx:g.getD j 0=g[j]:=by simp [List.getD_eq_getElem?_getD,hjg]
     generalize hxg:g[j]=x at hx hjx
     have hxd:x < d'.length:=by rw [hD'.len];exact hx
     have hxl:x < l.length:=by omega
     by_cases hc:d'[x]=(q:Int)
     ·simp only [↓rA,rB,Nat.reduceEqDiff,Nat.reduceLT,Nat.reduceLeDiff,Nat.reduceMul,tbCY0,gr,g3,g4,g9,g10,g11,g12,g13,Int.ofNat_lt,ha,hjg,hxd,hxl,hgg,hxg,List.length_map,getD_map _ _ _ ha,getD_map _ _ _ hjg,getD_map _ _ _ hxd,getD_map _ _ _ hxl,hc]
      intro y1
      refine takeRF_2 ?_
      simp only [↓rA,rB,Nat.reduceEqDiff,g12,hwq,List.length_map]
      refine⟨(by first | omega | (simp;omega)),fun y2=>?_⟩
      refine⟨(q - 1,x),by omega,_,[⟨y2,1,9⟩],List.Sublist.refl _,List.Sublist.cons_cons _ (List.nil_sublist _),?_⟩
      simp only [rB,Nat.reduceEqDiff,gb,g3,g4,g9]
      refine⟨hx,by omega,fun h=>?_,y2,w++[l[x]],by simp;omega,by simp,rfl⟩
      ·rw [dGet hxd,hc];omega
     ·simp only [↓rA,rB,Nat.reduceEqDiff,tbCY0,gb,gr,g3,g4,g9,g10,g11,g12,g13,Int.ofNat_lt,ha,hjg,hxd,hgg,hxg,List.length_map,getD_map _ _ _ ha,getD_map _ _ _ hjg,getD_map _ _ _ hxd,hc,hwj]
      have hjk:j ≠ k0:=fun e=>by
       subst e
       rw [hjx,dGet hxd] at hk1
       exact hc hk1
      exact⟨j+1,by omega,0,by omega,rfl,rfl⟩
end Go.Proofs.YtopfanlkbepemaaGreat
set_option linter.unusedSimpArgs false
set_option maxRecDepth 100000
set_option linter.defProp false
namespace Go.Proofs.YtopfanlkbepemaaGreat
open Go.VL Go.Ar Go.Lo Go.Proofs.YtopfanlkbepemaaGreat
theorem wrap_prev (m:Nat) (h:m≤100000000):IntKind.i64.wrap (((m+1:Nat):Int) - 1)=(m:Int):=by
 rw [wrap_id (by omega) (by omega)];omega
def tbCZ0:=(aI (aI (aI (aI Ty.c133 Ty.t156) (aI Ty.t231 Ty.t26)) (aI (aI Ty.t3 Ty.t4) (aI Ty.t60 (aI Ty.t61 Ty.t63)))) (aI (aI (aI Ty.t78 Ty.t80) (aI Ty.t81 (aI Ty.t83 Ty.t85))) (aI (aI Ty.t87 Ty.t88) (aI Ty.t9 (aI Ty.t90 Ty.t92)))))
theorem tables12_ok (c:Cat) (hl:c.tables.length≤1000000):OkI Tryz.prog 101 [vCat c]:=by
 refine Ok.of_ex Ty.mixed Tryz.func101 rfl (by simp [Tryz.ntmps101]) (by kernel_rfl) fun F w0 I0=>?_
 simp only [↓rA,rB]
 refine fun b1 h1=>?_;replace h1:=newb h1;try simp only [Nb] at h1
 simp only [↓rA,rB,Tryz.results101]
 refine EX_for Ty.mixed (by kernel_rfl) c.tables.length (fun i S=>S.boxes=[(b1,.c (cCat c))]∧S.rows=[]∧S.σ 1=ptr b1∧S.σ 3=vint i) ⟨0,?_⟩ (fun i S hi ⟨gb,gr,g1,g3⟩=>?_) (fun S ⟨gb,gr,g1,g3⟩=>?_)
 ·simp only [rB,Nat.reduceEqDiff]
  try exact rfl
 ·have hwi:=wrap_succ (i:=i) (N:=c.tables.length) hi (by omega)
  simp only [↓rA,rB,Nat.reduceAdd,Nat.reduceEqDiff,tbCZ0,gb,g1,g3,Int.ofNat_lt,hi,List.length_map,getD_map _ _ _ hi]
  refine OkF_with [] _ (List.Perm.refl _) (tableC_ok _) ?_
  rintro v bs rs ⟨⟨k,rfl⟩,rfl,rfl⟩
  by_cases hk:k=0
  case neg =>
   simp only [↓rA,rB,Nat.reduceEqDiff,gr,hk]
   exact finI _ _ _
  rcases i with _ | m
  ·simp only [↓rA,rB,Int.reduceLT,Int.reduceToNat,Nat.reduceAdd,Nat.reduceEqDiff,gr,g1,g3,hk]
   exact⟨0,rfl,rfl⟩
  ·have hm:m < c.tables.length:=by omega
   have hwp:=wrap_prev m (by omega)
   have hp:(0:Int) < ((m+1:Nat):Int):=by omega
   simp only [↓rA,rB,Nat.reduceAdd,Nat.reduceEqDiff,tbCZ0,gr,g1,g3,hk,hwp,hp,Int.ofNat_lt,hi,hm,List.length_map,getD_map _ _ _ hi,getD_map _ _ _ hm]
   refine onCond_splitb (fun hc=>?_) (fun hc=>?_)
   ·simp only [↓rA,rB,gr]
    exact finI _ _ _
   ·simp only [↓rA,rB,Nat.reduceEqDiff,gr,g1,g3,hwi]
    first | exact⟨0,rfl⟩ | exact⟨0,trivial⟩
 ·simp only [↓rA,rB,Nat.reduceAdd,Nat.reduceEqDiff,tbCZ0,gb,gr,g1,g3,Int.ofNat_lt,Nat.lt_irrefl,List.length_map]
  exact finI _ _ _
def tbCZ1:=(aI (aI (aI (aI Ty.t156 Ty.t231) (aI Ty.t3 Ty.t60)) (aI (aI Ty.t61 Ty.t63) (aI Ty.t78 Ty.t80))) (aI (aI (aI Ty.t81 Ty.t83) (aI Ty.t85 Ty.t87)) (aI (aI Ty.t88 Ty.t9) (aI Ty.t90 Ty.t92))))
theorem versions_ok (n:Nat) (c:Cat) (hn:n≤1000000) (hk:KFit n c):OkP Tryz.prog 102 [vCat c] (vFtrs (c.features++c.drafts++c.past)):=by
 have h1:=Nat.le_trans hk.lf hn
 have h2:=Nat.le_trans hk.ld hn
 have h3:=Nat.le_trans hk.lp hn
 refine Ok.of_ex Ty.mixed Tryz.func102 rfl (by simp [Tryz.ntmps102]) (by kernel_rfl) fun F w0 I0=>?_
 simp only [↓rA,rB]
 refine fun b1 hb=>?_;replace hb:=newb hb;try simp only [Nb] at hb
 simp only [↓rA,rB]
 refine Or2.l ?_
 simp only [↓rA,rB,Nat.reduceAdd,Nat.reduceEqDiff,Nat.reduceLT,Nat.reduceMul,tbCZ1,Tryz.results102]
 intro y1
 refine⟨by simp only [List.length_map];omega,fun y2=>⟨by simp only [List.length_map];omega,fun y3=>⟨by simp only [List.length_append,List.length_map];omega,fun y4=>⟨_,[],[],?_,List.nil_sublist _,List.nil_sublist _,rfl,rfl,rfl⟩⟩⟩⟩
 rw [vFtrs,List.map_append,List.map_append]
 exact Le.list _ _ _
def tbCZ2:=(aI (aI (aI Ty.c134 (aI Ty.c135 Ty.c66)) (aI (aI Ty.t231 Ty.t26) (aI Ty.t3 Ty.t4))) (aI (aI (aI Ty.t81 Ty.t83) (aI Ty.t85 Ty.t87)) (aI (aI Ty.t88 Ty.t9) (aI Ty.t90 Ty.t92))))
theorem own12_ok (f:Ftr) (hf:FitF f) (hb:depthE f.body≤big):OkI Tryz.prog 103 [.agg (cFtr f)]:=by
 have hs:=shapeR_ok f.body hf.2 hb
 simp only [vE,cE_eq f.body,cFtr_eq] at hs ⊢
 refine Ok.of_ex Ty.mixed Tryz.func103 rfl (by simp [Tryz.ntmps103]) (by kernel_rfl) fun F w0 I0=>?_
 simp only [↓rA,rB]
 refine fun b1 h1=>?_;replace h1:=newb h1;try simp only [Nb] at h1
 simp only [↓rA,rB,Nat.reduceAdd,Nat.reduceEqDiff,tbCZ2]
 repeat' (first
  | (refine onCond_splitb (fun hc=>?_) (fun hc=>?_) <;> (first | (subst hc;try simp only [↓rA,rB,Int.reduceEq,Int.reduceLE,Int.reduceLT,Int.reduceToNat,Nat.reduceAdd,Nat.reduceEqDiff,Nat.reduceLT,Nat.reduceLeDiff,Nat.reduceMul,Nat.reduceSub,reduceCtorEq,tbCZ2,Tryz.results103,h1]) | (try simp only [↓rA,rB,Nat.reduceAdd,Nat.reduceEqDiff,Nat.reduceLeDiff,tbCZ2,Tryz.results103,hc])))
  | (refine onGuard_splitb (fun hc=>?_) (fun hc=>?_) <;> (first | (subst hc;try simp only [↓rA,rB,Int.reduceEq,Int.reduceLE,Int.reduceLT,Int.reduceToNat,Nat.reduceAdd,Nat.reduceEqDiff,Nat.reduceLT,Nat.reduceLeDiff,Nat.reduceMul,Nat.reduceSub,reduceCtorEq,tbCZ2,Tryz.results103,h1]) | (try simp only [↓rA,rB,Nat.reduceAdd,Nat.reduceEqDiff,tbCZ2,Tryz.results103,hc])))
  | (refine onGuard_splitf (fun hc=>?_) (fun hc=>?_) <;> (first | (subst hc;try simp only [↓rA,rB,Int.reduceEq,Int.reduceLE,Int.reduceLT,Int.reduceToNat,Nat.reduceAdd,Nat.reduceEqDiff,Nat.reduceLT,Nat.reduceLeDiff,Nat.reduceMul,Nat.reduceSub,reduceCtorEq,tbCZ2,Tryz.results103,h1]) | (try simp only [↓rA,rB,Nat.reduceAdd,Nat.reduceEqDiff,tbCZ2,Tryz.results103,hc])))
  | (refine OkF_of _ (nameR_ok _) ?_;try simp only [↓rA,rB,Nat.reduceEqDiff])
  | (refine OkF_of _ (typeR_ok _ _ _) ?_;try simp only [↓rA,rB])
  | (refine OkF_of _ (hs) ?_;try simp only [↓rA,rB,Tryz.results103])
  | exact finI _ _ _)
def tbCZ3:=(aI (aI (aI (aI Ty.c101 (aI Ty.c102 Ty.c103)) (aI Ty.c104 (aI Ty.c105 Ty.t156))) (aI (aI Ty.t231 (aI Ty.t26 Ty.t3)) (aI Ty.t36 (aI Ty.t4 Ty.t60)))) (aI (aI (aI Ty.t61 (aI Ty.t63 Ty.t78)) (aI Ty.t80 (aI Ty.t81 Ty.t83))) (aI (aI Ty.t85 (aI Ty.t87 Ty.t88)) (aI Ty.t9 (aI Ty.t90 Ty.t92)))))
set_option maxHeartbeats 2000000 in
theorem check12_ok (n:Nat) (c:Cat) (hn:n≤1000000) (hk:KFit n c):OkI Tryz.prog 70 [vCat c]:=by
 have h1:=Nat.le_trans hk.lf hn
 have h2:=Nat.le_trans hk.ld hn
 have h3:=Nat.le_trans hk.lp hn
 have h4:=Nat.le_trans hk.lt hn
 refine Ok.of_exM [(25,2)] Ty.mixed Tryz.func70 rfl (by simp [Tryz.ntmps70]) (by kernel_rfl) fun F w0 I0=>?_
 simp only [↓rA,rB]
 refine fun b1 hb=>?_;replace hb:=newb hb;try simp only [Nb] at hb
 simp only [↓EX_ops_nil,↓EX_plain,↓ST_assign,onVal_eq,Todo_eq,ev_const,List.toList_toArray,Tryz.results70]
 rw [EX_seq]
 by_cases q1:(16:Int) < c.tables.length
 ·simp only [↓rA,rB,Nat.reduceAdd,Nat.reduceEqDiff,tbCZ3,List.length_map,q1]
  exact finI _ _ _
 by_cases q2:(32:Int) < c.features.length
 ·simp only [↓rA,rB,Nat.reduceAdd,Nat.reduceEqDiff,tbCZ3,List.length_map,q1,q2]
  exact finI _ _ _
 by_cases q3:(32:Int) < c.drafts.length
 ·simp only [↓rA,rB,Nat.reduceAdd,Nat.reduceEqDiff,tbCZ3,List.length_map,q1,q2,q3]
  exact finI _ _ _
 by_cases q4:(32:Int) < c.past.length
 ·simp only [↓rA,rB,Nat.reduceAdd,Nat.reduceEqDiff,tbCZ3,List.length_map,q1,q2,q3,q4]
  exact finI _ _ _
 simp only [↓rA,rB,Nat.reduceAdd,Nat.reduceEqDiff,tbCZ3,List.length_map,q1,q2,q3,q4]
 refine OkF_with [] _ (List.Perm.refl _) (tables12_ok c h4) ?_
 rintro v bs rs ⟨⟨k,rfl⟩,rfl,rfl⟩
 by_cases hk0:k=0
 case neg =>
  simp only [↓rA,rB,Nat.reduceEqDiff,hk0]
  exact finI _ _ _
 simp only [↓rA,rB,Nat.reduceAdd,Nat.reduceEqDiff,tbCZ3,hk0]
 refine OkF_of _ (versions_ok n c hn hk) ?_
 have hvf:∀ f ∈ c.features++c.drafts++c.past,FitF f∧depthE f.body≤big:=fun f hf=>by
  rcases List.mem_append.1 hf with hf | hf
  ·rcases List.mem_append.1 hf with hf | hf
   ·exact hk.ff f hf
   ·exact hk.fd f hf
  ·exact hk.fp f hf
 have hvl:(c.features++c.drafts++c.past).length≤96:=by
  simp only [List.length_append];omega
 generalize hvs:c.features++c.drafts++c.past=vs at hvf hvl
 have hw5:IntKind.i64.wrap ((c.features.length:Int)+c.drafts.length)=(c.features.length:Int)+c.drafts.length:=wrap_id (by omega) (by omega)
 simp only [↓rA,rB,Nat.reduceEqDiff,tbCZ3,List.length_map,hw5]
 refine EX_for Ty.mixed (by kernel_rfl) vs.length (fun i S=>S.boxes=[(b1,.c (cCat c))]∧S.rows=[]∧S.σ 1=ptr b1∧S.σ 4=vFtrs vs∧S.σ 5=vint ((c.features.length:Int)+c.drafts.length)∧S.σ 6=vint i) ⟨0,?_⟩ (fun i S hi ⟨gb,gr,g1,g4,g5,g6⟩=>?_) (fun S ⟨gb,gr,g1,g4,g5,g6⟩=>?_)
 ·simp only [rB,Nat.reduceEqDiff]
  try exact rfl
 ·have hwi:=wrap_succ (i:=i) (N:=vs.length) hi (by omega)
  have hq:=own12_ok vs[i] (hvf _ (List.getElem_mem hi)).1 (hvf _ (List.getElem_mem hi)).2
  rw [cFtr_eq] at hq
  simp only [↓rA,rB,Nat.reduceAdd,Nat.reduceEqDiff,tbCZ3,gb,g4,g6,Int.ofNat_lt,hi,List.length_map,getD_map _ _ _ hi,cFtr_eq vs[i]]
  refine OkF_with [] _ (List.Perm.refl _) hq ?_
  rintro v bs rs ⟨⟨k,rfl⟩,rfl,rfl⟩
  by_cases hk0:k=0
  case neg =>
   simp only [↓rA,rB,Nat.reduceEqDiff,gr,hk0]
   exact finI _ _ _
  simp only [↓EX_ops_nil,↓EX_plain,↓ST_assign,onVal_eq,dropB_σ,dropB_boxes,dropB_rows,Todo_eq,put_eq,put_rows,ev_tmp,List.nil_append,List.append_nil,Int.toNat_natCast,gr,hk0]
  rw [EX_seq,EX_seq]
  simp only [↓EX_skip,↓EX_cond,↓EX_region,↓EX_ops_nil,↓EX_plain,↓ST_move,↓ST_binOp,onVal_eq,Todo_eq,put_eq,ev_tmp,ev_const,onSome_some,onCond_f,binK_int,sbin,eq_self,if_true,decide_true,Bool.not_true]
  rw [EX_seq]
  refine EX_cut (fun S=>S.boxes=[(b1,.c (cCat c))]∧S.rows=[]∧S.σ 1=ptr b1∧S.σ 4=vFtrs vs∧S.σ 5=vint ((c.features.length:Int)+c.drafts.length)∧S.σ 6=vint i∧∃ t:Bool,(t=false→0 < i)∧S.σ 7=vbool t) ?_ ?_
  ·rcases i with _ | m
   ·simp only [↓rA,rB,Nat.reduceAdd,Nat.reduceEqDiff,Nat.reduceLT,g1,g4,g5,g6,List.length_map]
    exact⟨true,(fun h=>by cases h),rfl⟩
   ·have e0:¬ ((m+1:Nat):Int)=0:=by omega
    simp only [↓rA,rB,Nat.reduceAdd,Nat.reduceEqDiff,tbCZ3,g1,g6,List.length_map,e0]
    repeat' (first
     | (refine onCond_splitb (fun hc=>?_) (fun hc=>?_) <;> (first | (subst hc;try simp only [↓rA,rB,Int.reduceEq,Int.reduceLE,Int.reduceLT,Int.reduceToNat,Nat.reduceAdd,Nat.reduceEqDiff,Nat.reduceLT,Nat.reduceLeDiff,Nat.reduceMul,Nat.reduceSub,reduceCtorEq,tbCZ3,Tryz.results70,gb,gr,g1,g4,g5,g6,hb,List.length_map,e0]) | (try simp only [↓rA,rB,Int.reduceEq,Int.reduceLE,Int.reduceLT,Int.reduceToNat,Nat.reduceAdd,Nat.reduceEqDiff,Nat.reduceLT,Nat.reduceLeDiff,Nat.reduceMul,Nat.reduceSub,reduceCtorEq,tbCZ3,Tryz.results70,gb,gr,g1,g4,g5,g6,hb,List.length_map,e0,hc])))
     | (refine onGuard_splitb (fun hc=>?_) (fun hc=>?_) <;> (first | (subst hc;try simp only [↓rA,rB,Int.reduceEq,Int.reduceLE,Int.reduceLT,Int.reduceToNat,Nat.reduceAdd,Nat.reduceEqDiff,Nat.reduceLT,Nat.reduceLeDiff,Nat.reduceMul,Nat.reduceSub,reduceCtorEq,tbCZ3,Tryz.results70,gb,gr,g1,g4,g5,g6,hb,List.length_map,e0]) | (try simp only [↓rA,rB,Int.reduceEq,Int.reduceLE,Int.reduceLT,Int.reduceToNat,Nat.reduceAdd,Nat.reduceEqDiff,Nat.reduceLT,Nat.reduceLeDiff,Nat.reduceMul,Nat.reduceSub,reduceCtorEq,tbCZ3,Tryz.results70,gb,gr,g1,g4,g5,g6,hb,List.length_map,e0,hc])))
     | (refine onGuard_splitf (fun hc=>?_) (fun hc=>?_) <;> (first | (subst hc;try simp only [↓rA,rB,Int.reduceEq,Int.reduceLE,Int.reduceLT,Int.reduceToNat,Nat.reduceAdd,Nat.reduceEqDiff,Nat.reduceLT,Nat.reduceLeDiff,Nat.reduceMul,Nat.reduceSub,reduceCtorEq,tbCZ3,Tryz.results70,gb,gr,g1,g4,g5,g6,hb,List.length_map,e0]) | (try simp only [↓rA,rB,Nat.reduceEqDiff,g1,g4,g5,g6,List.length_map,hc])))
     | exact⟨_,fun _=>Nat.succ_pos _,rfl⟩)
  rintro S ⟨gb,gr,g1,g4,g5,g6,t,ht,g7⟩
  rw [EX_seq]
  refine EX_cut (fun S=>S.boxes=[(b1,.c (cCat c))]∧S.rows=[]∧S.σ 1=ptr b1∧S.σ 4=vFtrs vs∧S.σ 5=vint ((c.features.length:Int)+c.drafts.length)∧S.σ 6=vint i) ?_ ?_
  ·cases t
   ·obtain⟨m,rfl⟩:∃ m,i=m+1:=⟨i - 1,by have:=ht rfl;omega⟩
    have hm:m < vs.length:=by omega
    have hwp:=wrap_prev m (by omega)
    have c1:=cFtr_eq vs[m+1]
    have c2:=cFtr_eq vs[m]
    cases hcA:Op.bytesLess vs[m+1].name.data.toList vs[m].name.data.toList <;> by_cases hcB:(((m+1:Nat):Int) < (c.features.length:Int)+c.drafts.length) <;> cases hcC:decide (vs[m+1].name=vs[m].name) <;> simp only [↓rA,rB,Nat.reduceEqDiff,tbCZ3,gb,gr,g1,g4,g5,g6,g7,hwp,Int.ofNat_lt,hi,hm,List.length_map,getD_map _ _ _ hi,getD_map _ _ _ hm,c1,c2,hcA,hcB,hcC]
    all_goals exact finI _ _ _
   ·simp only [↓rA,rB,Nat.reduceEqDiff,gb,gr,g1,g4,g5,g6,g7]
  rintro S ⟨gb,gr,g1,g4,g5,g6⟩
  simp only [↓rA,rB]
  refine EX_for Ty.mixed (by kernel_rfl) i (fun j S=>S.boxes=[(b1,.c (cCat c))]∧S.rows=[]∧S.σ 1=ptr b1∧S.σ 4=vFtrs vs∧S.σ 5=vint ((c.features.length:Int)+c.drafts.length)∧S.σ 6=vint i∧S.σ 8=vint j) ⟨0,?_⟩ (fun j S hj ⟨gb,gr,g1,g4,g5,g6,g8⟩=>?_) (fun S ⟨gb,gr,g1,g4,g5,g6,g8⟩=>?_)
  ·simp only [rB,Nat.reduceEqDiff,gb,gr,g1,g4,g5,g6]
   try exact rfl
  ·have hwj:=wrap_succ (i:=j) (N:=i) hj (by omega)
   have hjl:j < vs.length:=Nat.lt_trans hj hi
   have c1:=cFtr_eq vs[i]
   have c2:=cFtr_eq vs[j]
   simp only [↓rA,rB,Nat.reduceEqDiff,tbCZ3,g4,g6,g8,Int.ofNat_lt,hi,hj,hjl,List.length_map,getD_map _ _ _ hi,getD_map _ _ _ hjl,c1,c2]
   repeat' (first
    | (refine onCond_splitb (fun hc=>?_) (fun hc=>?_) <;> (first | (subst hc;try simp only [↓rA,rB,Int.reduceEq,Int.reduceLE,Int.reduceLT,Int.reduceToNat,Nat.reduceAdd,Nat.reduceEqDiff,Nat.reduceLT,Nat.reduceLeDiff,Nat.reduceMul,Nat.reduceSub,reduceCtorEq,tbCZ3,Tryz.results70,gb,gr,g1,g4,g5,g6,hb,g8,hwj,Int.ofNat_lt,hi,hj,hjl,List.length_map,getD_map _ _ _ hi,getD_map _ _ _ hjl,c1,c2]) | (try simp only [↓rA,rB,Nat.reduceEqDiff,gb,gr,g1,g4,g5,g6,g8,hwj,getD_map _ _ _ hi,getD_map _ _ _ hjl,c1,c2,hc])))
    | (refine onGuard_splitb (fun hc=>?_) (fun hc=>?_) <;> (first | (subst hc;try simp only [↓rA,rB,Int.reduceEq,Int.reduceLE,Int.reduceLT,Int.reduceToNat,Nat.reduceAdd,Nat.reduceEqDiff,Nat.reduceLT,Nat.reduceLeDiff,Nat.reduceMul,Nat.reduceSub,reduceCtorEq,tbCZ3,Tryz.results70,gb,gr,g1,g4,g5,g6,hb,g8,hwj,Int.ofNat_lt,hi,hj,hjl,List.length_map,getD_map _ _ _ hi,getD_map _ _ _ hjl,c1,c2]) | (try simp only [↓rA,rB,Nat.reduceEqDiff,tbCZ3,gb,gr,g1,g4,g5,g6,g8,hwj,Int.ofNat_lt,hi,hjl,List.length_map,getD_map _ _ _ hi,getD_map _ _ _ hjl,c1,c2,hc])))
    | (refine onGuard_splitf (fun hc=>?_) (fun hc=>?_) <;> (first | (subst hc;try simp only [↓rA,rB,Int.reduceEq,Int.reduceLE,Int.reduceLT,Int.reduceToNat,Nat.reduceAdd,Nat.reduceEqDiff,Nat.reduceLT,Nat.reduceLeDiff,Nat.reduceMul,Nat.reduceSub,reduceCtorEq,tbCZ3,Tryz.results70,gb,gr,g1,g4,g5,g6,hb,g8,hwj,Int.ofNat_lt,hi,hj,hjl,List.length_map,getD_map _ _ _ hi,getD_map _ _ _ hjl,c1,c2]) | (try simp only [↓rA,rB,Int.reduceEq,Int.reduceLE,Int.reduceLT,Int.reduceToNat,Nat.reduceAdd,Nat.reduceEqDiff,Nat.reduceLT,Nat.reduceLeDiff,Nat.reduceMul,Nat.reduceSub,reduceCtorEq,tbCZ3,Tryz.results70,gb,gr,g1,g4,g5,g6,hb,g8,hwj,Int.ofNat_lt,hi,hj,hjl,List.length_map,getD_map _ _ _ hi,getD_map _ _ _ hjl,c1,c2,hc])))
    | exact finI _ _ _
    | exact⟨0,rfl⟩
    | exact⟨0,trivial⟩
    | exact⟨0,rfl,rfl⟩)
  ·simp only [↓rA,rB,Nat.reduceEqDiff,gb,gr,g1,g4,g5,g6,g8,hwi,Int.ofNat_lt,Nat.lt_irrefl]
   first | exact⟨0,rfl⟩ | exact⟨0,trivial⟩ | exact⟨0,rfl,rfl⟩
 ·simp only [↓rA,rB,Nat.reduceEqDiff,tbCZ3,g4,g6,Int.ofNat_lt,Nat.lt_irrefl,List.length_map]
  refine EX_for Ty.mixed (by kernel_rfl) c.features.length (fun i S=>S.boxes=[(b1,.c (cCat c))]∧S.rows=[]∧S.σ 1=ptr b1∧S.σ 9=vint i) ⟨0,?_⟩ (fun i S hi ⟨gb,gr,g1,g9⟩=>?_) (fun S ⟨gb,gr,g1,g9⟩=>?_)
  ·simp only [rB,Nat.reduceEqDiff,gb,gr,g1]
   try exact rfl
  ·have hwi:=wrap_succ (i:=i) (N:=c.features.length) hi (by omega)
   have hff:=hk.ff _ (List.getElem_mem hi)
   have hq:=featureC_ok n c c.features[i] hn hk hff.1 hff.2
   rw [cFtr_eq] at hq
   simp only [↓rA,rB,Nat.reduceAdd,Nat.reduceEqDiff,reduceCtorEq,tbCZ3,gb,g1,g9,Int.ofNat_lt,hi,List.length_map,getD_map _ _ _ hi,cFtr_eq c.features[i]]
   refine OkR_back hq ?_
   rintro v bs rs ⟨⟨k,rfl⟩,rfl,rfl⟩
   refine⟨rfl,?_⟩
   by_cases hk0:k=0
   case neg =>
    simp only [↓rA,rB,Nat.reduceEqDiff,reduceCtorEq,gb,gr,hk0]
    exact finI _ _ _
   simp only [↓rA,rB,Nat.reduceEqDiff,reduceCtorEq,gb,gr,g1,g9,hk0,hwi]
   first | exact⟨0,rfl⟩ | exact⟨0,trivial⟩ | exact⟨0,rfl,rfl⟩
  ·simp only [↓rA,rB,Nat.reduceAdd,Nat.reduceEqDiff,tbCZ3,gb,g1,g9,Int.ofNat_lt,Nat.lt_irrefl,List.length_map]
   refine OkF_with [] _ (List.Perm.refl _) (cycle_ok n c hn hk) ?_
   rintro v bs rs ⟨⟨l,hl,rfl⟩,rfl,rfl⟩
   simp only [↓rA,rB,tbCZ3,gr,List.length_map]
   refine onCond_splitb (fun hc=>?_) (fun hc=>?_) <;>
   ·simp only [↓rA,rB,gr]
    exact finI _ _ _
end Go.Proofs.YtopfanlkbepemaaGreat
