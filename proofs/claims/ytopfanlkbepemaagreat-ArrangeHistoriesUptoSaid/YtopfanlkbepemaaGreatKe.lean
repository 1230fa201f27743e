/- Merged out of my texts D1 D2 D3 D4 D5 D6 D7 D9 E1 E2 E3 E4 E5 E6 D8 E7 E8 E9 EA EB. -/
import Derived.Test.YtopfanlkbepemaaGreatKd
import Derived.Test.YtopfanlkbepemaaGreatKc
import Derived.Test.YtopfanlkbepemaaGreatKVFn
import Derived.Test.YtopfanlkbepemaaGreatKVPm
import Derived.Test.YtopfanlkbepemaaGreatKa
import Derived.Test.YtopfanlkbepemaaGreatKVH
import Derived.Test.YtopfanlkbepemaaGreatKb
import Derived.Test.YtopfanlkbepemaaGreatKVJ
import Derived.Test.YtopfanlkbepemaaGreatRows
import Derived.ProofKit
import Derived.JoinedCond
set_option linter.unusedSimpArgs false
set_option maxRecDepth 100000
set_option linter.defProp false
namespace Go.Proofs.YtopfanlkbepemaaGreat
open Go.VL Go.Ar Go.Lo Go.Proofs.YtopfanlkbepemaaGreat
def tbD10:=(aI (aI Ty.c125 (aI Ty.t26 Ty.t3)) (aI Ty.t4 (aI Ty.t85 Ty.t9)))
theorem valid05_ok (v:Val):OkP Tryz.prog 92 [.agg (cVal v)] (vbool (decide (valC v=0))):=by
 refine Ok.of_ex Ty.mixed Tryz.func92 rfl (by simp [Tryz.ntmps92]) (by kernel_rfl) fun F w0 I0=>?_
 simp only [↓rA,rB]
 refine fun b1 h1=>?_;replace h1:=newb h1;try simp only [Nb] at h1
 simp only [↓rA,rB,Nat.reduceAdd,Nat.reduceEqDiff,tbD10]
 refine OkF_of _ (valR_ok v) ?_
 simp only [↓rA,rB,Tryz.results92]
 exact ret_done rfl
def hasB (v:Val) (t:Typ):Bool:=decide (valC v=0) && (decide (v.kind=0) || decide (v.kind=t.kind))
def tbD11:=(aI (aI (aI Ty.c92 Ty.t231) (aI Ty.t3 Ty.t4)) (aI (aI Ty.t81 Ty.t83) (aI Ty.t85 Ty.t9)))
theorem has05_ok (v:Val) (t:Typ):OkP Tryz.prog 65 [.agg (cVal v),vTyp t] (vbool (hasB v t)):=by
 have fb:∀ {a b:Bool},a=b→V.lit (.bool a)=vbool b:=fun h=>by rw [h]
 refine Ok.of_ex Ty.mixed Tryz.func65 rfl (by simp [Tryz.ntmps65]) (by kernel_rfl) fun F w0 I0=>?_
 simp only [↓rA,rB]
 refine fun b2 h2=>?_;replace h2:=newb h2;try simp only [Nb] at h2
 simp only [↓rA,rB,Nat.reduceEqDiff]
 refine fun b3 h3=>?_;replace h3:=newb h3;try simp only [Nb] at h3
 have hh:=And.intro h2 h3
 simp only [↓rA,rB,Nat.reduceAdd,Nat.reduceEqDiff,tbD11,hh]
 refine OkF_of _ (valid05_ok v) ?_
 cases p:decide (valC v=0) <;> cases q:decide (v.kind=0) <;> simp only [↓rA,rB,Nat.reduceAdd,Nat.reduceEqDiff,tbD11,Tryz.results65,hh,q] <;> exact ret_done (fb (by simp [hasB,p,q]))
def tbD12:=(aI (aI (aI (aI Ty.c63 (aI Ty.c64 Ty.c65)) (aI Ty.t152 (aI Ty.t156 Ty.t231))) (aI (aI Ty.t26 (aI Ty.t3 Ty.t4)) (aI Ty.t40 (aI Ty.t41 Ty.t60)))) (aI (aI (aI Ty.t61 (aI Ty.t63 Ty.t75)) (aI Ty.t78 (aI Ty.t80 Ty.t81))) (aI (aI Ty.t83 (aI Ty.t85 Ty.t87)) (aI (aI Ty.t88 Ty.t9) (aI Ty.t90 Ty.t92)))))
theorem check13_ok (c:Cat) (f:Fct) (hl:c.tables.length≤1000000) (hf:f.fields.length≤big):Ok Tryz.prog 36 [vCat c,.agg (cFct f)] [] fun v bs rs=>(∃ k:Int,v=vint k∧(k=0→formedB f=true))∧bs=[]∧rs=[]:=by
 unfold big at hf
 refine Ok.of_ex Ty.mixed Tryz.func36 rfl (by simp [Tryz.ntmps36]) (by kernel_rfl) fun F w0 I0=>?_
 simp only [↓rA,rB]
 refine fun b2 h2=>?_;replace h2:=newb h2;try simp only [Nb] at h2
 simp only [↓rA,rB,Nat.reduceEqDiff]
 refine fun b3 h3=>?_;replace h3:=newb h3;try simp only [Nb] at h3
 have hh:=And.intro h2 h3
 simp only [↓rA,rB,Nat.reduceAdd,Nat.reduceEqDiff,tbD12]
 refine OkF_of _ (formed_ok f) ?_
 cases hfb:formedB f
 ·simp only [↓rA,rB,Tryz.results36]
  refine⟨_,[],[],Le.refl _,List.nil_sublist _,List.nil_sublist _,⟨_,rfl,?_⟩,rfl,rfl⟩;first | exact fun _=>trivial | exact fun _=>hfb | decide | (intro h;cases h)
 by_cases k3:f.kind=3
 ·simp only [↓rA,rB,Nat.reduceAdd,Nat.reduceEqDiff,tbD12,Tryz.results36,k3]
  refine⟨_,[],[],Le.refl _,List.nil_sublist _,List.nil_sublist _,⟨_,rfl,?_⟩,rfl,rfl⟩;first | exact fun _=>trivial | exact fun _=>hfb | decide | (intro h;cases h)
 simp only [↓rA,rB,Nat.reduceAdd,Nat.reduceEqDiff,tbD12,hh,k3]
 refine OkF_with [] _ (List.Perm.refl _) (table12_ok c f.table hl) ?_
 rintro v bs rs ⟨⟨t,b,rfl,ht⟩,rfl,rfl⟩
 simp only [↓rA,rB,Nat.reduceEqDiff,tbD12]
 refine fun b5 h5=>?_;replace h5:=newb h5;try simp only [Nb] at h5
 have hh:=And.intro hh h5
 cases b
 ·simp only [↓rA,rB,Nat.reduceAdd,Nat.reduceEqDiff,tbD12,Tryz.results36]
  refine⟨_,[],[],Le.refl _,List.nil_sublist _,List.nil_sublist _,⟨_,rfl,?_⟩,rfl,rfl⟩;first | exact fun _=>trivial | exact fun _=>hfb | decide | (intro h;cases h)
 by_cases hlen:f.fields.length=t.fields.length
 case neg =>
  have hlen':¬ (f.fields.length:Int)=t.fields.length:=by omega
  simp only [↓rA,rB,Nat.reduceAdd,Nat.reduceEqDiff,tbD12,Tryz.results36,hh,List.length_map,hlen']
  refine⟨_,[],[],Le.refl _,List.nil_sublist _,List.nil_sublist _,⟨_,rfl,?_⟩,rfl,rfl⟩;first | exact fun _=>trivial | exact fun _=>hfb | decide | (intro h;cases h)
 have hlen':(f.fields.length:Int)=t.fields.length:=by omega
 simp only [↓rA,rB,Nat.reduceAdd,Nat.reduceEqDiff,tbD12,Tryz.results36,hh,List.length_map,hlen']
 refine EX_for Ty.mixed (by kernel_rfl) f.fields.length (fun i S=>S.boxes=[(b5,.c (cTab t)),(b3,.c (cFct f)),(b2,.c (cCat c))]∧S.rows=[]∧S.σ 3=ptr b3∧S.σ 5=ptr b5∧S.σ 7=vint i) ⟨0,?_⟩ (fun i S hi ⟨gb,gr,g3,g5,g7⟩=>?_) (fun S ⟨gb,gr,g3,g5,g7⟩=>?_)
 ·simp only [rB,Nat.reduceEqDiff]
  try exact rfl
 ·have hwi:=wrap_succ (i:=i) (N:=f.fields.length) hi (by omega)
  have hit:i < t.fields.length:=by omega
  simp only [↓rA,rB,Nat.reduceAdd,Nat.reduceEqDiff,tbD12,gb,g3,g5,g7,hh,Int.ofNat_lt,hi,hit,List.length_map,getD_map _ _ _ hi,getD_map _ _ _ hit]
  refine CallV_of _ (has05_ok f.fields[i] t.fields[i].typ).v ?_
  cases hasB f.fields[i] t.fields[i].typ
  ·simp only [↓rA,rB,gb,gr]
   refine⟨_,[],[],Le.refl _,List.nil_sublist _,List.nil_sublist _,⟨_,rfl,?_⟩,rfl,rfl⟩;first | exact fun _=>trivial | exact fun _=>hfb | decide | (intro h;cases h)
  ·simp only [↓rA,rB,Nat.reduceEqDiff,gb,gr,g3,g5,g7,hwi]
   first | exact⟨0,rfl⟩ | exact⟨0,trivial⟩ | exact⟨0,rfl,rfl⟩
 ·simp only [↓rA,rB,Nat.reduceAdd,Nat.reduceEqDiff,tbD12,gb,gr,g3,g7,hh,Int.ofNat_lt,Nat.lt_irrefl,List.length_map]
  refine⟨_,[],[],Le.refl _,List.nil_sublist _,List.nil_sublist _,⟨_,rfl,?_⟩,rfl,rfl⟩;first | exact fun _=>trivial | exact fun _=>hfb | decide | (intro h;cases h)
def tbD13:=(aI (aI (aI (aI Ty.c89 Ty.c90) (aI Ty.t156 Ty.t231)) (aI (aI Ty.t3 Ty.t4) (aI Ty.t78 Ty.t80))) (aI (aI (aI Ty.t81 Ty.t83) (aI Ty.t85 Ty.t87)) (aI (aI Ty.t88 Ty.t9) (aI Ty.t90 (aI Ty.t92 Ty.t94)))))
theorem sameChange_ok (a b:Chg) (hf:FitC a):OkB Tryz.prog 95 [.agg (cChange a),.agg (cChange b)]:=by
 have ht:=sameTable_ok a.table b.table hf.1
 have hx:=sameFeature_ok a.feature b.feature hf.2
 simp only [cFtr_eq] at hx
 simp only [cChange_eq]
 refine Ok.of_ex Ty.mixed Tryz.func95 rfl (by simp [Tryz.ntmps95]) (by kernel_rfl) fun F w0 I0=>?_
 simp only [↓rA,rB]
 refine fun b2 h2=>?_;replace h2:=newb h2;try simp only [Nb] at h2
 simp only [↓rA,rB,Nat.reduceEqDiff]
 refine fun b3 h3=>?_;replace h3:=newb h3;try simp only [Nb] at h3
 have hh:=And.intro h2 h3
 simp only [↓rA,rB,Nat.reduceAdd,Nat.reduceEqDiff,tbD13,hh]
 repeat' (first
  | (refine onCond_splitb (fun hc=>?_) (fun hc=>?_) <;> (first | (subst hc;try simp only [↓rA,rB,Int.reduceEq,Int.reduceLE,Int.reduceLT,Int.reduceToNat,Nat.reduceAdd,Nat.reduceEqDiff,Nat.reduceLT,Nat.reduceLeDiff,Nat.reduceMul,Nat.reduceSub,reduceCtorEq,tbD13,Tryz.results95,hh]) | (try simp only [↓rA,rB,Nat.reduceEqDiff,Tryz.results95,hc])))
  | (refine onGuard_splitb (fun hc=>?_) (fun hc=>?_) <;> (first | (subst hc;try simp only [↓rA,rB,Int.reduceEq,Int.reduceLE,Int.reduceLT,Int.reduceToNat,Nat.reduceAdd,Nat.reduceEqDiff,Nat.reduceLT,Nat.reduceLeDiff,Nat.reduceMul,Nat.reduceSub,reduceCtorEq,tbD13,Tryz.results95,hh]) | (try simp only [↓rA,rB,Nat.reduceAdd,Nat.reduceEqDiff,Nat.reduceLeDiff,tbD13,Tryz.results95,hh,hc])))
  | (refine onGuard_splitf (fun hc=>?_) (fun hc=>?_) <;> (first | (subst hc;try simp only [↓rA,rB,Int.reduceEq,Int.reduceLE,Int.reduceLT,Int.reduceToNat,Nat.reduceAdd,Nat.reduceEqDiff,Nat.reduceLT,Nat.reduceLeDiff,Nat.reduceMul,Nat.reduceSub,reduceCtorEq,tbD13,Tryz.results95,hh]) | (try simp only [↓rA,rB,Int.reduceEq,Int.reduceLE,Int.reduceLT,Int.reduceToNat,Nat.reduceAdd,Nat.reduceEqDiff,Nat.reduceLT,Nat.reduceLeDiff,Nat.reduceMul,Nat.reduceSub,reduceCtorEq,tbD13,Tryz.results95,hh,hc])))
  | (refine OkF_of _ (ht) ?_;try simp only [↓rA,rB,Nat.reduceEqDiff])
  | (refine OkF_of _ (hx) ?_;try simp only [↓rA,rB,Nat.reduceEqDiff])
  | exact⟨_,[],[],Le.refl _,List.nil_sublist _,List.nil_sublist _,⟨_,rfl⟩,rfl,rfl⟩)
def tbD14:=(aI (aI (aI (aI Ty.t156 Ty.t231) (aI Ty.t3 Ty.t4)) (aI (aI Ty.t60 Ty.t61) (aI Ty.t63 Ty.t78))) (aI (aI (aI Ty.t80 Ty.t81) (aI Ty.t83 Ty.t85)) (aI (aI Ty.t87 Ty.t88) (aI Ty.t9 (aI Ty.t90 Ty.t92)))))
theorem newest_ok (n:Nat) (c:Cat) (s:Str) (hn:n≤1000000) (hk:KFit n c):OkI Tryz.prog 129 [vCat c,vstr s]:=by
 have h1:=Nat.le_trans hk.lf hn
 have h2:=Nat.le_trans hk.ld hn
 have h3:=Nat.le_trans hk.lp hn
 refine Ok.of_exM [(1,4)] Ty.mixed Tryz.func129 rfl (by simp [Tryz.ntmps129]) (by kernel_rfl) fun F w0 I0=>?_
 simp only [↓rA,rB]
 refine fun b2 hb=>?_;replace hb:=newb hb;try simp only [Nb] at hb
 simp only [↓rA,rB,Nat.reduceAdd,Nat.reduceEqDiff,Nat.reduceLT,Nat.reduceMul,reduceCtorEq,tbD14,Tryz.results129]
 refine fun y1=>⟨by simp only [List.length_map];omega,fun y2=>⟨by simp only [List.length_map];omega,fun y3=>⟨by simp only [List.length_append,List.length_map];omega,fun y4=>?_⟩⟩⟩
 have hvl:(c.features++c.drafts++c.past).length≤3000000:=by simp only [List.length_append];omega
 have hmp:c.features.map cFtr++c.drafts.map cFtr++c.past.map cFtr=(c.features++c.drafts++c.past).map cFtr:=by simp only [List.map_append]
 generalize hvs:c.features++c.drafts++c.past=vs at hvl hmp
 refine EX_for Ty.mixed (by kernel_rfl) vs.length (fun i S=>(∃ z,S.σ 5=.list (some z) 18 (vs.map cFtr))∧S.boxes=[(b2,.c (cCat c))]∧(∃ k:Int,S.σ 6=vint k)∧S.σ 1=vstr s∧S.σ 7=vint i) ⟨0,?_⟩ (fun i S hi ⟨⟨z,g5⟩,gb,⟨k,g6⟩,g1,g7⟩=>?_) (fun S ⟨⟨z,g5⟩,gb,⟨k,g6⟩,g1,g7⟩=>?_)
 ·simp only [rB,Nat.reduceEqDiff,hmp]
  exact⟨⟨_,rfl⟩,⟨_,rfl⟩⟩
 ·have hwi:=wrap_succ (i:=i) (N:=vs.length) hi (by omega)
  have c1:=cFtr_eq vs[i]
  simp only [↓rA,rB,Nat.reduceEqDiff,tbD14,g1,g5,g7,Int.ofNat_lt,hi,List.length_map,getD_map _ _ _ hi,c1]
  refine onCond_splitb (fun hc=>?_) (fun hc=>?_)
  ·simp only [↓rA,rB,Nat.reduceEqDiff,tbD14,gb,g1,g5,g6,g7,hwi,Int.ofNat_lt,hi,List.length_map,getD_map _ _ _ hi,c1]
   exact⟨0,⟨_,rfl⟩,rfl,_,rfl⟩
  ·simp only [↓rA,rB,Nat.reduceEqDiff,gb,g1,g5,g6,g7,hwi]
   exact⟨0,⟨_,rfl⟩,rfl,_,rfl⟩
 ·simp only [↓rA,rB,Nat.reduceEqDiff,tbD14,gb,g5,g6,g7,Int.ofNat_lt,Nat.lt_irrefl,List.length_map]
  exact finI _ _ _
def tbD15:=(aI (aI (aI (aI Ty.c95 Ty.t156) (aI Ty.t231 Ty.t3)) (aI (aI Ty.t4 Ty.t78) (aI Ty.t80 Ty.t81))) (aI (aI (aI Ty.t83 Ty.t85) (aI Ty.t87 Ty.t88)) (aI (aI Ty.t9 Ty.t90) (aI Ty.t92 Ty.t94))))
theorem proper14_ok (c:Chg) (hf:FitC c):OkB Tryz.prog 68 [.agg (cChange c)]:=by
 have hq:=fun b=>sameChange_ok c b hf
 simp only [cChange_eq] at hq ⊢
 refine Ok.of_ex Ty.mixed Tryz.func68 rfl (by simp [Tryz.ntmps68]) (by kernel_rfl) fun F w0 I0=>?_
 simp only [↓rA,rB]
 refine fun b1 h1=>?_;replace h1:=newb h1;try simp only [Nb] at h1
 simp only [↓rA,rB,Nat.reduceAdd,Nat.reduceEqDiff,Nat.reduceLeDiff,tbD15]
 refine fun b3 h3=>?_;replace h3:=newb h3;try simp only [Nb] at h3
 have hh:=And.intro h1 h3
 by_cases k1:c.kind=1
 ·have hq':=hq ⟨c.kind,c.table,ftr0,es0⟩
  simp only [k1] at hq'
  simp only [↓rA,rB,Nat.reduceAdd,Nat.reduceEqDiff,Nat.reduceLeDiff,tbD15,hh,k1]
  refine OkF_with [] _ (List.Perm.refl _) (Ok.le (.cons ?_ (.cons ?_ .nil)) hq') ?_
  ·rw [← k1];exact Le.refl _
  ·refine leAgg ?_
   repeat first | exact .nil | refine .cons (Le.refl _) ?_ | refine .cons (Le.nil _) ?_
  rintro v bs rs ⟨⟨z,rfl⟩,rfl,rfl⟩
  simp only [↓rA,rB,Tryz.results68,k1]
  exact⟨_,[],[],Le.refl _,List.nil_sublist _,List.nil_sublist _,⟨_,rfl⟩,rfl,rfl⟩
 by_cases k2:c.kind=2
 ·have hq':=hq ⟨c.kind,tab0,c.feature,es0⟩
  simp only [k2] at hq'
  simp only [↓rA,rB,Int.reduceEq,Nat.reduceAdd,Nat.reduceEqDiff,Nat.reduceLeDiff,tbD15,hh,k2]
  refine OkF_with [] _ (List.Perm.refl _) (Ok.le (.cons ?_ (.cons ?_ .nil)) hq') ?_
  ·rw [← k2];exact Le.refl _
  ·refine leAgg ?_
   repeat first | exact .nil | refine .cons (Le.refl _) ?_ | refine .cons (Le.nil _) ?_
  rintro v bs rs ⟨⟨z,rfl⟩,rfl,rfl⟩
  simp only [↓rA,rB,Tryz.results68,k2]
  exact⟨_,[],[],Le.refl _,List.nil_sublist _,List.nil_sublist _,⟨_,rfl⟩,rfl,rfl⟩
 by_cases k3:c.kind=3
 ·have hq':=hq ⟨c.kind,tab0,ftr0,c.name⟩
  simp only [k3] at hq'
  simp only [↓rA,rB,Int.reduceEq,Nat.reduceAdd,Nat.reduceEqDiff,tbD15,hh,k3]
  refine OkF_with [] _ (List.Perm.refl _) (Ok.le (.cons ?_ (.cons ?_ .nil)) hq') ?_
  ·rw [← k3];exact Le.refl _
  ·refine leAgg ?_
   repeat first | exact .nil | refine .cons (Le.refl _) ?_ | refine .cons (Le.nil _) ?_
  rintro v bs rs ⟨⟨z,rfl⟩,rfl,rfl⟩
  simp only [↓rA,rB,Tryz.results68,k3]
  exact⟨_,[],[],Le.refl _,List.nil_sublist _,List.nil_sublist _,⟨_,rfl⟩,rfl,rfl⟩
 by_cases k4:c.kind=4
 ·have hq':=hq ⟨c.kind,tab0,ftr0,c.name⟩
  simp only [k4] at hq'
  simp only [↓rA,rB,Int.reduceEq,Nat.reduceAdd,Nat.reduceEqDiff,tbD15,hh,k4]
  refine OkF_with [] _ (List.Perm.refl _) (Ok.le (.cons ?_ (.cons ?_ .nil)) hq') ?_
  ·rw [← k4];exact Le.refl _
  ·refine leAgg ?_
   repeat first | exact .nil | refine .cons (Le.refl _) ?_ | refine .cons (Le.nil _) ?_
  rintro v bs rs ⟨⟨z,rfl⟩,rfl,rfl⟩
  simp only [↓rA,rB,Tryz.results68,k4]
  exact⟨_,[],[],Le.refl _,List.nil_sublist _,List.nil_sublist _,⟨_,rfl⟩,rfl,rfl⟩
 by_cases k5:c.kind=5
 ·have hq':=hq ⟨c.kind,tab0,ftr0,c.name⟩
  simp only [k5] at hq'
  simp only [↓rA,rB,Int.reduceEq,Nat.reduceAdd,Nat.reduceEqDiff,tbD15,hh,k5]
  refine OkF_with [] _ (List.Perm.refl _) (Ok.le (.cons ?_ (.cons ?_ .nil)) hq') ?_
  ·rw [← k5];exact Le.refl _
  ·refine leAgg ?_
   repeat first | exact .nil | refine .cons (Le.refl _) ?_ | refine .cons (Le.nil _) ?_
  rintro v bs rs ⟨⟨z,rfl⟩,rfl,rfl⟩
  simp only [↓rA,rB,Tryz.results68,k5]
  exact⟨_,[],[],Le.refl _,List.nil_sublist _,List.nil_sublist _,⟨_,rfl⟩,rfl,rfl⟩
 simp only [↓rA,rB,Nat.reduceAdd,Nat.reduceEqDiff,tbD15,Tryz.results68,hh,k1,k2,k3,k4,k5]
 exact⟨_,[],[],Le.refl _,List.nil_sublist _,List.nil_sublist _,⟨_,rfl⟩,rfl,rfl⟩
end Go.Proofs.YtopfanlkbepemaaGreat
set_option linter.unusedSimpArgs false
set_option maxRecDepth 100000
set_option linter.defProp false
namespace Go.Proofs.YtopfanlkbepemaaGreat
open Go.VL Go.Ar Go.Lo Go.Proofs.YtopfanlkbepemaaGreat
def GF (f:Ftr):Prop:=FitF f∧depthE f.body≤big∧sizeE f.body≤1000000
def FitL (n:Nat) (l:List Ftr):Prop:=l.length≤n∧∀ f ∈ l,GF f
theorem FitL.without {n:Nat} {l:List Ftr} (h:FitL n l) (k:Nat):FitL n (l.take k++l.drop (k+1)):=by
 refine⟨?_,fun f hf=>?_⟩
 ·have:=h.1
  rw [List.length_append,List.length_take,List.length_drop];omega
 ·rcases List.mem_append.1 hf with hf | hf
  ·exact h.2 f (List.mem_of_mem_take hf)
  ·exact h.2 f (List.mem_of_mem_drop hf)
theorem FitL.insert {n:Nat} {l:List Ftr} (h:FitL n l) {f:Ftr} (hf:GF f) (k:Nat):FitL (n+1) (l.take k++(f::l.drop k)):=by
 refine⟨?_,fun g hg=>?_⟩
 ·have:=h.1
  rw [List.length_append,List.length_cons,List.length_take,List.length_drop];omega
 ·rcases List.mem_append.1 hg with hg | hg
  ·exact h.2 g (List.mem_of_mem_take hg)
  ·rcases List.mem_cons.1 hg with rfl | hg
   ·exact hf
   ·exact h.2 g (List.mem_of_mem_drop hg)
theorem FitL.up {n m:Nat} {l:List Ftr} (h:FitL n l) (hm:n≤m):FitL m l:=⟨Nat.le_trans h.1 hm,h.2⟩
theorem KFit.fl {n c} (h:KFit n c):FitL n c.features:=⟨h.lf,fun f hf=>⟨(h.ff f hf).1,(h.ff f hf).2,h.sf f hf⟩⟩
theorem KFit.dl {n c} (h:KFit n c):FitL n c.drafts:=⟨h.ld,fun f hf=>⟨(h.fd f hf).1,(h.fd f hf).2,h.sd f hf⟩⟩
theorem KFit.pl {n c} (h:KFit n c):FitL n c.past:=⟨h.lp,fun f hf=>⟨(h.fp f hf).1,(h.fp f hf).2,h.sp f hf⟩⟩
theorem KFit.of {n:Nat} {ts:List Tab} {a b d:List Ftr} (h1:ts.length≤n) (h2:∀ t ∈ ts,FitT t) (ha:FitL n a) (hb:FitL n b) (hd:FitL n d):KFit n ⟨ts,a,b,d⟩ :=
 ⟨h1,ha.1,hb.1,hd.1,h2,fun f hf=>⟨(ha.2 f hf).1,(ha.2 f hf).2.1⟩,fun f hf=>⟨(hb.2 f hf).1,(hb.2 f hf).2.1⟩,fun f hf=>⟨(hd.2 f hf).1,(hd.2 f hf).2.1⟩,fun f hf=>(ha.2 f hf).2.2,fun f hf=>(hb.2 f hf).2.2,fun f hf=>(hd.2 f hf).2.2⟩
abbrev OkKI (n:Nat) (P:Program) (f:FuncId) (zs:List V):Prop:=Ok P f zs [] fun v bs rs=>(∃ (c:Cat) (k:Int),v=.tup [vCat c,vint k]∧KFit n c)∧bs=[]∧rs=[]
theorem finK0 (n:Nat) (k:Int) (X:List (Nat × B)) (Y:List VL.Row):∃ v bs' rs',Le (.tup [.agg [nilS,nilS,nilS,nilS],vint k]) v∧bs'.Sublist X∧rs'.Sublist Y∧(∃ (c:Cat) (k:Int),v=.tup [vCat c,vint k]∧KFit n c)∧bs'=[]∧rs'=[] :=
 ⟨_,[],[],leTup (.cons (leAgg (.cons (Le.nil 4) (.cons (Le.nil 18) (.cons (Le.nil 18) (.cons (Le.nil 18) .nil))))) (.cons (Le.refl _) .nil)),List.nil_sublist _,List.nil_sublist _,⟨⟨[],[],[],[]⟩,k,rfl,KFit.of (Nat.zero_le _) (fun t ht=>absurd ht List.not_mem_nil) ⟨Nat.zero_le _,fun f hf=>absurd hf List.not_mem_nil⟩ ⟨Nat.zero_le _,fun f hf=>absurd hf List.not_mem_nil⟩ ⟨Nat.zero_le _,fun f hf=>absurd hf List.not_mem_nil⟩⟩,rfl,rfl⟩
theorem finK (n:Nat) (ts:List Tab) (a b d:List Ftr) (k:Int) (X:List (Nat × B)) (Y:List VL.Row) (h:KFit n ⟨ts,a,b,d⟩):∃ v bs' rs',Le (.tup [.agg [vTabs ts,vFtrs a,vFtrs b,vFtrs d],vint k]) v∧bs'.Sublist X∧rs'.Sublist Y∧(∃ (c:Cat) (k:Int),v=.tup [vCat c,vint k]∧KFit n c)∧bs'=[]∧rs'=[] :=
 ⟨_,[],[],Le.refl _,List.nil_sublist _,List.nil_sublist _,⟨⟨ts,a,b,d⟩,k,rfl,h⟩,rfl,rfl⟩
theorem idx_nat {k:Int} {N:Nat} (h:k=-1∨0≤k∧k < N):k=-1∨∃ m:Nat,m < N∧k=m :=
 h.imp id fun⟨h1,h2⟩=>⟨k.toNat,by omega,by omega⟩
def tbD20:=(aI (aI (aI (aI Ty.c128 Ty.c131) (aI Ty.t156 (aI Ty.t231 Ty.t26))) (aI (aI Ty.t3 Ty.t4) (aI Ty.t60 (aI Ty.t61 Ty.t63)))) (aI (aI (aI Ty.t78 Ty.t80) (aI Ty.t81 (aI Ty.t83 Ty.t85))) (aI (aI Ty.t87 Ty.t88) (aI Ty.t9 (aI Ty.t90 Ty.t92)))))
theorem drop14_ok (n:Nat) (c:Cat) (s:Str) (hn:n≤1000000) (hk:KFit n c):OkKI n Tryz.prog 100 [vCat c,vstr s]:=by
 have hd:=Nat.le_trans hk.ld hn
 refine Ok.of_ex Ty.mixed Tryz.func100 rfl (by simp [Tryz.ntmps100]) (by kernel_rfl) fun F w0 I0=>?_
 simp only [↓rA,rB]
 refine fun b2 h2=>?_;replace h2:=newb h2;try simp only [Nb] at h2
 simp only [↓rA,rB,tbD20]
 refine fun b4 h4=>?_;replace h4:=newb h4;try simp only [Nb] at h4
 have hh:=And.intro h2 h4
 simp only [↓rA,rB,Nat.reduceAdd,Nat.reduceEqDiff,tbD20,hh]
 refine OkF_with [] _ (List.Perm.refl _) (index14_ok c.drafts s hd) ?_
 rintro v bs rs ⟨⟨k,rfl,hki⟩,rfl,rfl⟩
 rcases idx_nat hki with rfl | ⟨m,hm,rfl⟩
 ·simp only [↓rA,rB,Int.reduceLT,Nat.reduceAdd,Nat.reduceEqDiff,tbD20,Tryz.results100]
  exact finK0 _ _ _ _
 ·have q:¬ (m:Int) < 0:=by omega
  simp only [↓rA,rB,Nat.reduceAdd,Nat.reduceEqDiff,tbD20,hh,q]
  refine OkF_of _ (without_ok c.drafts m hm hd) ?_
  simp only [↓rA,rB,Nat.reduceAdd,Nat.reduceEqDiff,Nat.reduceLeDiff,tbD20,Tryz.results100,hh]
  exact finK _ _ _ _ _ _ _ _ (KFit.of hk.lt hk.ft hk.fl (hk.dl.without m) hk.pl)
def tbD21:=(aI (aI (aI (aI Ty.c104 Ty.c128) (aI Ty.c129 (aI Ty.c130 Ty.t156))) (aI (aI Ty.t231 (aI Ty.t26 Ty.t3)) (aI Ty.t4 (aI Ty.t60 Ty.t61)))) (aI (aI (aI Ty.t63 Ty.t78) (aI Ty.t80 (aI Ty.t81 Ty.t83))) (aI (aI Ty.t85 (aI Ty.t87 Ty.t88)) (aI Ty.t9 (aI Ty.t90 Ty.t92)))))
theorem publish14_ok (n:Nat) (c:Cat) (f:Ftr) (hn:n≤999999) (hk:KFit n c) (hf:GF f):OkKI (n+1) Tryz.prog 97 [vCat c,.agg (cFtr f)]:=by
 have hd:=Nat.le_trans hk.ld hn
 have hq:=featureC_ok n c f (by omega) hk hf.1 hf.2.1
 have hins:=fun k:Int=>insert14_ok c.drafts { f with version:=k } (by omega)
 simp only [cFtr_eq] at hq hins ⊢
 refine Ok.of_ex Ty.mixed Tryz.func97 rfl (by simp [Tryz.ntmps97]) (by kernel_rfl) fun F w0 I0=>?_
 simp only [↓rA,rB]
 refine fun b2 h2=>?_;replace h2:=newb h2;try simp only [Nb] at h2
 simp only [↓rA,rB,Nat.reduceEqDiff]
 refine fun b3 h3=>?_;replace h3:=newb h3;try simp only [Nb] at h3
 simp only [↓rA,rB,tbD21]
 refine fun b4 h4=>?_;replace h4:=newb h4;try simp only [Nb] at h4
 have hh:=And.intro h2 (And.intro h3 h4)
 by_cases v0:f.version=0
 case neg =>
  simp only [↓rA,rB,Nat.reduceAdd,Nat.reduceEqDiff,tbD21,Tryz.results97,hh,v0]
  exact finK0 _ _ _ _
 have e0:(f.version=0)=True:=eq_true v0
 simp only [↓rA,rB,Nat.reduceAdd,Nat.reduceEqDiff,tbD21,hh,e0]
 refine OkF_with [] _ (List.Perm.refl _) (index14_ok c.drafts f.name (by omega)) ?_
 rintro v bs rs ⟨⟨k,rfl,hki⟩,rfl,rfl⟩
 rcases idx_nat hki with rfl | ⟨m,hm,rfl⟩
 case inr =>
  have q:(0:Int)≤(m:Int):=by omega
  simp only [↓rA,rB,Nat.reduceAdd,Nat.reduceEqDiff,tbD21,Tryz.results97,q]
  exact finK0 _ _ _ _
 simp only [↓rA,rB,Int.reduceLE,Nat.reduceAdd,Nat.reduceEqDiff,tbD21,hh]
 refine OkF_with [] _ (List.Perm.refl _) hq ?_
 rintro v bs rs ⟨⟨k,rfl⟩,rfl,rfl⟩
 by_cases k0:k=0
 case neg =>
  simp only [↓rA,rB,Nat.reduceAdd,Nat.reduceEqDiff,tbD21,Tryz.results97,k0]
  exact finK0 _ _ _ _
 simp only [↓rA,rB,Nat.reduceAdd,Nat.reduceEqDiff,tbD21,hh,k0]
 refine OkF_with [] _ (List.Perm.refl _) (newest_ok n c f.name (by omega) hk) ?_
 rintro v bs rs ⟨⟨k,rfl⟩,rfl,rfl⟩
 simp only [↓rA,rB]
 refine onCond_splitb (fun hc=>?_) (fun hc=>?_)
 ·simp only [↓rA,rB,Nat.reduceAdd,Nat.reduceEqDiff,tbD21,Tryz.results97]
  exact finK0 _ _ _ _
 simp only [↓rA,rB,Nat.reduceAdd,Nat.reduceEqDiff,tbD21,hh]
 refine OkF_with [] _ (List.Perm.refl _) (newest_ok n c f.name (by omega) hk) ?_
 rintro v bs rs ⟨⟨k,rfl⟩,rfl,rfl⟩
 simp only [↓rA,rB,Nat.reduceAdd,Nat.reduceEqDiff,tbD21,hh]
 refine OkF_of _ (hins (IntKind.i64.wrap (k+1))) ?_
 simp only [↓rA,rB,Nat.reduceAdd,Nat.reduceEqDiff,Nat.reduceLeDiff,tbD21,Tryz.results97,hh]
 exact finK _ _ _ _ _ _ _ _ (KFit.of (Nat.le_succ_of_le hk.lt) hk.ft (hk.fl.up (Nat.le_succ _)) (hk.dl.insert (by exact hf) _) (hk.pl.up (Nat.le_succ _)))
end Go.Proofs.YtopfanlkbepemaaGreat
set_option linter.unusedSimpArgs false
set_option maxRecDepth 100000
set_option linter.defProp false
namespace Go.Proofs.YtopfanlkbepemaaGreat
open Go.VL Go.Ar Go.Lo Go.Proofs.YtopfanlkbepemaaGreat
theorem FitL.get {n:Nat} {l:List Ftr} (h:FitL n l) {i:Nat} (hi:i < l.length):GF l[i]:=h.2 _ (List.getElem_mem hi)
def tbD30:=(aI (aI (aI (aI Ty.c128 Ty.c130) (aI Ty.c131 (aI Ty.t156 Ty.t231))) (aI (aI Ty.t26 Ty.t3) (aI Ty.t4 (aI Ty.t60 Ty.t61)))) (aI (aI (aI Ty.t63 Ty.t78) (aI Ty.t80 (aI Ty.t81 Ty.t83))) (aI (aI Ty.t85 (aI Ty.t87 Ty.t88)) (aI Ty.t9 (aI Ty.t90 Ty.t92)))))
set_option maxHeartbeats 1000000 in
theorem enforce14_ok (n:Nat) (c:Cat) (s:Str) (hn:n≤999999) (hk:KFit n c):OkKI (n+1) Tryz.prog 98 [vCat c,vstr s]:=by
 have hd:=Nat.le_trans hk.ld hn
 have hl:=Nat.le_trans hk.lf hn
 have hp:=Nat.le_trans hk.lp hn
 refine Ok.of_exM [(8,1)] Ty.mixed Tryz.func98 rfl (by simp [Tryz.ntmps98]) (by kernel_rfl) fun F w0 I0=>?_
 simp only [↓rA,rB]
 refine fun b2 h2=>?_;replace h2:=newb h2;try simp only [Nb] at h2
 simp only [↓rA,rB,tbD30]
 refine fun b4 h4=>?_;replace h4:=newb h4;try simp only [Nb] at h4
 have hh:=And.intro h2 h4
 simp only [↓rA,rB,Nat.reduceAdd,Nat.reduceEqDiff,tbD30,hh]
 refine OkF_with [] _ (List.Perm.refl _) (index14_ok c.drafts s (by omega)) ?_
 rintro v bs rs ⟨⟨k,rfl,hki⟩,rfl,rfl⟩
 rcases idx_nat hki with rfl | ⟨m,hm,rfl⟩
 ·simp only [↓rA,rB,Int.reduceLT,Nat.reduceAdd,Nat.reduceEqDiff,tbD30,Tryz.results98]
  exact finK0 _ _ _ _
 have q:¬ (m:Int) < 0:=by omega
 have q':(0:Int)≤(m:Int):=by omega
 have hg:=hk.dl.get hm
 simp only [↓rA,rB,Nat.reduceAdd,Nat.reduceEqDiff,tbD30,hh,q,q',Int.ofNat_lt,hm,List.length_map,getD_map _ _ _ hm,cFtr_eq c.drafts[m]]
 refine fun b7 h7=>?_;replace h7:=newb h7;try simp only [Nb] at h7
 have hh:=And.intro hh h7
 simp only [↓rA,rB,Nat.reduceAdd,Nat.reduceEqDiff,tbD30,hh]
 refine OkF_of _ (without_ok c.drafts m hm (by omega)) ?_
 have hw:=hk.dl.without m
 generalize c.drafts.take m++c.drafts.drop (m+1)=D at hw
 simp only [↓rA,rB,Nat.reduceAdd,Nat.reduceEqDiff,Nat.reduceLeDiff,tbD30,hh]
 refine OkF_with [] _ (List.Perm.refl _) (index14_ok c.features s (by omega)) ?_
 rintro v bs rs ⟨⟨k,rfl,hki⟩,rfl,rfl⟩
 generalize hgf:c.drafts[m]=g at hg
 have hin:=fun(l:List Ftr) (hl:l.length≤1000000)=>insert14_ok l g hl
 simp only [cFtr_eq] at hin
 rcases idx_nat hki with rfl | ⟨j,hj,rfl⟩
 ·simp only [↓rA,rB,Int.reduceLE,Nat.reduceAdd,Nat.reduceEqDiff,tbD30,hh]
  refine OkF_of _ (hin c.features (by omega)) ?_
  simp only [↓rA,rB,Nat.reduceAdd,Nat.reduceEqDiff,Nat.reduceLeDiff,tbD30,Tryz.results98,hh]
  exact finK _ _ _ _ _ _ _ _ (KFit.of (Nat.le_succ_of_le hk.lt) hk.ft (hk.fl.insert hg _) (hw.up (Nat.le_succ _)) (hk.pl.up (Nat.le_succ _)))
 have r:¬ (j:Int) < 0:=by omega
 have r':(0:Int)≤(j:Int):=by omega
 have hgj:=hk.fl.get hj
 have hin2:=insert14_ok c.past c.features[j] (by omega)
 simp only [cFtr_eq] at hin2
 simp only [↓rA,rB,Nat.reduceAdd,Nat.reduceEqDiff,tbD30,hh,r',Int.ofNat_lt,hj,List.length_map,getD_map _ _ _ hj,cFtr_eq c.features[j]]
 refine CallV_of _ hin2.v ?_
 simp only [↓rA,rB,Nat.reduceAdd,Nat.reduceEqDiff,tbD30,hh]
 refine OkF_of _ (without_ok c.features j hj (by omega)) ?_
 have hwf:=hk.fl.without j
 generalize c.features.take j++c.features.drop (j+1)=A at hwf
 simp only [↓rA,rB,Nat.reduceAdd,Nat.reduceEqDiff,Nat.reduceLeDiff,tbD30,hh]
 refine OkF_of _ (hin A (by have:=hwf.1;omega)) ?_
 simp only [↓rA,rB,Nat.reduceAdd,Nat.reduceEqDiff,Nat.reduceLeDiff,tbD30,Tryz.results98,hh]
 exact finK _ _ _ _ _ _ _ _ (KFit.of (Nat.le_succ_of_le hk.lt) hk.ft (hwf.insert hg _) (hw.up (Nat.le_succ _)) (hk.pl.insert hgj _))
def tbD31:=(aI (aI (aI (aI Ty.c128 Ty.c130) (aI Ty.c131 (aI Ty.c132 Ty.t156))) (aI (aI Ty.t231 (aI Ty.t26 Ty.t3)) (aI Ty.t4 (aI Ty.t60 Ty.t61)))) (aI (aI (aI Ty.t63 Ty.t78) (aI Ty.t80 (aI Ty.t81 Ty.t83))) (aI (aI Ty.t85 (aI Ty.t87 Ty.t88)) (aI Ty.t9 (aI Ty.t90 Ty.t92)))))
set_option maxHeartbeats 1000000 in
theorem rollback14_ok (n:Nat) (c:Cat) (s:Str) (hn:n≤999999) (hk:KFit n c):OkKI (n+1) Tryz.prog 99 [vCat c,vstr s]:=by
 have hd:=Nat.le_trans hk.ld hn
 have hl:=Nat.le_trans hk.lf hn
 have hp:=Nat.le_trans hk.lp hn
 refine Ok.of_exM [(8,1),(9,1)] Ty.mixed Tryz.func99 rfl (by simp [Tryz.ntmps99]) (by kernel_rfl) fun F w0 I0=>?_
 simp only [↓rA,rB]
 refine fun b2 h2=>?_;replace h2:=newb h2;try simp only [Nb] at h2
 simp only [↓rA,rB,tbD31]
 refine fun b4 h4=>?_;replace h4:=newb h4;try simp only [Nb] at h4
 have hh:=And.intro h2 h4
 simp only [↓rA,rB,Nat.reduceAdd,Nat.reduceEqDiff,tbD31,hh]
 refine OkF_with [] _ (List.Perm.refl _) (index14_ok c.features s (by omega)) ?_
 rintro v bs rs ⟨⟨k,rfl,hki⟩,rfl,rfl⟩
 rcases idx_nat hki with rfl | ⟨m,hm,rfl⟩
 ·simp only [↓rA,rB,Int.reduceLT,Nat.reduceAdd,Nat.reduceEqDiff,tbD31,Tryz.results99]
  exact finK0 _ _ _ _
 have q:¬ (m:Int) < 0:=by omega
 have q':(0:Int)≤(m:Int):=by omega
 simp only [↓rA,rB,Nat.reduceAdd,Nat.reduceEqDiff,tbD31,hh,q]
 refine OkF_with [] _ (List.Perm.refl _) (last14_ok c.past s (by omega)) ?_
 rintro v bs rs ⟨⟨k,rfl,hki⟩,rfl,rfl⟩
 rcases idx_nat hki with rfl | ⟨j,hj,rfl⟩
 ·simp only [↓rA,rB,Int.reduceLT,Nat.reduceAdd,Nat.reduceEqDiff,tbD31,Tryz.results99]
  exact finK0 _ _ _ _
 have r:¬ (j:Int) < 0:=by omega
 have r':(0:Int)≤(j:Int):=by omega
 simp only [↓rA,rB,Nat.reduceAdd,Nat.reduceEqDiff,tbD31,hh,r]
 refine OkF_with [] _ (List.Perm.refl _) (index14_ok c.drafts s (by omega)) ?_
 rintro v bs rs ⟨⟨k,rfl,hki⟩,rfl,rfl⟩
 rcases idx_nat hki with rfl | ⟨i,hi,rfl⟩
 case inr =>
  have w':(0:Int)≤(i:Int):=by omega
  simp only [↓rA,rB,Nat.reduceAdd,Nat.reduceEqDiff,tbD31,Tryz.results99,w']
  exact finK0 _ _ _ _
 have hgm:=hk.fl.get hm
 have hgj:=hk.pl.get hj
 have hin:=insert14_ok c.drafts c.features[m] (by omega)
 simp only [cFtr_eq] at hin
 simp only [↓rA,rB,Int.reduceLE,Nat.reduceAdd,Nat.reduceEqDiff,tbD31,hh,r',Int.ofNat_lt,hj,List.length_map,getD_map _ _ _ hj,cFtr_eq c.past[j]]
 refine fun b8 h8=>?_;replace h8:=newb h8;try simp only [Nb] at h8
 have hh:=And.intro hh h8
 generalize hgp:c.past[j]=p at hgj
 have hin2:=fun(l:List Ftr) (hl:l.length≤1000000)=>insert14_ok l p hl
 simp only [cFtr_eq] at hin2
 simp only [↓rA,rB,Nat.reduceAdd,Nat.reduceEqDiff,tbD31,hh,q',Int.ofNat_lt,hm,List.length_map,getD_map _ _ _ hj,getD_map _ _ _ hm,cFtr_eq c.features[m]]
 refine CallV_of _ hin.v ?_
 simp only [↓rA,rB,Nat.reduceAdd,Nat.reduceEqDiff,Nat.reduceLeDiff,tbD31,hh]
 refine CallV_of _ (without_ok c.features m hm (by omega)).v ?_
 have hwf:=hk.fl.without m
 generalize c.features.take m++c.features.drop (m+1)=A at hwf
 simp only [↓rA,rB,Nat.reduceAdd,Nat.reduceEqDiff,tbD31]
 refine CallV_of _ (hin2 A (by have:=hwf.1;omega)).v ?_
 simp only [↓rA,rB,Nat.reduceAdd,Nat.reduceEqDiff,Nat.reduceLeDiff,tbD31,hh]
 refine OkF_of _ (without_ok c.past j hj (by omega)) ?_
 simp only [↓rA,rB,Nat.reduceAdd,Nat.reduceEqDiff,tbD31,Tryz.results99,hh]
 exact finK _ _ _ _ _ _ _ _ (KFit.of (Nat.le_succ_of_le hk.lt) hk.ft (hwf.insert hgj _) (hk.dl.insert hgm _) ((hk.pl.without j).up (Nat.le_succ _)))
end Go.Proofs.YtopfanlkbepemaaGreat
set_option linter.unusedSimpArgs false
set_option maxRecDepth 100000
set_option linter.defProp false
namespace Go.Proofs.YtopfanlkbepemaaGreat
open Go.VL Go.Ar Go.Lo Go.Proofs.YtopfanlkbepemaaGreat
def tbD40:=(aI (aI (aI (aI Ty.c64 Ty.t152) (aI Ty.t156 (aI Ty.t231 Ty.t26))) (aI (aI Ty.t3 Ty.t4) (aI Ty.t60 (aI Ty.t61 Ty.t63)))) (aI (aI (aI Ty.t78 Ty.t80) (aI Ty.t81 (aI Ty.t83 Ty.t85))) (aI (aI Ty.t87 Ty.t88) (aI Ty.t9 (aI Ty.t90 Ty.t92)))))
set_option maxHeartbeats 1000000 in
theorem table14_ok (n:Nat) (c:Cat) (t:Tab) (hn:n≤999999) (hk:KFit n c) (ht:FitT t):OkKI (n+1) Tryz.prog 96 [vCat c,.agg (cTab t)]:=by
 have hl:=Nat.le_trans hk.lt hn
 refine Ok.of_exM [(8,4)] Ty.mixed Tryz.func96 rfl (by simp [Tryz.ntmps96]) (by kernel_rfl) fun F w0 I0=>?_
 simp only [↓rA,rB]
 refine fun b2 h2=>?_;replace h2:=newb h2;try simp only [Nb] at h2
 simp only [↓rA,rB,Nat.reduceEqDiff]
 refine fun b3 h3=>?_;replace h3:=newb h3;try simp only [Nb] at h3
 simp only [↓rA,rB,tbD40]
 refine fun b4 h4=>?_;replace h4:=newb h4;try simp only [Nb] at h4
 have hh:=And.intro h2 (And.intro h3 h4)
 simp only [↓rA,rB,Nat.reduceAdd,Nat.reduceEqDiff,tbD40,hh]
 refine OkF_with [] _ (List.Perm.refl _) (table12_ok c t.name (by omega)) ?_
 rintro v bs rs ⟨⟨t6,b,rfl,ht6⟩,rfl,rfl⟩
 simp only [↓rA,rB,Nat.reduceEqDiff,tbD40]
 refine fun b6 h6=>?_;replace h6:=newb h6;try simp only [Nb] at h6
 have hh:=And.intro hh h6
 cases b
 case true =>
  simp only [↓rA,rB,Nat.reduceAdd,Nat.reduceEqDiff,tbD40,Tryz.results96,hh]
  exact finK0 _ _ _ _
 simp only [↓rA,rB,Nat.reduceAdd,Nat.reduceEqDiff,tbD40,Tryz.results96]
 refine EX_while Ty.mixed (by kernel_rfl) (fun i:Nat=>c.tables.length - i) (fun i S=>i≤c.tables.length∧S.boxes=[(b6,.c (cTab t6)),(b4,.c [nilS,nilS,nilS,nilS]),(b3,.c (cTab t)),(b2,.c (cCat c))]∧S.rows=[]∧S.σ 2=ptr b2∧S.σ 3=ptr b3∧S.σ 4=ptr b4∧S.σ 8=vint i) 0 ⟨0,?_⟩ (fun i S ⟨hi,gb,gr,g2,g3,g4,g8⟩=>?_)
 ·simp only [rB,Nat.reduceEqDiff]
  first | done | exact⟨Nat.zero_le _,rfl⟩
 ·have fin:∀ (y:Value) (X:List (Nat × B)) (Y:List VL.Row),∃ v bs' rs',Le (.tup [.agg [.list (some y) 4 (List.take i (c.tables.map cTab)++[cTab t]++List.drop i (c.tables.map cTab)),vFtrs c.features,vFtrs c.drafts,vFtrs c.past],vint 0]) v∧bs'.Sublist X∧rs'.Sublist Y∧(∃ (c:Cat) (k:Int),v=.tup [vCat c,vint k]∧KFit (n+1) c)∧bs'=[]∧rs'=[]:=fun y X Y=>by
   refine⟨.tup [vCat ⟨c.tables.take i++(t::c.tables.drop i),c.features,c.drafts,c.past⟩,vint 0],[],[],leTup (.cons (leAgg (.cons ?_ (.cons (Le.refl _) (.cons (Le.refl _) (.cons (Le.refl _) .nil))))) (.cons (Le.refl _) .nil)),List.nil_sublist _,List.nil_sublist _,⟨_,0,rfl,KFit.of ?_ (fun z hz=>?_) (hk.fl.up (Nat.le_succ _)) (hk.dl.up (Nat.le_succ _)) (hk.pl.up (Nat.le_succ _))⟩,rfl,rfl⟩
   ·rw [vTabs,List.map_append,List.map_cons,List.map_take,List.map_drop]
    refine fun w I x hx=>?_
    have:=Le.list _ _ _ w I x hx
    rwa [List.append_assoc] at this
   ·have:=hk.lt
    rw [List.length_append,List.length_cons,List.length_take,List.length_drop];omega
   ·rcases List.mem_append.1 hz with hz | hz
    ·exact hk.ft z (List.mem_of_mem_take hz)
    ·rcases List.mem_cons.1 hz with rfl | hz
     ·exact ht
     ·exact hk.ft z (List.mem_of_mem_drop hz)
  have hki:(i:Int)≤c.tables.length:=by omega
  have q1:(List.take i (c.tables.map cTab)).length=i:=by rw [List.length_take,List.length_map];omega
  have q2:(List.drop i (c.tables.map cTab)).length=c.tables.length - i:=by rw [List.length_drop,List.length_map]
  by_cases hlt:i < c.tables.length
  case neg =>
   simp only [↓rA,rB,Nat.reduceAdd,Nat.reduceEqDiff,tbD40,gb,g2,g8,hh,hlt,Int.ofNat_lt,List.length_map]
   refine Or2.l ?_
   try simp only [↓rA,rB,Nat.reduceAdd,Nat.reduceEqDiff,Nat.reduceLT,Nat.reduceLeDiff,Nat.reduceMul,reduceCtorEq,tbD40,gb,gr,g2,g3,g8,hh,List.length_map]
   refine fun y1=>⟨by omega,by rw [q1];omega,fun y2 y3=>takeRF_2 ?_⟩
   simp only [↓rA,rB,Nat.reduceAdd,Nat.reduceEqDiff,Nat.reduceLT,reduceCtorEq,tbD40,gb,g2,g8,hh,List.length_map,q1]
   refine⟨by omega,fun y4=>⟨by omega,takeRF_1 ?_⟩⟩
   simp only [↓rA,rB,Nat.reduceAdd,Nat.reduceEqDiff,Nat.reduceLeDiff,reduceCtorEq,tbD40,gb,g2,g4,hh,List.length_map,q1,q2,List.length_append]
   refine⟨by omega,fun y5=>?_⟩
   exact fin _ _ _
  ·have hwi:=wrap_succ (i:=i) (N:=c.tables.length) hlt (by omega)
   simp only [↓rA,rB,Nat.reduceAdd,Nat.reduceEqDiff,tbD40,gb,g2,g3,g8,hh,Int.ofNat_lt,hlt,List.length_map,getD_map _ _ _ hlt]
   refine onCond_splitb (fun hc=>?_) (fun hc=>?_)
   ·simp only [↓rA,rB,Nat.reduceEqDiff,gb,gr,g2,g3,g4,g8,hwi]
    exact⟨i+1,by omega,0,by omega,rfl,rfl⟩
   ·simp only [↓rA,rB,List.length_map]
    refine Or2.l ?_
    try simp only [↓rA,rB,Nat.reduceAdd,Nat.reduceEqDiff,Nat.reduceLT,Nat.reduceLeDiff,Nat.reduceMul,reduceCtorEq,tbD40,gb,gr,g2,g3,g8,hh,List.length_map]
    refine fun y1=>⟨by omega,by rw [q1];omega,fun y2 y3=>takeRF_2 ?_⟩
    simp only [↓rA,rB,Nat.reduceAdd,Nat.reduceEqDiff,Nat.reduceLT,reduceCtorEq,tbD40,gb,g2,g8,hh,List.length_map,q1]
    refine⟨by omega,fun y4=>⟨by omega,takeRF_1 ?_⟩⟩
    simp only [↓rA,rB,Nat.reduceAdd,Nat.reduceEqDiff,Nat.reduceLeDiff,reduceCtorEq,tbD40,gb,g2,g4,hh,List.length_map,q1,q2,List.length_append]
    refine⟨by omega,fun y5=>?_⟩
    exact fin _ _ _
def tbD41:=(aI (aI (aI (aI Ty.c100 (aI Ty.c96 Ty.c97)) (aI Ty.c98 (aI Ty.c99 Ty.t156))) (aI (aI Ty.t231 (aI Ty.t26 Ty.t3)) (aI Ty.t4 (aI Ty.t60 Ty.t61)))) (aI (aI (aI Ty.t63 (aI Ty.t64 Ty.t78)) (aI Ty.t80 (aI Ty.t81 Ty.t83))) (aI (aI Ty.t85 (aI Ty.t87 Ty.t88)) (aI (aI Ty.t9 Ty.t90) (aI Ty.t92 Ty.t94)))))
theorem changed14_ok (n:Nat) (c:Cat) (g:Chg) (hn:n≤999999) (hk:KFit n c) (hg:FitC g) (hgf:GF g.feature):OkKI (n+1) Tryz.prog 69 [vCat c,.agg (cChange g)]:=by
 have hp:=publish14_ok n c g.feature hn hk hgf
 simp only [cFtr_eq] at hp
 simp only [cChange_eq]
 refine Ok.of_ex Ty.mixed Tryz.func69 rfl (by simp [Tryz.ntmps69]) (by kernel_rfl) fun F w0 I0=>?_
 simp only [↓rA,rB]
 refine fun b2 h2=>?_;replace h2:=newb h2;try simp only [Nb] at h2
 simp only [↓rA,rB,Nat.reduceEqDiff]
 refine fun b3 h3=>?_;replace h3:=newb h3;try simp only [Nb] at h3
 simp only [↓rA,rB,tbD41]
 refine fun b4 h4=>?_;replace h4:=newb h4;try simp only [Nb] at h4
 have hh:=And.intro h2 (And.intro h3 h4)
 by_cases k1:g.kind=1
 ·simp only [↓rA,rB,Nat.reduceAdd,Nat.reduceEqDiff,Nat.reduceLeDiff,tbD41,hh,k1]
  refine OkF_with [] _ (List.Perm.refl _) (table14_ok n c g.table hn hk hg.1) ?_
  rintro v bs rs ⟨⟨c1,n1,rfl,hk1⟩,rfl,rfl⟩
  simp only [↓rA,rB,Nat.reduceAdd,Nat.reduceEqDiff,tbD41,Tryz.results69,k1]
  exact finK _ _ _ _ _ _ _ _ hk1
 by_cases k2:g.kind=2
 ·simp only [↓rA,rB,Int.reduceEq,Nat.reduceAdd,Nat.reduceEqDiff,Nat.reduceLeDiff,tbD41,hh,k2]
  refine OkF_with [] _ (List.Perm.refl _) (hp) ?_
  rintro v bs rs ⟨⟨c1,n1,rfl,hk1⟩,rfl,rfl⟩
  simp only [↓rA,rB,Nat.reduceAdd,Nat.reduceEqDiff,tbD41,Tryz.results69,k2]
  exact finK _ _ _ _ _ _ _ _ hk1
 by_cases k3:g.kind=3
 ·simp only [↓rA,rB,Int.reduceEq,Nat.reduceAdd,Nat.reduceEqDiff,tbD41,hh,k3]
  refine OkF_with [] _ (List.Perm.refl _) (enforce14_ok n c g.name hn hk) ?_
  rintro v bs rs ⟨⟨c1,n1,rfl,hk1⟩,rfl,rfl⟩
  simp only [↓rA,rB,Nat.reduceAdd,Nat.reduceEqDiff,tbD41,Tryz.results69,k3]
  exact finK _ _ _ _ _ _ _ _ hk1
 by_cases k4:g.kind=4
 ·simp only [↓rA,rB,Int.reduceEq,Nat.reduceAdd,Nat.reduceEqDiff,tbD41,hh,k4]
  refine OkF_with [] _ (List.Perm.refl _) (rollback14_ok n c g.name hn hk) ?_
  rintro v bs rs ⟨⟨c1,n1,rfl,hk1⟩,rfl,rfl⟩
  simp only [↓rA,rB,Nat.reduceAdd,Nat.reduceEqDiff,tbD41,Tryz.results69,k4]
  exact finK _ _ _ _ _ _ _ _ hk1
 simp only [↓rA,rB,Nat.reduceAdd,Nat.reduceEqDiff,tbD41,hh,k1,k2,k3,k4]
 refine OkF_with [] _ (List.Perm.refl _) (drop14_ok n c g.name (by omega) hk) ?_
 rintro v bs rs ⟨⟨c1,n1,rfl,hk1⟩,rfl,rfl⟩
 simp only [↓rA,rB,Nat.reduceAdd,Nat.reduceEqDiff,tbD41,Tryz.results69]
 exact finK _ _ _ _ _ _ _ _ (KFit.of (Nat.le_succ_of_le hk1.lt) hk1.ft (hk1.fl.up (Nat.le_succ _)) (hk1.dl.up (Nat.le_succ _)) (hk1.pl.up (Nat.le_succ _)))
def tbD42:=(aI (aI (aI (aI Ty.c68 Ty.c69) (aI Ty.c70 (aI Ty.t156 Ty.t231))) (aI (aI Ty.t26 (aI Ty.t3 Ty.t4)) (aI Ty.t60 (aI Ty.t61 Ty.t63)))) (aI (aI (aI Ty.t64 (aI Ty.t78 Ty.t80)) (aI Ty.t81 (aI Ty.t83 Ty.t85))) (aI (aI Ty.t87 (aI Ty.t88 Ty.t9)) (aI Ty.t90 (aI Ty.t92 Ty.t94)))))
theorem apply14_ok (n:Nat) (c:Cat) (g:Chg) (hn:n≤999999) (hk:KFit n c) (hg:FitC g) (hgf:GF g.feature):OkKI (n+1) Tryz.prog 39 [vCat c,.agg (cChange g)]:=by
 have hp:=proper14_ok g hg
 have hc:=changed14_ok n c g hn hk hg hgf
 simp only [cChange_eq] at hp hc ⊢
 refine Ok.of_ex Ty.mixed Tryz.func39 rfl (by simp [Tryz.ntmps39]) (by kernel_rfl) fun F w0 I0=>?_
 simp only [↓rA,rB]
 refine fun b2 h2=>?_;replace h2:=newb h2;try simp only [Nb] at h2
 simp only [↓rA,rB,Nat.reduceEqDiff]
 refine fun b3 h3=>?_;replace h3:=newb h3;try simp only [Nb] at h3
 simp only [↓rA,rB,tbD42]
 refine fun b4 h4=>?_;replace h4:=newb h4;try simp only [Nb] at h4
 have hh:=And.intro h2 (And.intro h3 h4)
 simp only [↓rA,rB,Nat.reduceAdd,Nat.reduceEqDiff,tbD42,hh]
 refine OkF_with [] _ (List.Perm.refl _) hp ?_
 rintro v bs rs ⟨⟨b,rfl⟩,rfl,rfl⟩
 cases b
 ·simp only [↓rA,rB,Nat.reduceAdd,Nat.reduceEqDiff,tbD42,Tryz.results39]
  exact finK0 _ _ _ _
 simp only [↓rA,rB,Nat.reduceAdd,Nat.reduceEqDiff,tbD42,hh]
 refine OkF_with [] _ (List.Perm.refl _) hc ?_
 rintro v bs rs ⟨⟨c1,n1,rfl,hk1⟩,rfl,rfl⟩
 simp only [↓rA,rB,Nat.reduceEqDiff,tbD42]
 refine fun b6 h6=>?_;replace h6:=newb h6;try simp only [Nb] at h6
 have hh:=And.intro hh h6
 by_cases n0:n1=0
 case neg =>
  simp only [↓rA,rB,Nat.reduceAdd,Nat.reduceEqDiff,tbD42,Tryz.results39,hh,n0]
  exact finK0 _ _ _ _
 simp only [↓rA,rB,Nat.reduceAdd,Nat.reduceEqDiff,tbD42,n0]
 refine OkF_with [] _ (List.Perm.refl _) (check12_ok (n+1) c1 (by omega) hk1) ?_
 rintro v bs rs ⟨⟨k,rfl⟩,rfl,rfl⟩
 by_cases k0:k=0
 case neg =>
  simp only [↓rA,rB,Nat.reduceAdd,Nat.reduceEqDiff,tbD42,Tryz.results39,hh,k0]
  exact finK0 _ _ _ _
 simp only [↓rA,rB,Nat.reduceAdd,Nat.reduceEqDiff,tbD42,Tryz.results39,hh,k0]
 exact finK _ _ _ _ _ _ _ _ hk1
end Go.Proofs.YtopfanlkbepemaaGreat
set_option linter.unusedSimpArgs false
set_option maxRecDepth 100000
set_option linter.defProp false
namespace Go.Proofs.YtopfanlkbepemaaGreat
open Go.VL Go.Ar Go.Lo Go.Proofs.YtopfanlkbepemaaGreat
theorem cEtr_eq (e:Etr):cEtr e=vint e.no::vint e.tick::vint e.kind::(cFct e.fact++(cErs e.erasure++cG e.change e.change.feature.body.hd (vEs e.change.feature.body.args))):=rfl
abbrev vEtrs (l:List Etr):V:=.list none 40 (l.map cEtr)
def twiceB (l:List Etr) (i:Nat) (h:i < l.length):Bool:=(l.take i).any fun e=>decide (e.kind=1) && (decide (e.fact.src=l[i].fact.src) && decide (e.fact.seq=l[i].fact.seq))
def tbD50:=(aI (aI (aI (aI Ty.t156 Ty.t22) (aI Ty.t231 (aI Ty.t3 Ty.t4))) (aI (aI Ty.t40 Ty.t41) (aI Ty.t75 (aI Ty.t77 Ty.t78)))) (aI (aI (aI Ty.t80 Ty.t81) (aI Ty.t83 (aI Ty.t85 Ty.t87))) (aI (aI Ty.t88 (aI Ty.t9 Ty.t90)) (aI Ty.t92 (aI Ty.t94 Ty.t96)))))
theorem twice15_ok (l:List Etr) (i:Nat) (h:i < l.length) (hl:l.length≤1000000):OkP Tryz.prog 37 [vEtrs l,vint i] (vbool (twiceB l i h)):=by
 have fb:∀ {a b:Bool},a=b→V.lit (.bool a)=vbool b:=fun h=>by rw [h]
 refine Ok.of_ex Ty.mixed Tryz.func37 rfl (by simp [Tryz.ntmps37]) (by kernel_rfl) fun F w0 I0=>?_
 simp only [↓rA,rB,Tryz.results37]
 refine EX_for Ty.mixed (by kernel_rfl) i (fun j S=>(l.take j).any (fun e=>decide (e.kind=1) && (decide (e.fact.src=l[i].fact.src) && decide (e.fact.seq=l[i].fact.seq)))=false∧S.boxes=[]∧S.rows=[]∧S.σ 0=vEtrs l∧S.σ 1=vint i∧S.σ 5=vint j) ⟨0,?_⟩ (fun j S hj ⟨hf,gb,gr,g0,g1,g5⟩=>?_) (fun S ⟨hf,gb,gr,g0,g1,g5⟩=>?_)
 ·simp only [rB,Nat.reduceEqDiff,reduceCtorEq]
  try exact rfl
 ·have hwj:=wrap_succ (i:=j) (N:=i) hj (by omega)
  have hjl:j < l.length:=Nat.lt_trans hj h
  have c1:=cEtr_eq l[i]
  have c2:=cEtr_eq l[j]
  by_cases k1:l[j].kind=1
  ·cases k2:(decide (l[j].fact.src=l[i].fact.src) && decide (l[j].fact.seq=l[i].fact.seq))
   ·simp only [↓rA,rB,Nat.reduceAdd,Nat.reduceEqDiff,Nat.reduceLeDiff,reduceCtorEq,tbD50,gb,gr,g0,g1,g5,Int.ofNat_lt,h,hj,hjl,List.length_map,getD_map _ _ _ h,getD_map _ _ _ hjl,c1,c2,k1,k2,hwj]
    have hnx:((l.take (j+1)).any fun e=>decide (e.kind=1) && (decide (e.fact.src=l[i].fact.src) && decide (e.fact.seq=l[i].fact.seq)))=false:=by
     rw [List.take_succ_eq_append_getElem hjl,List.any_append,hf]
     simp only [List.any_cons,List.any_nil,k2,Bool.and_false,Bool.or_false]
    first | exact⟨0,hnx,rfl⟩ | exact⟨0,hnx⟩
   ·simp only [↓rA,rB,Nat.reduceAdd,Nat.reduceEqDiff,Nat.reduceLeDiff,reduceCtorEq,tbD50,gb,gr,g0,g1,g5,Int.ofNat_lt,h,hj,hjl,List.length_map,getD_map _ _ _ h,getD_map _ _ _ hjl,c1,c2,k1,k2]
    refine ret_done (fb ?_)
    rw [twiceB]
    refine(List.any_eq_true.2 ⟨l[j],?_,?_⟩).symm
    ·exact List.mem_take_iff_getElem.2 ⟨j,by omega,rfl⟩
    ·rw [k2];simp [k1]
  ·simp only [↓rA,rB,Nat.reduceEqDiff,reduceCtorEq,tbD50,gb,gr,g0,g1,g5,Int.ofNat_lt,hj,hjl,List.length_map,getD_map _ _ _ hjl,c2,k1,hwj]
   have hnx:((l.take (j+1)).any fun e=>decide (e.kind=1) && (decide (e.fact.src=l[i].fact.src) && decide (e.fact.seq=l[i].fact.seq)))=false:=by
    rw [List.take_succ_eq_append_getElem hjl,List.any_append,hf]
    simp [k1]
   first | exact⟨0,hnx,rfl⟩ | exact⟨0,hnx⟩
 ·simp only [↓rA,rB,Nat.reduceEqDiff,gb,gr,g1,g5,Int.ofNat_lt,Nat.lt_irrefl]
  exact ret_done (fb hf.symm)
end Go.Proofs.YtopfanlkbepemaaGreat
set_option linter.unusedSimpArgs false
set_option maxRecDepth 100000
set_option linter.defProp false
namespace Go.Proofs.YtopfanlkbepemaaGreat
open Go.VL Go.Ar Go.Lo Go.Proofs.YtopfanlkbepemaaGreat
def OkE (l:List Etr) (i:Nat) (h:i < l.length):Prop :=
 (1≤l[i].no∧l[i].no≤1099511627776∧0≤l[i].tick∧l[i].tick≤1099511627776)∧(∀ m,∀ hm:i=m+1,l[m].no < l[i].no∧l[m].tick≤l[i].tick)∧(l[i].kind=1→formedB l[i].fact=true∧twiceB l i h=false)
structure FitE (e:Etr):Prop where
 chg:FitC e.change
 ftr:GF e.change.feature
 key:e.erasure.key.size≤1099511627776
 fld:e.fact.fields.length≤big
theorem finO (n:Nat) (c:Cat) (l:List Etr) (i:Nat) (h:i < l.length) (k:Int) (X:List (Nat × B)) (Y:List VL.Row) (hk:KFit n c) (hz:k=0→OkE l i h) :
  ∃ v bs' rs',Le (.tup [.agg [vTabs c.tables,vFtrs c.features,vFtrs c.drafts,vFtrs c.past],vint k]) v∧bs'.Sublist X∧rs'.Sublist Y∧(∃ (c':Cat) (k:Int),v=.tup [vCat c',vint k]∧KFit (n+1) c'∧(k=0→OkE l i h))∧bs'=[]∧rs'=[] :=
 ⟨_,[],[],Le.refl _,List.nil_sublist _,List.nil_sublist _,⟨c,k,rfl,KFit.of (Nat.le_succ_of_le hk.lt) hk.ft (hk.fl.up (Nat.le_succ _)) (hk.dl.up (Nat.le_succ _)) (hk.pl.up (Nat.le_succ _)),hz⟩,rfl,rfl⟩
def tbD60:=(aI (aI (aI (aI Ty.c35 (aI Ty.c36 Ty.c37)) (aI (aI Ty.c38 Ty.c39) (aI Ty.t156 Ty.t22))) (aI (aI (aI Ty.t231 Ty.t26) (aI Ty.t3 Ty.t4)) (aI (aI Ty.t40 Ty.t41) (aI Ty.t60 Ty.t61)))) (aI (aI (aI (aI Ty.t63 Ty.t64) (aI Ty.t75 Ty.t77)) (aI (aI Ty.t78 Ty.t80) (aI Ty.t81 Ty.t83))) (aI (aI (aI Ty.t85 Ty.t87) (aI Ty.t88 Ty.t9)) (aI (aI Ty.t90 Ty.t92) (aI Ty.t94 Ty.t96)))))
set_option maxHeartbeats 2000000 in
theorem one15_ok (n:Nat) (c:Cat) (l:List Etr) (i:Nat) (h:i < l.length) (hl:l.length≤1000000) (hn:n≤999999) (hk:KFit n c) (he:FitE l[i]):Ok Tryz.prog 18 [vEtrs l,vint i,vCat c] [] fun v bs rs =>
  (∃ (c':Cat) (k:Int),v=.tup [vCat c',vint k]∧KFit (n+1) c'∧(k=0→OkE l i h))∧bs=[]∧rs=[]:=by
 have hf:=form15_ok l[i] he.chg
 have hck:=check13_ok c l[i].fact (Nat.le_trans hk.lt (by omega)) he.fld
 have hap:=apply14_ok n c l[i].change hn hk he.chg he.ftr
 have her:=erasure_ok l[i].erasure he.key
 have htw:=twice15_ok l i h hl
 simp only [cChange_eq,cEtr_eq] at hf hap
 refine Ok.of_ex Ty.mixed Tryz.func18 rfl (by simp [Tryz.ntmps18]) (by kernel_rfl) fun F w0 I0=>?_
 simp only [↓rA,rB]
 refine fun b5 h5=>?_;replace h5:=newb h5;try simp only [Nb] at h5
 simp only [↓rA,rB,tbD60]
 refine fun b6 h6=>?_;replace h6:=newb h6;try simp only [Nb] at h6
 have hh:=And.intro h5 h6
 have c1:=cEtr_eq l[i]
 simp only [↓rA,rB,Nat.reduceAdd,Nat.reduceEqDiff,reduceCtorEq,tbD60,Int.ofNat_lt,h,List.length_map,getD_map _ _ _ h,c1]
 refine fun b8 h8=>?_;replace h8:=newb h8;try simp only [Nb] at h8
 have hh:=And.intro hh h8
 by_cases a1:l[i].no < 1
 ·simp only [↓rA,rB,Nat.reduceAdd,Nat.reduceEqDiff,tbD60,Tryz.results18,hh,a1]
  exact finO _ _ _ _ _ _ _ _ hk (fun h=>absurd h (by decide))
 by_cases a2:1099511627776 < l[i].no
 ·simp only [↓rA,rB,Nat.reduceAdd,Nat.reduceEqDiff,tbD60,Tryz.results18,hh,a1,a2]
  exact finO _ _ _ _ _ _ _ _ hk (fun h=>absurd h (by decide))
 by_cases a3:l[i].tick < 0
 ·simp only [↓rA,rB,Nat.reduceAdd,Nat.reduceEqDiff,tbD60,Tryz.results18,hh,a1,a2,a3]
  exact finO _ _ _ _ _ _ _ _ hk (fun h=>absurd h (by decide))
 by_cases a4:1099511627776 < l[i].tick
 ·simp only [↓rA,rB,Nat.reduceAdd,Nat.reduceEqDiff,tbD60,Tryz.results18,hh,a1,a2,a3,a4]
  exact finO _ _ _ _ _ _ _ _ hk (fun h=>absurd h (by decide))
 simp only [↓EX_ops_nil,↓EX_plain,↓ST_store,↓storeK_eq,onVal_eq,Todo_eq,put_eq,put_ne,put_none,put_boxes,addBox_σ,addBox_boxes,S0_boxes,ev_tmp,getB_same,setB_same,onSome_some,onPtr_ptr,And2_true,cellsV,oneB,okC,Nat.le_refl,eq_self,and_self,not_false_eq_true,ne_eq,List.map_cons,List.map_nil,List.take_zero,List.drop_succ_cons,List.drop_nil,List.length_cons,List.length_nil,List.nil_append,List.append_nil,List.toList_toArray,Nat.zero_add,Bool.and_true,Nat.reduceEqDiff,Nat.reduceAdd,Int.toNat_natCast,tbD60,Tryz.results18]
 rw [EX_seq]
 refine EX_cut (fun S=>(∀ m,∀ hm:i=m+1,l[m].no < l[i].no∧l[m].tick≤l[i].tick)∧S.boxes=[(b8,.c (vint l[i].no::vint l[i].tick::vint l[i].kind::(cFct l[i].fact++(cErs l[i].erasure++cG l[i].change l[i].change.feature.body.hd (vEs l[i].change.feature.body.args))))),(b6,.c [nilS,nilS,nilS,nilS]),(b5,.c (cCat c))]∧S.rows=[]∧S.σ 0=vEtrs l∧S.σ 1=vint i∧S.σ 5=ptr b5∧S.σ 6=ptr b6∧S.σ 8=ptr b8) ?_ ?_
 ·rcases i with _ | m
  ·simp only [↓rA,rB,Int.reduceLT,Nat.reduceAdd,Nat.reduceEqDiff,reduceCtorEq,tbD60,a1,a2,a3,a4]
   exact⟨fun m hm=>hm.elim,rfl⟩
  ·have hm:m < l.length:=by omega
   have hwp:=wrap_prev m (by omega)
   have hp:(0:Int) < ((m+1:Nat):Int):=by omega
   have c2:=cEtr_eq l[m]
   by_cases o1:l[m+1].no≤l[m].no
   ·simp only [↓rA,rB,Nat.reduceAdd,Nat.reduceEqDiff,reduceCtorEq,tbD60,hh,a1,a2,a3,a4,hwp,hp,Int.ofNat_lt,hm,List.length_map,getD_map _ _ _ h,getD_map _ _ _ hm,c1,c2,o1]
    exact finO _ _ _ _ _ _ _ _ hk (fun h=>absurd h (by decide))
   by_cases o2:l[m+1].tick < l[m].tick
   ·simp only [↓rA,rB,Nat.reduceAdd,Nat.reduceEqDiff,reduceCtorEq,tbD60,hh,a1,a2,a3,a4,hwp,hp,Int.ofNat_lt,hm,List.length_map,getD_map _ _ _ h,getD_map _ _ _ hm,c1,c2,o1,o2]
    exact finO _ _ _ _ _ _ _ _ hk (fun h=>absurd h (by decide))
   simp only [↓rA,rB,Nat.reduceAdd,Nat.reduceEqDiff,reduceCtorEq,tbD60,a1,a2,a3,a4,hwp,hp,Int.ofNat_lt,hm,List.length_map,getD_map _ _ _ h,getD_map _ _ _ hm,c1,c2,o1,o2]
   refine⟨fun m' hm'=>?_,?_⟩
   ·obtain rfl:m'=m:=by omega
    omega
   rfl
 rintro S ⟨hord,gb,gr,g0,g1,g5,g6,g8⟩
 simp only [↓rA,rB,Nat.reduceAdd,tbD60,gb,g8]
 refine OkF_with [] _ (List.Perm.refl _) hf ?_
 rintro v bs rs ⟨⟨b,rfl⟩,rfl,rfl⟩
 cases b
 ·simp only [↓rA,rB,Nat.reduceAdd,Nat.reduceEqDiff,tbD60,gr,g5,g6,hh]
  exact finO _ _ _ _ _ _ _ _ hk (fun h=>absurd h (by decide))
 by_cases k1:l[i].kind=1
 ·simp only [↓rA,rB,Nat.reduceAdd,Nat.reduceEqDiff,Nat.reduceLeDiff,tbD60,gr,g5,g8,hh,k1]
  refine OkF_with [] _ (List.Perm.refl _) hck ?_
  rintro v bs rs ⟨⟨k,rfl,hkf⟩,rfl,rfl⟩
  by_cases k0:k=0
  ·simp only [↓rA,rB,Nat.reduceEqDiff,reduceCtorEq,tbD60,gr,g0,g1,k1,k0]
   refine OkF_of _ htw ?_
   cases htb:twiceB l i h
   ·simp only [↓rA,rB,Nat.reduceAdd,Nat.reduceEqDiff,tbD60,gr,g5,g6,hh,k1,k0]
    exact finO _ _ _ _ _ _ _ _ hk (fun _=>⟨⟨by omega,by omega,by omega,by omega⟩,hord,fun _=>⟨hkf k0,htb⟩⟩)
   ·simp only [↓rA,rB,Nat.reduceAdd,Nat.reduceEqDiff,tbD60,gr,g5,g6,hh,k1,k0]
    exact finO _ _ _ _ _ _ _ _ hk (fun h=>absurd h (by decide))
  ·simp only [↓rA,rB,Nat.reduceAdd,Nat.reduceEqDiff,tbD60,gr,g5,g6,hh,k1,k0]
   exact finO _ _ _ _ _ _ _ _ hk (fun h=>absurd h k0)
 have hok:OkE l i h:=⟨⟨by omega,by omega,by omega,by omega⟩,hord,fun h=>absurd h k1⟩
 by_cases k2:l[i].kind=2
 ·simp only [↓rA,rB,Int.reduceEq,Nat.reduceAdd,Nat.reduceEqDiff,Nat.reduceLeDiff,tbD60,gr,g8,k2]
  refine OkF_with [] _ (List.Perm.refl _) her ?_
  rintro v bs rs ⟨⟨b,rfl⟩,rfl,rfl⟩
  cases b
  ·simp only [↓rA,rB,Nat.reduceAdd,Nat.reduceEqDiff,tbD60,gr,g5,g6,hh,k2]
   exact finO _ _ _ _ _ _ _ _ hk (fun h=>absurd h (by decide))
  ·simp only [↓rA,rB,Nat.reduceAdd,Nat.reduceEqDiff,tbD60,gr,g5,g6,hh,k2]
   exact finO _ _ _ _ _ _ _ _ hk (fun _=>hok)
 ·simp only [↓rA,rB,Nat.reduceAdd,Nat.reduceEqDiff,tbD60,gr,g5,g8,hh,k1,k2]
  refine OkF_with [] _ (List.Perm.refl _) hap ?_
  rintro v bs rs ⟨⟨c2,k,rfl,hk2⟩,rfl,rfl⟩
  simp only [↓rA,rB,Nat.reduceAdd,Nat.reduceEqDiff,tbD60,gr,g6,hh]
  exact⟨_,[],[],Le.refl _,List.nil_sublist _,List.nil_sublist _,⟨c2,k,rfl,hk2,fun _=>hok⟩,rfl,rfl⟩
end Go.Proofs.YtopfanlkbepemaaGreat
set_option linter.unusedSimpArgs false
set_option maxRecDepth 100000
set_option linter.defProp false
namespace Go.Proofs.YtopfanlkbepemaaGreat
open Go.VL Go.Ar Go.Lo Go.Proofs.YtopfanlkbepemaaGreat
theorem kfit0:KFit 0 ⟨[],[],[],[]⟩:=KFit.of (Nat.zero_le _) (fun t ht=>absurd ht List.not_mem_nil) ⟨Nat.zero_le _,fun f hf=>absurd hf List.not_mem_nil⟩ ⟨Nat.zero_le _,fun f hf=>absurd hf List.not_mem_nil⟩ ⟨Nat.zero_le _,fun f hf=>absurd hf List.not_mem_nil⟩
theorem leCat0:Le (.agg [nilS,nilS,nilS,nilS]) (vCat ⟨[],[],[],[]⟩):=leAgg (.cons (Le.nil 4) (.cons (Le.nil 18) (.cons (Le.nil 18) (.cons (Le.nil 18) .nil))))
def tbD70:=(aI (aI (aI (aI Ty.c18 (aI Ty.t156 Ty.t22)) (aI Ty.t231 (aI Ty.t26 Ty.t3))) (aI (aI Ty.t4 (aI Ty.t40 Ty.t41)) (aI (aI Ty.t60 Ty.t61) (aI Ty.t63 Ty.t64)))) (aI (aI (aI Ty.t75 (aI Ty.t77 Ty.t78)) (aI (aI Ty.t80 Ty.t81) (aI Ty.t83 Ty.t85))) (aI (aI Ty.t87 (aI Ty.t88 Ty.t9)) (aI (aI Ty.t90 Ty.t92) (aI Ty.t94 Ty.t96)))))
theorem check15_ok (l:List Etr) (hl:l.length≤big) (he:∀ e ∈ l,FitE e):Ok Tryz.prog 5 [vEtrs l] [] fun v bs rs =>
  (∃ k:Int,v=vint k∧(k=0→l.length≤4096∧∀ i h,OkE l i h))∧bs=[]∧rs=[]:=by
 unfold big at hl
 refine Ok.of_ex Ty.mixed Tryz.func5 rfl (by simp [Tryz.ntmps5]) (by kernel_rfl) fun F w0 I0=>?_
 by_cases q:(4096:Int) < l.length
 ·simp only [↓rA,rB,reduceCtorEq,tbD70,Tryz.results5,List.length_map,q]
  exact⟨_,[],[],Le.refl _,List.nil_sublist _,List.nil_sublist _,⟨_,rfl,fun h=>absurd h (by decide)⟩,rfl,rfl⟩
 have hl':l.length≤4096:=by omega
 simp only [↓rA,rB,reduceCtorEq,tbD70,List.length_map,q]
 refine fun b3 h3=>?_;replace h3:=newb h3;try simp only [Nb] at h3
 simp only [↓rA,rB,Tryz.results5]
 refine EX_forS Ty.mixed (by kernel_rfl) l.length (fun i S=>(∀ j h,j < i→OkE l j h)∧(∃ (u:List V) (c:Cat),S.boxes=[(b3,.c u)]∧(∃ x1 x2 x3 x4,u=[x1,x2,x3,x4])∧Le (.agg u) (vCat c)∧KFit i c)∧S.rows=[]∧S.σ 0=vEtrs l∧S.σ 3=ptr b3∧S.σ 4=vint i) ⟨_,_,List.Sublist.refl _,List.Sublist.refl _,?_⟩ (fun i S hi ⟨hj,⟨u,c,gb,⟨x1,x2,x3,x4,hu⟩,hle,hk⟩,gr,g0,g3,g4⟩=>?_) (fun S ⟨hj,⟨u,c,gb,⟨x1,x2,x3,x4,hu⟩,hle,hk⟩,gr,g0,g3,g4⟩=>?_)
 ·simp only [rB,Nat.reduceEqDiff,reduceCtorEq]
  exact⟨fun j h hj=>absurd hj (Nat.not_lt_zero j),⟨_,⟨[],[],[],[]⟩,rfl,⟨_,_,_,_,rfl⟩,leCat0,kfit0⟩⟩
 ·subst hu
  have hwi:=wrap_succ (i:=i) (N:=l.length) hi (by omega)
  have hq:=one15_ok i c l i hi (by omega) (by omega) hk (he _ (List.getElem_mem hi))
  simp only [↓rA,rB,Nat.reduceAdd,Nat.reduceEqDiff,reduceCtorEq,tbD70,gb,g0,g3,g4,Int.ofNat_lt,hi,List.length_map]
  refine OkF_with [] _ (List.Perm.refl _) (Ok.le (.cons (Le.refl _) (.cons (Le.refl _) (.cons hle .nil))) hq) ?_
  rintro v bs rs ⟨⟨c',k,rfl,hk',hok⟩,rfl,rfl⟩
  simp only [↓rA,rB,Nat.reduceEqDiff,tbD70,gr]
  refine fun b5 h5=>?_;replace h5:=newb h5;try simp only [Nb] at h5
  have hh:=And.intro h3 h5
  by_cases k0:k=0
  case neg =>
   simp only [↓rA,rB,Nat.reduceAdd,Nat.reduceEqDiff,tbD70,gr,k0]
   exact⟨_,[],[],Le.refl _,List.nil_sublist _,List.nil_sublist _,⟨_,rfl,fun h=>absurd h k0⟩,rfl,rfl⟩
  simp only [↓rA,rB,Nat.reduceAdd,Nat.reduceEqDiff,tbD70,gr,g3,g4,hh,k0,hwi]
  refine⟨[(b3,.c (cCat c'))],[],?_,List.nil_sublist _,?_⟩
  ·simp only [rB]
   exact List.sublist_cons_self _ _
  ·simp only [rB,Nat.reduceEqDiff,reduceCtorEq,g0,g3]
   refine⟨fun j h hj2=>?_,_,c',rfl,⟨_,_,_,_,rfl⟩,Le.refl _,hk'⟩
   by_cases e:j=i
   ·subst e;exact hok k0
   ·exact hj j h (by omega)
 ·simp only [↓rA,rB,Nat.reduceEqDiff,reduceCtorEq,tbD70,gb,gr,g0,g4,Int.ofNat_lt,Nat.lt_irrefl,List.length_map]
  exact⟨_,[],[],Le.refl _,List.nil_sublist _,List.nil_sublist _,⟨_,rfl,fun _=>⟨hl',fun i h=>hj i h h⟩⟩,rfl,rfl⟩
end Go.Proofs.YtopfanlkbepemaaGreat
set_option linter.unusedSimpArgs false
set_option maxRecDepth 100000
set_option linter.defProp false
namespace Go.Proofs.YtopfanlkbepemaaGreat
open Go.VL Go.Ar Go.Lo Go.Proofs.YtopfanlkbepemaaGreat
def baseM (f:Fct):FID:=⟨f.src,if f.kind=1 then f.seq else f.ref⟩
def tbD90:=(aI (aI Ty.t3 (aI Ty.t4 Ty.t40)) (aI (aI Ty.t41 Ty.t75) (aI Ty.t85 Ty.t9)))
theorem base_ok (f:Fct):OkP Tryz.prog 48 [.agg (cFct f)] (.agg (cFID (baseM f))):=by
 refine Ok.of_ex Ty.mixed Tryz.func48 rfl (by simp [Tryz.ntmps48]) (by kernel_rfl) fun F w0 I0=>?_
 simp only [↓rA,rB]
 refine fun b1 h1=>?_;replace h1:=newb h1;try simp only [Nb] at h1
 simp only [↓rA,rB,tbD90]
 refine fun b2 h2=>?_;replace h2:=newb h2;try simp only [Nb] at h2
 have hh:=And.intro h1 h2
 by_cases k:f.kind=1
 ·have e0:(f.kind=1)=True:=eq_true k
  simp only [↓rA,rB,Nat.reduceAdd,Nat.reduceEqDiff,Nat.reduceLeDiff,tbD90,Tryz.results48,hh,e0]
  exact ret_done (by simp only [baseM,if_pos k])
 ·simp only [↓rA,rB,Nat.reduceAdd,Nat.reduceEqDiff,Nat.reduceLeDiff,tbD90,Tryz.results48,hh,k]
  exact ret_done (by simp only [baseM,if_neg k])
end Go.Proofs.YtopfanlkbepemaaGreat
set_option maxRecDepth 100000
namespace Go.Lo
open Go.VL Go.Ar
section
variable {α β δ γ:Type} [DecidableEq α]
abbrev entsK (kV:α→Value) (cV:β→V) (g:List (Nat × α × β)):List Ent:=g.map fun p=>(p.1,kV p.2.1,cV p.2.2)
def getK (g:List (Nat × α × β)) (a:α):Option (Nat × α × β):=g.find? fun p=>decide (a=p.2.1)
def modK (a:α) (v:β):List (Nat × α × β)→List (Nat × α × β)
 | []=>[]
 | p::g=>if a=p.2.1 then (p.1,p.2.1,v)::g else p::modK a v g
variable {kV:α→Value} {cV:β→V}
theorem findE_entsK (hk:∀ a b,keq (kV a) (kV b)=decide (a=b)) (a:α):∀ g:List (Nat × α × β),findE (entsK kV cV g) (kV a)=(getK g a).map fun p=>(p.1,kV p.2.1,cV p.2.2)
 | []=>rfl
 | p::g=>by
  have ih:=findE_entsK hk a g
  simp only [findE,getK] at ih ⊢
  simp only [entsK,List.map_cons,List.find?_cons,hk]
  cases decide (a=p.2.1)
  ·exact ih
  ·rfl
theorem findM_entsK (hk:∀ a b,keq (kV a) (kV b)=decide (a=b)) (a:α) (g:List (Nat × α × β)):findM (entsK kV cV g) (kV a)=(getK g a).map fun p=>cV p.2.2:=by
 have:=findE_entsK (cV:=cV) hk a g
 unfold findE at this
 unfold findM
 rw [this,Option.map_map]
 rfl
theorem modM_entsK (hk:∀ a b,keq (kV a) (kV b)=decide (a=b)) (a:α) (v:β):∀ g:List (Nat × α × β),modM (kV a) (cV v) (entsK kV cV g)=entsK kV cV (modK a v g)
 | []=>rfl
 | p::g=>by
  have ih:=modM_entsK hk a v g
  simp only [entsK,List.map_cons,modM,modK,hk,decide_eq_true_eq] at ih ⊢
  by_cases hs:a=p.2.1
  ·rw [if_pos hs,if_pos hs];rfl
  ·rw [if_neg hs,if_neg hs,ih];rfl
theorem getK_some {g:List (Nat × α × β)} {a:α} {p:Nat × α × β} (h:getK g a=some p):p ∈ g∧a=p.2.1:=⟨List.mem_of_find?_eq_some h,by simpa using List.find?_some h⟩
theorem getK_none {g:List (Nat × α × β)} {a:α} (h:getK g a=none):∀ p ∈ g,¬ a=p.2.1:=fun p hp=>by
 have:=List.find?_eq_none.1 h p hp
 simpa using this
theorem getK_modK (a:α) (v:β) (b:α):∀ g:List (Nat × α × β),getK (modK a v g) b=(getK g b).map fun p=>if p.2.1=a then (p.1,p.2.1,v) else p
 | []=>rfl
 | p::g=>by
  have ih:=getK_modK a v b g
  unfold getK at ih ⊢
  unfold modK
  by_cases hs:a=p.2.1
  ·rw [if_pos hs]
   simp only [List.find?_cons]
   by_cases hb:b=p.2.1
   ·simp [hb,hs]
   ·simp only [hb,decide_false]
    cases hf:g.find? fun p=>decide (b=p.2.1) with
    | none=>rfl
    | some q =>
     have hq:b=q.2.1:=by simpa using List.find?_some hf
     have:¬ q.2.1=a:=fun e=>hb (by rw [hq,e,hs])
     simp [this]
  ·rw [if_neg hs]
   simp only [List.find?_cons]
   by_cases hb:b=p.2.1
   ·simp [hb,Ne.symm hs]
   ·simp only [hb,decide_false]
    exact ih
theorem getK_append (g:List (Nat × α × β)) (p:Nat × α × β) (b:α):getK (g++[p]) b=match getK g b with | some q=>some q | none=>if b=p.2.1 then some p else none:=by
 unfold getK
 rw [List.find?_append]
 cases g.find? fun p=>decide (b=p.2.1) with
 | none=>by_cases h:b=p.2.1 <;> simp [h]
 | some q=>simp
theorem modK_len (a:α) (v:β):∀ g:List (Nat × α × β),(modK a v g).length=g.length
 | []=>rfl
 | p::g=>by
  have:=modK_len a v g
  unfold modK
  split <;> simp [this]
theorem modK_mem {a:α} {v:β}:∀ {g:List (Nat × α × β)} {q:Nat × α × β},q ∈ modK a v g→∃ p ∈ g,q.1=p.1∧q.2.1=p.2.1∧(q=p∨q.2.2=v)
 | [],_,h=>by cases h
 | p::g,q,h=>by
  unfold modK at h
  split at h
  ·rcases List.mem_cons.1 h with rfl | h
   ·exact⟨p,List.mem_cons_self,rfl,rfl,.inr rfl⟩
   ·exact⟨q,List.mem_cons_of_mem _ h,rfl,rfl,.inl rfl⟩
  ·rcases List.mem_cons.1 h with rfl | h
   ·exact⟨_,List.mem_cons_self,rfl,rfl,.inl rfl⟩
   ·obtain⟨p',hp',e⟩:=modK_mem h
    exact⟨p',List.mem_cons_of_mem _ hp',e⟩
abbrev ApartK (g:List (Nat × α × β)):Prop:=g.Pairwise fun p q=>p.1 < q.1∧¬ p.2.1=q.2.1
theorem modK_apart {a:α} {v:β}:∀ {g:List (Nat × α × β)},ApartK g→ApartK (modK a v g)
 | [],h=>h
 | p::g,h=>by
  have hc:=List.pairwise_cons.1 h
  unfold modK
  split
  ·exact List.pairwise_cons.2 ⟨fun q hq=>hc.1 q hq,hc.2⟩
  ·refine List.pairwise_cons.2 ⟨fun q hq=>?_,modK_apart hc.2⟩
   obtain⟨p',hp',e1,e2,_⟩:=modK_mem hq
   have:=hc.1 p' hp'
   exact⟨by omega,fun e=>this.2 (e.trans e2)⟩
structure GoodK (pr:β→δ) (f:α→Option δ) (g:List (Nat × α × β)) (cl:Nat):Prop where
 lt:∀ p ∈ g,p.1 < cl
 apart:ApartK g
 val:∀ a,(getK g a).map (fun p=>pr p.2.2)=f a
def updF (f:α→Option δ) (a:α) (v:δ):α→Option δ:=fun b=>if b=a then some v else f b
variable {pr:β→δ} {f:α→Option δ}
theorem GoodK.nil:GoodK (α:=α) pr (fun _=>none) [] 0:=⟨by simp,List.Pairwise.nil,fun _=>rfl⟩
theorem GoodK.new {g:List (Nat × α × β)} {cl:Nat} (h:GoodK pr f g cl) {a:α} (hn:getK g a=none) (v:β):GoodK pr (updF f a (pr v)) (g++[(cl,a,v)]) (cl+1) where
 lt p hp:=by
  rcases List.mem_append.1 hp with hp | hp
  ·exact Nat.lt_succ_of_lt (h.lt p hp)
  ·rw [List.mem_singleton] at hp;subst hp;exact Nat.lt_succ_self _
 apart:=by
  refine List.pairwise_append.2 ⟨h.apart,by simp,fun p hp q hq=>?_⟩
  rw [List.mem_singleton] at hq;subst hq
  exact⟨h.lt p hp,fun e=>getK_none hn p hp e.symm⟩
 val b:=by
  rw [getK_append]
  unfold updF
  have hv:=h.val b
  by_cases e:b=a
  ·subst e;rw [hn];simp
  ·rw [if_neg e]
   cases hb:getK g b with
   | none=>rw [hb] at hv;simp [e,← hv]
   | some q=>rw [hb] at hv;simpa [e] using hv
theorem GoodK.old {g:List (Nat × α × β)} {cl:Nat} (h:GoodK pr f g cl) {a:α} {p:Nat × α × β} (hn:getK g a=some p) (v:β):GoodK pr (updF f a (pr v)) (modK a v g) cl where
 lt q hq:=by
  obtain⟨p',hp',e1,_⟩:=modK_mem hq
  rw [e1];exact h.lt p' hp'
 apart:=modK_apart h.apart
 val b:=by
  rw [getK_modK]
  unfold updF
  have hv:=h.val b
  by_cases e:b=a
  ·subst e
   rw [hn,if_pos rfl]
   simp [(getK_some hn).2]
  ·rw [if_neg e,← hv]
   cases hb:getK g b with
   | none=>rfl
   | some q =>
    have:¬ q.2.1=a:=fun e'=>e ((getK_some hb).2.trans e')
    simp [this]
def leftK (g:List (Nat × α × β)) (seen:List Nat):List (Nat × α × β):=g.filter fun p=>!seen.contains p.1
omit [DecidableEq α] in
theorem leftE_entsK (g:List (Nat × α × β)) (seen:List Nat):leftE (entsK kV cV g) seen=entsK kV cV (leftK g seen):=by
 simp only [leftE,entsK,leftK,List.filter_map]
 rfl
omit [DecidableEq α] in
theorem leftK_step {seen:List Nat} {p:Nat × α × β}:∀ {g:List (Nat × α × β)},ApartK g→p ∈ leftK g seen→(leftK g seen).Perm (p::leftK g (seen++[p.1]))
 | [],_,h=>by cases h
 | q::g,hp,h=>by
  have hc:=List.pairwise_cons.1 hp
  have ih:=leftK_step (seen:=seen) (p:=p) hc.2
  unfold leftK at h ih ⊢
  rw [List.filter_cons] at h ⊢
  cases hs:seen.contains q.1
  ·simp only [hs,Bool.not_false,if_true] at h ⊢
   rcases List.mem_cons.1 h with rfl | h
   ·have e:(seen++[p.1]).contains p.1=true:=by simp
    rw [List.filter_cons]
    simp only [e,Bool.not_true,Bool.false_eq_true,if_false]
    refine List.Perm.cons _ ?_
    rw [show g.filter (fun q=>!(seen++[p.1]).contains q.1)=g.filter (fun q=>!seen.contains q.1) from List.filter_congr fun q hq=>by
     have:=(hc.1 q hq).1
     simp [show ¬ q.1=p.1 by omega]]
   ·have hqp:q.1 < p.1:=(hc.1 p (List.mem_filter.1 h).1).1
    have hs':¬ q.1 ∈ seen:=by simpa using hs
    have e:(seen++[p.1]).contains q.1=false:=by simp [hs',show ¬ q.1=p.1 by omega]
    rw [List.filter_cons]
    simp only [e,Bool.not_false,if_true]
    exact(List.Perm.cons q (ih h)).trans (List.Perm.swap p q _)
  ·simp only [hs,Bool.not_true,Bool.false_eq_true,if_false] at h ⊢
   have hs':q.1 ∈ seen:=by simpa using hs
   have e:(seen++[p.1]).contains q.1=true:=by simp [hs']
   rw [List.filter_cons]
   simp only [e,Bool.not_true,Bool.false_eq_true,if_false]
   exact ih h
omit [DecidableEq α] in
theorem leftK_less {g:List (Nat × α × β)} {seen:List Nat} {p:Nat × α × β} (hg:ApartK g) (hp:p ∈ leftK g seen):(leftK g (seen++[p.1])).length < (leftK g seen).length:=by
 have:=(leftK_step hg hp).length_eq
 rw [List.length_cons] at this
 omega
def GotK (h:α × β→Option γ) (g:List (Nat × α × β)) (seen:List Nat) (acc:List γ):Prop:=(acc++(leftK g seen).filterMap fun p=>h p.2).Perm (g.filterMap fun p=>h p.2)
variable {h:α × β→Option γ}
omit [DecidableEq α] in
theorem GotK.start (g:List (Nat × α × β)):GotK h g [] []:=by
 have:leftK g []=g:=List.filter_eq_self.2 (by simp)
 unfold GotK
 rw [this]
 exact List.Perm.refl _
omit [DecidableEq α] in
theorem GotK.step {g:List (Nat × α × β)} {seen:List Nat} {acc:List γ} {p:Nat × α × β} (hh:GotK h g seen acc) (hg:ApartK g) (hp:p ∈ leftK g seen):GotK h g (seen++[p.1]) (acc++(h p.2).toList):=by
 unfold GotK at hh ⊢
 refine List.Perm.trans ?_ hh
 have hs:=(leftK_step hg hp).filterMap fun p=>h p.2
 rw [List.filterMap_cons] at hs
 rw [List.append_assoc]
 refine List.Perm.append_left acc ?_
 cases e:h p.2 with
 | none=>rw [e] at hs;simpa using hs.symm
 | some r=>rw [e] at hs;simpa using hs.symm
omit [DecidableEq α] in
theorem GotK.len {g:List (Nat × α × β)} {seen:List Nat} {acc:List γ} (hh:GotK h g seen acc):acc.length≤g.length:=by
 have:=hh.length_eq
 have h2:=List.length_filterMap_le (fun p:Nat × α × β=>h p.2) g
 rw [List.length_append] at this
 omega
omit [DecidableEq α] in
theorem GotK.done {g:List (Nat × α × β)} {seen:List Nat} {acc:List γ} (hh:GotK h g seen acc) (hl:leftK g seen=[]):acc.Perm (g.filterMap fun p=>h p.2):=by
 unfold GotK at hh
 rw [hl] at hh
 simpa using hh
end
abbrev kFID (i:FID):Value:=.agg [.string i.src,.int .i64 i.seq].toArray
abbrev kStr (s:Str):Value:=.string s
abbrev kSS (p:Str × Str):Value:=.agg [.string p.1,.string p.2].toArray
theorem keq_FID (a b:FID):keq (kFID a) (kFID b)=decide (a=b):=by
 obtain⟨a1,a2⟩:=a
 obtain⟨b1,b2⟩:=b
 simp only [keq,Value.cells,veqL,veq,FID.mk.injEq]
 rw [Bool.eq_iff_iff]
 simp only [Bool.and_eq_true,decide_eq_true_eq,Bool.and_true,true_and]
theorem keq_Str (a b:Str):keq (kStr a) (kStr b)=decide (a=b):=by
 simp only [keq,Value.cells,veqL,veq,Bool.and_true]
theorem keq_SS (a b:Str × Str):keq (kSS a) (kSS b)=decide (a=b):=by
 obtain⟨a1,a2⟩:=a
 obtain⟨b1,b2⟩:=b
 simp only [keq,Value.cells,veqL,veq,Prod.mk.injEq]
 rw [Bool.eq_iff_iff]
 simp only [Bool.and_eq_true,decide_eq_true_eq,Bool.and_true]
end Go.Lo
set_option linter.unusedSimpArgs false
set_option maxRecDepth 100000
set_option linter.defProp false
namespace Go.Lo
open Go.VL Go.Ar
structure Bas where
 asserted:Bool
 last:Etr
def cBas (b:Bas):List V:=vbool b.asserted::cEtr b.last
abbrev vBas (b:Bas):V:=.agg (cBas b)
def isFact (t:Int) (x:Etr):Bool:=decide (x.tick≤t) && decide (x.kind=1)
end Go.Lo
namespace Go.Proofs.YtopfanlkbepemaaGreat
open Go.VL Go.Ar Go.Lo Go.Proofs.YtopfanlkbepemaaGreat
def basUp (o:Option Bas) (x:Etr):Bas:=match o with
 | none=>⟨decide (x.fact.kind=1),x⟩
 | some b=>⟨b.asserted || decide (x.fact.kind=1),if b.last.fact.seq < x.fact.seq then x else b.last⟩
def basStep (t:Int) (f:FID→Option Bas) (x:Etr):FID→Option Bas:=if isFact t x=true then updF f (baseM x.fact) (basUp (f (baseM x.fact)) x) else f
def basF (l:List Etr) (t:Int):FID→Option Bas:=l.foldl (basStep t) fun _=>none
theorem OkY.permR {P:Program} {l:Nat} {args:List V} {bs:List (Nat × B)} {Q Q':V→List (Nat × B)→List VL.Row→Prop} (h:OkY P l args bs Q) (hq:∀ v bs rs,Q v bs rs→∃ bs',bs.Perm bs'∧Q' v bs' rs):OkY P l args bs Q':=by
 intro w I xs hr hH
 refine(h w I xs hr hH).mono fun e w' ⟨x,v,bs',rs',I',he,hv,hk,hh,hn,hQ⟩=>?_
 obtain⟨bs2,hp,hQ'⟩:=hq v bs' rs' hQ
 refine⟨x,v,bs2,rs',I',he,hv,hk,hh.perm hp,fun b hb=>hn b ?_,hQ'⟩
 simp only [blks,List.mem_append] at hb ⊢
 exact hb.imp (fun h=>(hp.map (·.1)).mem_iff.2 h) id
abbrev cU (l:List Etr) (t:Int) (b2 b3:Nat) (J:List (Nat × B)):List (Nat × B):=(b3,.c [vint t])::(b2,.c [vEtrs l])::J
abbrev fnU (b2 b3:Nat):V:=.lit (.func (.func 76) #[] #[.pointer (some ⟨b2,0,none⟩),.pointer (some ⟨b3,0,none⟩)])
theorem until_ok (l:List Etr) (t:Int):Ok Tryz.prog 49 [vEtrs l,vint t] [] fun v bs rs=>∃ b2 b3,(b2 ≠ b3∧b3 ≠ b2)∧v=fnU b2 b3∧bs=cU l t b2 b3 []∧rs=[]:=by
 refine Ok.of_ex Ty.mixed Tryz.func49 rfl (by simp [Tryz.ntmps49]) (by kernel_rfl) fun F w0 I0=>?_
 simp only [↓rA,rB]
 refine fun b2 h2=>?_;replace h2:=newb h2;try simp only [Nb] at h2
 simp only [↓rA,rB,Nat.reduceEqDiff]
 refine fun b3 h3=>?_;replace h3:=newb h3;try simp only [Nb] at h3
 simp only [↓rA,rB,Nat.reduceEqDiff,Tryz.results49]
 exact⟨_,[_,_],[],Le.refl _,List.Sublist.refl _,List.nil_sublist _,b2,b3,h3.1,rfl,rfl,rfl⟩
def tbE21:=(aI (aI (aI (aI Ty.c76 Ty.t114) (aI Ty.t156 (aI Ty.t22 Ty.t231))) (aI (aI Ty.t3 (aI Ty.t4 Ty.t40)) (aI Ty.t41 (aI Ty.t75 Ty.t77)))) (aI (aI (aI Ty.t78 (aI Ty.t80 Ty.t81)) (aI Ty.t83 (aI Ty.t85 Ty.t87))) (aI (aI Ty.t88 (aI Ty.t9 Ty.t90)) (aI Ty.t92 (aI Ty.t94 Ty.t96)))))
theorem until1_ok (l:List Etr) (t:Int) (hl:l.length≤1000000) (b2 b3:Nat) (hb:b2 ≠ b3∧b3 ≠ b2) (y:Nat) (J:Nat→List (Nat × B)→Prop) (J0:List (Nat × B)) (hJ0:J 0 J0)
  (hN:∀ i (h:i < l.length) Ji,¬ l[i].tick≤t→J i Ji→J (i+1) Ji)
  (hY:∀ i (h:i < l.length) Ji,l[i].tick≤t→J i Ji→OkY Tryz.prog y [.agg (cEtr l[i])] (Ji++cU l t b2 b3 []) fun v bs rs=>v=vbool true∧(∃ Jn,J (i+1) Jn∧bs=cU l t b2 b3 Jn)∧rs=[]) :
  Ok Tryz.prog 76 [.lit (.func (.yield y) #[] #[]),ptr b2,ptr b3] (cU l t b2 b3 J0) fun v bs rs=>v=.tup []∧(∃ Jn,J l.length Jn∧bs=cU l t b2 b3 Jn)∧rs=[]:=by
 refine Ok.of_ex Ty.mixed Tryz.func76 rfl (by simp [Tryz.ntmps76]) (by kernel_rfl) fun F w0 I0=>?_
 simp only [↓rA,rB,tbE21,Tryz.results76,hb]
 refine EX_forP Ty.mixed (by kernel_rfl) l.length (fun i S=>∃ Ji,J i Ji∧S.boxes=cU l t b2 b3 Ji∧S.rows=[]∧S.σ 0=.lit (.func (.yield y) #[] #[])∧S.σ 2=ptr b3∧S.σ 6=vEtrs l∧S.σ 7=vint l.length∧S.σ 8=vint i) ⟨_,_,_,_,List.Sublist.refl _,List.Sublist.refl _,List.Perm.refl _,List.Perm.refl _,?_⟩ (fun i S hi ⟨Ji,hJ,gb,gr,g0,g2,g6,g7,g8⟩=>?_) (fun S ⟨Ji,hJ,gb,gr,g0,g2,g6,g7,g8⟩=>?_)
 ·simp only [rB,Nat.reduceEqDiff,reduceCtorEq,List.length_map]
  exact⟨J0,hJ0,rfl⟩
 ·have hwi:=wrap_succ (i:=i) (N:=l.length) hi (by omega)
  have c1:=cEtr_eq l[i]
  simp only [↓rA,rB,Nat.reduceAdd,Nat.reduceEqDiff,tbE21,gb,gr,g6,g7,g8,Int.ofNat_lt,hi,List.length_map,getD_map _ _ _ hi,c1]
  refine fun b5 h5=>?_;replace h5:=newb h5;try simp only [Nb] at h5
  have h53:=h5.1
  have h52:=h5.2.1
  by_cases ht:l[i].tick≤t
  ·simp only [↓rA,rB,Nat.reduceAdd,Nat.reduceEqDiff,reduceCtorEq,tbE21,gb,g0,g2,h53,ht]
   refine OkYF_with (Ji++cU l t b2 b3 []) [(b5,.c (cEtr l[i]))] ((List.perm_append_comm (l₁:=[(b5,B.c (cEtr l[i]))]) (l₂:=cU l t b2 b3 Ji)).trans (List.Perm.append_right _ (List.perm_append_comm (l₁:=cU l t b2 b3 []) (l₂:=Ji)))) (hY i hi Ji ht hJ) ?_
   rintro v bs rs ⟨rfl,⟨Jn,hJn,rfl⟩,rfl⟩ _
   simp only [↓rA,rB,Nat.reduceEqDiff,gr,g8,hwi]
   refine⟨cU l t b2 b3 Jn,[],_,_,List.sublist_append_left _ _,List.nil_sublist _,List.Perm.refl _,List.Perm.refl _,?_⟩
   simp only [rB,Nat.reduceEqDiff,reduceCtorEq,g0,g2,g6,g7]
   exact⟨Jn,hJn,rfl⟩
  ·simp only [↓rA,rB,Nat.reduceAdd,Nat.reduceEqDiff,tbE21,gb,g2,g8,h53,ht,hwi]
   refine⟨cU l t b2 b3 Ji,[],_,_,List.sublist_cons_self _ _,List.nil_sublist _,List.Perm.refl _,List.Perm.refl _,?_⟩
   simp only [rB,Nat.reduceEqDiff,reduceCtorEq,g0,g2,g6,g7]
   exact⟨Ji,hN i hi Ji ht hJ,rfl⟩
 ·simp only [↓rA,rB,gb,gr,g7,g8,Int.ofNat_lt,Nat.lt_irrefl]
  exact⟨_,_,[],Le.refl _,List.Sublist.refl _,List.nil_sublist _,rfl,⟨Ji,hJ,rfl⟩,rfl⟩
end Go.Proofs.YtopfanlkbepemaaGreat
set_option linter.unusedSimpArgs false
set_option maxRecDepth 100000
set_option linter.defProp false
namespace Go.Proofs.YtopfanlkbepemaaGreat
open Go.VL Go.Ar Go.Lo Go.Proofs.YtopfanlkbepemaaGreat
abbrev ksF:List Sh × Bool:=([.s,.i .i64],true)
def JB (l:List Etr) (t:Int) (y b5 bm:Nat) (rc:Loop) (n:Nat) (bs:List (Nat × B)):Prop :=
 ∃ (g:List (Nat × FID × Bas)) (cl:Nat),bs=[(y,.obj (.loop rc)),(b5,.c [.lit (.map (some bm))]),(bm,.m ksF (entsK kFID vBas g) cl)]∧GoodK id (basF (l.take n) t) g cl∧g.length≤n
theorem basF_take (l:List Etr) (t:Int) (i:Nat) (h:i < l.length):basF (l.take (i+1)) t=basStep t (basF (l.take i) t) l[i]:=by
 unfold basF
 rw [List.take_succ_eq_append_getElem h,List.foldl_append];rfl
theorem roundB_end {l:List Etr} {t:Int} {y b5 bm b2 b3:Nat} {r:Loop} {n:Nat} {S:St}
  (hb:∃ a b c es cl,S.boxes=a::b::c::(y,.obj (.loop { r with state:=.busy }))::(b5,.c [.lit (.map (some bm))])::(bm,.m ksF es cl)::cU l t b2 b3 []∧∃ g,es=entsK kFID vBas g∧GoodK id (basF (l.take n) t) g cl∧g.length≤n) :
  roundQ y r (fun v bs rs=>v=vbool true∧(∃ Jn,JB l t y b5 bm r n Jn∧bs=Jn++cU l t b2 b3 [])∧rs=[]) .normal S:=by
 obtain⟨a,b,c,es,cl,h,g,rfl,hg,hl⟩:=hb
 exact⟨[_,_,_],_,_,h,List.Sublist.cons _ (List.Sublist.cons _ (List.Sublist.cons _ (List.Sublist.refl _))),rfl,⟨_,⟨g,cl,rfl,hg,hl⟩,rfl⟩,rfl⟩
def tbE30:=(aI (aI (aI (aI Ty.c48 (aI Ty.c49 Ty.c76)) (aI Ty.t137 (aI Ty.t156 Ty.t22))) (aI (aI Ty.t231 (aI Ty.t3 Ty.t4)) (aI (aI Ty.t40 Ty.t41) (aI Ty.t72 Ty.t75)))) (aI (aI (aI Ty.t77 (aI Ty.t78 Ty.t80)) (aI (aI Ty.t81 Ty.t83) (aI Ty.t85 Ty.t87))) (aI (aI Ty.t88 (aI Ty.t9 Ty.t90)) (aI (aI Ty.t92 Ty.t94) (aI Ty.t96 Ty.t98)))))
set_option maxHeartbeats 1000000 in
theorem bases_ok (l:List Etr) (t:Int) (hl:l.length≤1000000) (hs:∀ x ∈ l,x.kind=1→1≤x.fact.seq):Ok Tryz.prog 24 [vEtrs l,vint t] [] fun v bs rs =>
  ∃ bm g cl,v=.lit (.map (some bm))∧bs=[(bm,.m ksF (entsK kFID vBas g) cl)]∧rs=[]∧GoodK id (basF l t) g cl∧g.length≤l.length:=by
 refine Ok.of_ex Ty.mixed Tryz.func24 rfl (by simp [Tryz.ntmps24]) (by kernel_rfl) fun F w0 I0=>?_
 simp only [↓rA,rB,tbE30]
 refine fun bm hm=>?_;replace hm:=newb hm;try simp only [Nb] at hm
 simp only [rB]
 refine fun b5 h5=>?_;replace h5:=newb h5;try simp only [Nb] at h5
 simp only [↓rA,rB,Nat.reduceEqDiff,reduceCtorEq,tbE30]
 refine OkF_withN [] _ (List.Perm.refl _) (until_ok l t) ?_
 rintro v bs rs ⟨b2,b3,hb,rfl,rfl,rfl⟩ hN
 simp only [List.cons_append,List.nil_append,List.map_cons,List.map_nil,List.nodup_cons,List.mem_cons,List.not_mem_nil,or_false,not_or,List.nodup_nil,not_false_eq_true,and_true] at hN
 simp only [↓rA,rB,Tryz.results24]
 refine EX_rangeFunc rfl (gf:=76) (first:=#[]) (cap:=#[.pointer (some ⟨b2,0,none⟩),.pointer (some ⟨b3,0,none⟩)]) rfl Ty.cb76 (cU l t b2 b3 [(b5,.c [.lit (.map (some bm))]),(bm,.m ksF [] 0)]) [] (by rw [List.append_nil];exact List.Perm.refl _)
  (fun y r v bs rs=>rs=[]∧∃ Jn,JB l t y b5 bm r l.length Jn∧bs=Jn++cU l t b2 b3 []) ?_ ?_
 ·intro y r hfr hrec hpa has hbo
  simp only [rB] at hfr
  have hy:=newb hfr
  simp only [Nb] at hy
  refine Ok.permR (Ok.permL (until1_ok l t hl b2 b3 hb y (JB l t y b5 bm r) [(y,.obj (.loop r)),(b5,.c [.lit (.map (some bm))]),(bm,.m ksF [] 0)] ⟨[],0,rfl,GoodK.nil,Nat.le_refl _⟩ (fun i hi Ji hti ⟨g,cl,h1,h2,h3⟩=>⟨g,cl,h1,by rw [basF_take l t i hi];unfold basStep isFact;rw [decide_eq_false hti];simpa using h2,by omega⟩) fun i hi Ji hti hJ=>?_) ?_) fun v bs rs ⟨h1,⟨Jn,h2,h3⟩,h4⟩=>⟨_,h3▸List.perm_append_comm (l₁:=cU l t b2 b3 []) (l₂:=Jn),h4,Jn,h2,rfl⟩
  ·obtain⟨g,cl,rfl,hg,hgl⟩:=hJ
   refine OkY.permR (Q:=fun v bs rs=>v=vbool true∧(∃ Jn,JB l t y b5 bm r (i+1) Jn∧bs=Jn++cU l t b2 b3 [])∧rs=[]) ?_ ?_
   ·show OkY Tryz.prog y _ ((y,.obj (.loop r))::(b5,.c [.lit (.map (some bm))])::(bm,.m ksF (entsK kFID vBas g) cl)::cU l t b2 b3 []) _
    refine OkY.of_round (M:=[]) Ty.mixed hrec hpa has hbo rfl (by simp [Tryz.ntmps24]) (by kernel_rfl) (by kernel_rfl) fun F w0 I0=>?_
    generalize hσr:roundσ _ _ _=σr
    have h13:σr 13=.agg (cEtr l[i]):=by rw [← hσr];rfl
    have g5:σr 5=ptr b5:=by rw [← hσr];rfl
    clear hσr
    have c1:=cEtr_eq l[i]
    have hsx:=hs _ (List.getElem_mem hi)
    have hst:=basF_take l t i hi
    generalize l[i]=x at h13 c1 hsx hst hti
    rw [c1] at h13
    simp only [↓rA,rB,tbE30]
    refine fun b6 h6=>?_;replace h6:=newb h6;try simp only [Nb] at h6
    simp only [↓rA,rB,Nat.reduceAdd,Nat.reduceEqDiff,tbE30,h13]
    refine⟨[_],_,rfl,?_⟩
    by_cases k1:x.kind=1
    case neg =>
     simp only [↓rA,rB,k1]
     refine⟨[_],_,_,rfl,List.Sublist.cons _ (List.Sublist.refl _),rfl,⟨_,⟨g,cl,rfl,?_,by omega⟩,rfl⟩,rfl⟩
     rw [hst]
     unfold basStep isFact
     rw [decide_eq_false k1,Bool.and_false]
     simpa using hg
    have e1:(x.kind=1)=True:=eq_true k1
    have hfact:isFact t x=true:=by unfold isFact;rw [decide_eq_true hti,decide_eq_true k1];rfl
    have hsq:=hsx k1
    simp only [↓rA,rB,Nat.reduceAdd,Nat.reduceEqDiff,Nat.reduceLeDiff,tbE30,e1]
    refine OkF_of _ (base_ok x.fact) ?_
    have hval:=hg.val (baseM x.fact)
    have hup:basF (l.take (i+1)) t=updF (basF (l.take i) t) (baseM x.fact) (basUp (basF (l.take i) t (baseM x.fact)) x):=by rw [hst];unfold basStep;rw [if_pos hfact]
    have hfm:=findM_entsK (cV:=vBas) keq_FID (baseM x.fact) g
    generalize hid:baseM x.fact=id at hval hup hfm
    simp only [↓rA,rB,tbE30]
    refine fun b7 h7=>?_;replace h7:=newb h7;try simp only [Nb] at h7
    have hh:=And.intro h5 (And.intro h6 (And.intro h7 hy))
    simp only [↓rA,rB,Nat.reduceAdd,Nat.reduceEqDiff,tbE30,g5,hh]
    rw [hfm]
    cases hgk:getK g id with
    | none =>
     rw [hgk] at hval hfm
     simp only [Option.map_none] at hval hfm
     rw [← hval] at hup
     have hnew:=hg.new hgk (basUp none x)
     simp only [↓rA,rB,tbE30]
     refine fun b8 h8=>?_;replace h8:=newb h8;try simp only [Nb] at h8
     have hh:=And.intro hh h8
     have hsq':(0:Int) < x.fact.seq:=by omega
     have hfin:entsK kFID vBas g++[(cl,kFID id,vBas (basUp none x))]=entsK kFID vBas (g++[(cl,id,basUp none x)]):=by rw [entsK,entsK,List.map_append];rfl
     by_cases k2:x.fact.kind=1
     ·have e2:(x.fact.kind=1)=True:=eq_true k2
      simp only [↓rA,rB,Nat.reduceAdd,Nat.reduceEqDiff,Nat.reduceLeDiff,tbE30,g5,hh,e2,hsq']
      rw [hfm]
      simp only [↓rA,rB,hh]
      refine roundB_end ⟨_,_,_,_,_,rfl,g++[(cl,id,basUp none x)],?_,by rw [hup];exact hnew,by rw [List.length_append];simp only [List.length_cons,List.length_nil];omega⟩
      rw [← hfin]
      simp only [basUp,e2,decide_true]
      rfl
     ·simp only [↓rA,rB,Nat.reduceAdd,Nat.reduceEqDiff,Nat.reduceLeDiff,tbE30,g5,hh,k2,hsq']
      rw [hfm]
      simp only [↓rA,rB,hh]
      refine roundB_end ⟨_,_,_,_,_,rfl,g++[(cl,id,basUp none x)],?_,by rw [hup];exact hnew,by rw [List.length_append];simp only [List.length_cons,List.length_nil];omega⟩
      rw [← hfin]
      simp only [basUp,k2,decide_false]
      rfl
    | some p =>
     rw [hgk] at hval hfm
     simp only [Option.map_some] at hval hfm
     rw [← hval] at hup
     have hold:=fun v=>hg.old hgk v
     rw [Option.map_some]
     generalize p.2.2=b at hval hfm hup ⊢
     have c2:vBas b=.agg (vbool b.asserted::vint b.last.no::vint b.last.tick::vint b.last.kind::(cFct b.last.fact++(cErs b.last.erasure++cG b.last.change b.last.change.feature.body.hd (vEs b.last.change.feature.body.args)))):=rfl
     rw [c2] at hfm
     have hmm:=fun v=>modM_entsK (cV:=vBas) keq_FID id v g
     simp only [↓rA,rB,tbE30,c2]
     refine fun b8 h8=>?_;replace h8:=newb h8;try simp only [Nb] at h8
     have hh:=And.intro hh h8
     have hlen:∀ v,(modK id v g).length≤i+1:=fun v=>by rw [modK_len];omega
     cases ha:b.asserted <;> by_cases k2:x.fact.kind=1 <;> by_cases q:b.last.fact.seq < x.fact.seq
     ·have e2:(x.fact.kind=1)=True:=eq_true k2
      simp only [↓rA,rB,Nat.reduceAdd,Nat.reduceEqDiff,Nat.reduceLeDiff,tbE30,g5,hh,e2,q]
      rw [hfm]
      simp only [↓rA,rB,hh,ha]
      refine roundB_end ⟨_,_,_,_,_,rfl,modK id (basUp (some b) x) g,?_,by rw [hup];exact hold _,hlen _⟩
      rw [← hmm,show basUp (some b) x=⟨true,x⟩ by simp [basUp,ha,k2,q]]
      rfl
     ·have e2:(x.fact.kind=1)=True:=eq_true k2
      simp only [↓rA,rB,Nat.reduceAdd,Nat.reduceEqDiff,Nat.reduceLeDiff,tbE30,g5,hh,e2,q]
      rw [hfm]
      simp only [↓rA,rB,hh,ha]
      refine roundB_end ⟨_,_,_,_,_,rfl,modK id (basUp (some b) x) g,?_,by rw [hup];exact hold _,hlen _⟩
      rw [← hmm,show basUp (some b) x=⟨true,b.last⟩ by simp [basUp,ha,k2,q]]
      rfl
     ·simp only [↓rA,rB,Nat.reduceAdd,Nat.reduceEqDiff,Nat.reduceLeDiff,tbE30,g5,hh,k2,q]
      rw [hfm]
      simp only [↓rA,rB,hh,ha]
      refine roundB_end ⟨_,_,_,_,_,rfl,modK id (basUp (some b) x) g,?_,by rw [hup];exact hold _,hlen _⟩
      rw [← hmm,show basUp (some b) x=⟨false,x⟩ by simp [basUp,ha,k2,q]]
      rfl
     ·simp only [↓rA,rB,Nat.reduceAdd,Nat.reduceEqDiff,Nat.reduceLeDiff,tbE30,g5,hh,k2,q]
      rw [hfm]
      simp only [↓rA,rB,hh,ha]
      refine roundB_end ⟨_,_,_,_,_,rfl,modK id (basUp (some b) x) g,?_,by rw [hup];exact hold _,hlen _⟩
      rw [← hmm,show basUp (some b) x=⟨false,b.last⟩ by simp [basUp,ha,k2,q]]
      rfl
     ·simp only [↓rA,rB,Nat.reduceAdd,Nat.reduceEqDiff,Nat.reduceLeDiff,tbE30,g5,hh,q]
      rw [hfm]
      simp only [↓rA,rB,hh,ha]
      refine roundB_end ⟨_,_,_,_,_,rfl,modK id (basUp (some b) x) g,?_,by rw [hup];exact hold _,hlen _⟩
      rw [← hmm,show basUp (some b) x=⟨true,x⟩ by simp [basUp,ha,q]]
      rfl
     ·simp only [↓rA,rB,Nat.reduceAdd,Nat.reduceEqDiff,Nat.reduceLeDiff,tbE30,g5,hh,q]
      rw [hfm]
      simp only [↓rA,rB,hh,ha]
      refine roundB_end ⟨_,_,_,_,_,rfl,modK id (basUp (some b) x) g,?_,by rw [hup];exact hold _,hlen _⟩
      rw [← hmm,show basUp (some b) x=⟨true,b.last⟩ by simp [basUp,ha,q]]
      rfl
     ·simp only [↓rA,rB,Nat.reduceAdd,Nat.reduceEqDiff,Nat.reduceLeDiff,tbE30,g5,hh,q]
      rw [hfm]
      simp only [↓rA,rB,hh,ha]
      refine roundB_end ⟨_,_,_,_,_,rfl,modK id (basUp (some b) x) g,?_,by rw [hup];exact hold _,hlen _⟩
      rw [← hmm,show basUp (some b) x=⟨true,x⟩ by simp [basUp,ha,q]]
      rfl
     ·simp only [↓rA,rB,Nat.reduceAdd,Nat.reduceEqDiff,Nat.reduceLeDiff,tbE30,g5,hh,q]
      rw [hfm]
      simp only [↓rA,rB,hh,ha]
      refine roundB_end ⟨_,_,_,_,_,rfl,modK id (basUp (some b) x) g,?_,by rw [hup];exact hold _,hlen _⟩
      rw [← hmm,show basUp (some b) x=⟨true,b.last⟩ by simp [basUp,ha,q]]
      rfl
   ·rintro v bs rs ⟨h1,⟨Jn,h2,rfl⟩,h3⟩
    exact⟨_,List.perm_append_comm (l₁:=Jn) (l₂:=cU l t b2 b3 []),h1,⟨Jn,h2,rfl⟩,h3⟩
  ·exact(List.perm_append_comm (l₁:=[(y,B.obj (.loop r))]) (l₂:=cU l t b2 b3 [])).append_right [(b5,B.c [.lit (.map (some bm))]),(bm,B.m ksF [] 0)]
 ·intro y r v bs rs hrec ⟨h1,Jn,⟨g,cl,hJn,hg,hgl⟩,h3⟩
  subst h1 hJn h3
  refine⟨(b5,.c [.lit (.map (some bm))])::(bm,.m ksF (entsK kFID vBas g) cl)::cU l t b2 b3 [],rfl,fun _=>?_⟩
  rw [List.take_of_length_le (Nat.le_refl _)] at hg
  simp only [↓rA,rB,Nat.reduceEqDiff,tbE30]
  exact⟨_,[_],[],Le.refl _,List.Sublist.cons _ (List.Sublist.cons_cons _ (List.nil_sublist _)),List.nil_sublist _,bm,g,cl,rfl,rfl,rfl,hg,hgl⟩
end Go.Proofs.YtopfanlkbepemaaGreat
set_option maxRecDepth 100000
namespace Go.Lo
open Go.VL Go.Ar
structure ErM where
 kinds:Str→Option Str
 about:Str × Str→Option (List FID)
 ids:FID→Option Unit
end Go.Lo
namespace Go.Proofs.YtopfanlkbepemaaGreat
open Go.VL Go.Ar Go.Lo Go.Proofs.YtopfanlkbepemaaGreat
def whoM (m:ErM) (f:Fct):Str × Str:=((m.kinds f.table).getD ⟨#[]⟩,f.key)
def addU (ids:FID→Option Unit) (l:List FID):FID→Option Unit:=l.foldl (fun s i=>updF s i ()) ids
def erStep (m:ErM) (x:Etr):ErM :=
 if x.kind=3∧x.change.kind=1 then { m with kinds:=updF m.kinds x.change.table.name x.change.table.entity }
 else if x.kind=1∧x.fact.kind ≠ 3 then { m with about:=updF m.about (whoM m x.fact) (((m.about (whoM m x.fact)).getD [])++[baseM x.fact]) }
 else if x.kind=2∧x.erasure.kind=2 then { m with ids:=updF m.ids ⟨x.erasure.src,x.erasure.seq⟩ () }
 else if x.kind=2 then { m with ids:=addU m.ids ((m.about (x.erasure.entity,x.erasure.key)).getD []) }
 else m
def er0:ErM:=⟨fun _=>none,fun _=>none,fun _=>none⟩
def erM (l:List Etr):ErM:=l.foldl erStep er0
theorem erM_take (l:List Etr) (i:Nat) (h:i < l.length):erM (l.take (i+1))=erStep (erM (l.take i)) l[i]:=by
 unfold erM
 rw [List.take_succ_eq_append_getElem h,List.foldl_append];rfl
def goneM (l:List Etr) (i:FID):Bool:=((erM l).ids i).isSome
def rowB (i:FID) (b:Bas):Rw:=⟨i,b.last.fact.table,b.last.fact.key,b.last.fact.event,b.last.fact.fields,b.last.no,b.last.tick⟩
def effH (gone:FID→Bool) (p:FID × Bas):Option Rw:=if p.2.asserted=true∧¬ p.2.last.fact.kind=3∧gone p.1=false then some (rowB p.1 p.2) else none
theorem effH_id {gone:FID→Bool} {p:FID × Bas} {r:Rw} (h:effH gone p=some r):r.id=p.1:=by
 unfold effH at h
 split at h
 ·cases h;rfl
 ·cases h
structure IsEff (f:FID→Option Bas) (gone:FID→Bool) (E:List Rw):Prop where
 sorted:E.Pairwise fun a b=>cmpRow a b < 0
 mem:∀ r,r ∈ E↔∃ b,f r.id=some b∧effH gone (r.id,b)=some r
theorem psorted_eq' {α:Type} {R:α→α→Prop} (asym:∀ a b,R a b→¬ R b a):∀ {l m:List α},l.Pairwise R→m.Pairwise R→(∀ k,k ∈ l↔k ∈ m)→l=m
 | [],[],_,_,_=>rfl
 | [],y::m,_,_,h=>absurd ((h y).2 List.mem_cons_self) (by simp)
 | x::l,[],_,_,h=>absurd ((h x).1 List.mem_cons_self) (by simp)
 | x::l,y::m,hl,hm,h=>by
  have cl:=List.pairwise_cons.1 hl
  have cm:=List.pairwise_cons.1 hm
  have irr:∀ a,¬ R a a:=fun a ha=>asym a a ha ha
  have hxy:x=y:=by
   rcases List.mem_cons.1 ((h x).1 List.mem_cons_self) with e | hx
   ·exact e
   rcases List.mem_cons.1 ((h y).2 List.mem_cons_self) with e | hy
   ·exact e.symm
   ·exact absurd (cl.1 y hy) (asym _ _ (cm.1 x hx))
  subst hxy
  rw [psorted_eq' asym cl.2 cm.2 fun k=>⟨fun hk=>?_,fun hk=>?_⟩]
  ·rcases List.mem_cons.1 ((h k).1 (List.mem_cons_of_mem _ hk)) with rfl | h'
   ·exact absurd (cl.1 k hk) (irr k)
   ·exact h'
  ·rcases List.mem_cons.1 ((h k).2 (List.mem_cons_of_mem _ hk)) with rfl | h'
   ·exact absurd (cm.1 k hk) (irr k)
   ·exact h'
theorem IsEff.unique {f:FID→Option Bas} {gone:FID→Bool} {E E':List Rw} (h:IsEff f gone E) (h':IsEff f gone E'):E=E' :=
 psorted_eq' (R:=fun a b=>cmpRow a b < 0) (fun a b h1 h2=>by have:=pre_cmpRow.anti a b;omega) h.sorted h'.sorted fun r=>(h.mem r).trans (h'.mem r).symm
theorem cmpRow_id {a b:Rw} (h:cmpRow a b=0):a.id=b.id:=by
 unfold cmpRow at h
 rw [orL2] at h
 exact cmpID_eq0.1 (ite0 h).2
theorem isEff_of {f:FID→Option Bas} {gone:FID→Bool} {g:List (Nat × FID × Bas)} {cl:Nat} (hg:GoodK id f g cl) {E:List Rw} (hp:E.Perm (g.filterMap fun p=>effH gone p.2)) (hs:E.Pairwise fun x y=>¬ cmpRow y x < 0):IsEff f gone E where
 sorted:=by
  have h1:(g.filterMap fun p=>effH gone p.2).Pairwise fun a b=>¬ a.id=b.id:=by
   rw [List.pairwise_filterMap]
   refine hg.apart.imp fun {a b} h=>?_
   intro r hr r' hr' e
   have e1:=effH_id (show effH gone a.2=some r from hr)
   have e2:=effH_id (show effH gone b.2=some r' from hr')
   exact h.2 (by rw [← e1,← e2,e])
  have h2:E.Pairwise fun a b=>¬ a.id=b.id:=(hp.pairwise_iff fun h e=>h e.symm).2 h1
  refine(hs.and h2).imp fun {a b} h=>?_
  have:=pre_cmpRow.anti a b
  have h0:cmpRow a b ≠ 0:=fun e=>h.2 (cmpRow_id e)
  omega
 mem r:=by
  rw [hp.mem_iff,List.mem_filterMap]
  constructor
  ·rintro⟨p,hpm,hr⟩
   have e:=effH_id hr
   have hgp:getK g p.2.1=some p:=by
    cases hk:getK g p.2.1 with
    | none=>exact absurd rfl (getK_none hk p hpm)
    | some q =>
     obtain⟨hq,hqe⟩:=getK_some hk
     have:=List.pairwise_iff_getElem.1 hg.apart
     obtain⟨i,hi,rfl⟩:=List.getElem_of_mem hpm
     obtain⟨j,hj,rfl⟩:=List.getElem_of_mem hq
     rcases Nat.lt_trichotomy i j with h | h | h
     ·exact absurd hqe (this i j hi hj h).2
     ·subst h;rfl
     ·exact absurd hqe.symm (this j i hj hi h).2
   have hv:=hg.val r.id
   rw [e,hgp] at hv
   refine⟨p.2.2,by rw [e];exact hv.symm,?_⟩
   rw [e];exact hr
  ·rintro⟨b,hb,hr⟩
   have hv:=hg.val r.id
   rw [hb] at hv
   cases hk:getK g r.id with
   | none=>rw [hk] at hv;cases hv
   | some p =>
    rw [hk] at hv
    simp only [Option.map_some,id,Option.some.injEq] at hv
    obtain⟨h1,h2⟩:=getK_some hk
    refine⟨p,h1,?_⟩
    rw [show p.2=(r.id,b) from Prod.ext h2.symm hv]
    exact hr
theorem basF_good (l:List Etr) (t:Int):∃ g cl,GoodK id (basF l t) g cl:=by
 unfold basF
 suffices h:∀ (l:List Etr) (f:FID→Option Bas),(∃ g cl,GoodK id f g cl)→∃ g cl,GoodK id (l.foldl (basStep t) f) g cl from h l _ ⟨[],0,GoodK.nil⟩
 intro l
 induction l with
 | nil=>intro f h;exact h
 | cons x l ih =>
  intro f ⟨g,cl,h⟩
  refine ih _ ?_
  unfold basStep
  split
  ·cases hk:getK g (baseM x.fact) with
   | none=>exact⟨_,_,h.new hk _⟩
   | some p=>exact⟨_,_,h.old hk _⟩
  ·exact⟨g,cl,h⟩
theorem ex_eff (l:List Etr) (t:Int):∃ E,IsEff (basF l t) (goneM l) E:=by
 obtain⟨g,cl,hg⟩:=basF_good l t
 refine⟨(g.filterMap fun p=>effH (goneM l) p.2).mergeSort fun a b=>decide (cmpRow a b≤0),isEff_of hg (List.mergeSort_perm _ _) ?_⟩
 have:=List.pairwise_mergeSort (le:=fun a b:Rw=>decide (cmpRow a b≤0)) (fun a b c h1 h2=>by
  simp only [decide_eq_true_eq] at *
  exact pre_cmpRow.trans a b c h1 h2) (fun a b=>by
  have:=pre_cmpRow.anti a b
  by_cases h:cmpRow a b≤0
  ·simp [h]
  ·have:cmpRow b a≤0:=by omega
   simp [this]) (g.filterMap fun p=>effH (goneM l) p.2)
 refine this.imp fun {a b} h=>?_
 have h':cmpRow a b≤0:=by simpa using h
 have:=pre_cmpRow.anti a b
 omega
noncomputable def effM (l:List Etr) (t:Int):List Rw:=(ex_eff l t).choose
theorem isEff (l:List Etr) (t:Int):IsEff (basF l t) (goneM l) (effM l t):=(ex_eff l t).choose_spec
theorem effM_congr {l:List Etr} {t u:Int} (h:∀ x ∈ l,isFact t x=isFact u x):effM l t=effM l u:=by
 have:basF l t=basF l u:=by
  unfold basF
  suffices hs:∀ (l:List Etr) (f:FID→Option Bas),(∀ x ∈ l,isFact t x=isFact u x)→l.foldl (basStep t) f=l.foldl (basStep u) f from hs l _ h
  intro l
  induction l with
  | nil=>intro f _;rfl
  | cons x l ih =>
   intro f h
   simp only [List.foldl_cons]
   rw [show basStep t f x=basStep u f x by unfold basStep;rw [h x List.mem_cons_self]]
   exact ih _ fun y hy=>h y (List.mem_cons_of_mem _ hy)
 have h1:=isEff l t
 rw [this] at h1
 exact h1.unique (isEff l u)
theorem effM_none {l:List Etr} {t:Int} (h:∀ x ∈ l,isFact t x=false):effM l t=[]:=by
 have:basF l t=fun _=>none:=by
  unfold basF
  suffices hs:∀ (l:List Etr) (f:FID→Option Bas),(∀ x ∈ l,isFact t x=false)→l.foldl (basStep t) f=f from hs l _ h
  intro l
  induction l with
  | nil=>intro f _;rfl
  | cons x l ih =>
   intro f h
   simp only [List.foldl_cons]
   rw [show basStep t f x=f by unfold basStep;rw [h x List.mem_cons_self];simp]
   exact ih _ fun y hy=>h y (List.mem_cons_of_mem _ hy)
 rw [List.eq_nil_iff_forall_not_mem]
 intro r hr
 obtain⟨b,hb,_⟩:=((isEff l t).mem r).1 hr
 rw [this] at hb
 cases hb
end Go.Proofs.YtopfanlkbepemaaGreat
set_option linter.unusedSimpArgs false
set_option maxRecDepth 100000
set_option linter.defProp false
namespace Go.Lo
open Go.VL Go.Ar
section
variable {α β:Type} [DecidableEq α] {kV:α→Value} {cV:β→V}
theorem getK_split {g:List (Nat × α × β)} {a:α} {p:Nat × α × β} (h:getK g a=some p):∃ A B,g=A++p::B∧p.2.1=a∧∀ v,modK a v g=A++(p.1,a,v)::B:=by
 induction g with
 | nil=>cases h
 | cons q g ih =>
  unfold getK at h
  rw [List.find?_cons] at h
  by_cases e:a=q.2.1
  ·rw [decide_eq_true e] at h
   obtain rfl:=Option.some.inj h
   exact⟨[],g,rfl,e.symm,fun v=>by unfold modK;rw [if_pos e,← e];rfl⟩
  ·rw [decide_eq_false e] at h
   obtain⟨A,B,rfl,h1,h2⟩:=ih h
   exact⟨q::A,B,rfl,h1,fun v=>by unfold modK;rw [if_neg e,h2];rfl⟩
omit [DecidableEq α] in
theorem setE_other {g:List (Nat × α × β)} {n:Nat} {v:V} (h:∀ p ∈ g,p.1 ≠ n):setE n v (entsK kV cV g)=entsK kV cV g:=by
 unfold setE entsK
 rw [List.map_map]
 refine List.map_congr_left fun p hp=>?_
 simp only [Function.comp]
 rw [if_neg (h p hp)]
omit [DecidableEq α] in
theorem setE_entsK {A B:List (Nat × α × β)} {n:Nat} {a:α} {u:β} (v:β) (h:ApartK (A++(n,a,u)::B)):setE n (cV v) (entsK kV cV (A++(n,a,u)::B))=entsK kV cV (A++(n,a,v)::B):=by
 obtain⟨h1,h2,h3⟩:=List.pairwise_append.1 h
 have h4:=(List.pairwise_cons.1 h2).1
 have e:∀ X Y:List Ent,setE n (cV v) (X++Y)=setE n (cV v) X++setE n (cV v) Y:=fun X Y=>List.map_append
 have eA:=setE_other (kV:=kV) (cV:=cV) (n:=n) (v:=cV v) (g:=A) fun p hp=>by have:=(h3 p hp _ List.mem_cons_self).1;simp only at this;omega
 have eB:=setE_other (kV:=kV) (cV:=cV) (n:=n) (v:=cV v) (g:=B) fun p hp=>by have:=(h4 p hp).1;simp only at this;omega
 have e1:entsK kV cV (A++(n,a,u)::B)=entsK kV cV A++((n,kV a,cV u)::entsK kV cV B):=by simp [entsK]
 have e2:entsK kV cV (A++(n,a,v)::B)=entsK kV cV A++((n,kV a,cV v)::entsK kV cV B):=by simp [entsK]
 rw [e1,e2,e,eA]
 congr 1
 show (if n=n then _ else _)::setE n (cV v) (entsK kV cV B)=_
 rw [if_pos rfl,eB]
end
abbrev cAb (p:Value × List FID):V:=.list (some p.1) 2 (p.2.map cFID)
abbrev vU (_:Unit):V:=vbool true
abbrev ksS:List Sh × Bool:=([.s],false)
abbrev ksSS:List Sh × Bool:=([.s,.s],true)
end Go.Lo
namespace Go.Proofs.YtopfanlkbepemaaGreat
open Go.VL Go.Ar Go.Lo Go.Proofs.YtopfanlkbepemaaGreat
abbrev tokA (p:Nat × (Str × Str) × (Value × List FID)):VL.Row:=⟨p.2.2.1,2,40⟩
abbrev bxE (b3 b4 b5:Nat) (g3:List (Nat × Str × Str)) (c3:Nat) (g2:List (Nat × (Str × Str) × (Value × List FID))) (c2:Nat) (g1:List (Nat × FID × Unit)) (c1:Nat):List (Nat × B) :=
 [(b5,.m ksS (entsK kStr vstr g3) c3),(b4,.m ksSS (entsK kSS cAb g2) c2),(b3,.m ksF (entsK kFID vU g1) c1)]
structure ErOk (m:ErM) (n:Nat) (g3:List (Nat × Str × Str)) (c3:Nat) (g2:List (Nat × (Str × Str) × (Value × List FID))) (c2:Nat) (g1:List (Nat × FID × Unit)) (c1:Nat):Prop where
 kinds:GoodK id m.kinds g3 c3
 about:GoodK (fun p:Value × List FID=>p.2) m.about g2 c2
 ids:GoodK id m.ids g1 c1
 len:∀ p ∈ g2,p.2.2.2.length≤n
theorem ErOk.up {m n g3 c3 g2 c2 g1 c1} (h:ErOk m n g3 c3 g2 c2 g1 c1):ErOk m (n+1) g3 c3 g2 c2 g1 c1:=⟨h.1,h.2,h.3,fun p hp=>Nat.le_succ_of_le (h.4 p hp)⟩
theorem sub_eq {α:Type} {l m:List α} (h:l=m):m.Sublist l:=h▸List.Sublist.refl _
theorem entsK_append {α β:Type} {kV:α→Value} {cV:β→V} (g:List (Nat × α × β)) (p:Nat × α × β):entsK kV cV g++[(p.1,kV p.2.1,cV p.2.2)]=entsK kV cV (g++[p]):=by simp [entsK]
theorem onFind_map {o:Option Str} {A:V→Prop} {B:Prop} {p q} (hB:A (vstr ⟨#[]⟩)→B) (h:A (vstr (o.getD ⟨#[]⟩))):onFind (o.map vstr) A B p q:=by
 cases o
 ·exact hB h
 ·exact h
def InvE (b3 b4 b5 b7 b8:Nat) (g3:List (Nat × Str × Str)) (c3:Nat) (g2:List (Nat × (Str × Str) × (Value × List FID))) (c2:Nat) (g1:List (Nat × FID × Unit)) (c1:Nat) (l:List Etr) (i:Nat) (x:Etr) (w1:Str) (es1:List Ent) (cl1 st:Nat) (v0:V) (L0:List FID) (R':List VL.Row) (L:Nat→Bool) (S:St):Prop :=
 S.σ 3=.lit (.map (some b3))∧S.σ 4=.lit (.map (some b4))∧S.σ 5=.lit (.map (some b5))∧S.σ 7=ptr b7∧S.σ 8=ptr b8∧S.σ 14=vEtrs l∧S.σ 15=vint l.length∧S.σ 16=vint i ∧
 (L 8=true→L 5=true)∧(L 10=true→L 6=true∧L 8=true) ∧
 (L 0=true→S.σ 58=.lit (.map (some b4)))∧(L 1=true→S.σ 59=.agg [vstr w1,vstr x.fact.key])∧(L 2=true→S.σ 61=.lit (.pointer (some ⟨b7,3,none⟩)))∧(L 3=true→S.σ 62=.agg (cFct x.fact))∧(L 4=true→S.σ 63=.agg (cFID (baseM x.fact))) ∧
 (L 6=true→S.σ 65=.tup [v0,vint st])∧(L 7=true→S.σ 60=v0)∧(L 9=true→S.σ 67=vint st) ∧
 ∃ y1 y',(L 5=true→S.σ 64=.list (some y1) 2 [cFID (baseM x.fact)])∧(L 8=true→S.σ 66=cAb (y',L0++[baseM x.fact])) ∧
  S.rows=(bif L 8 then ⟨y',2,40⟩::⟨y1,2,40⟩::R' else bif L 5 then ⟨y1,2,40⟩::g2.map tokA else g2.map tokA) ∧
  S.boxes=[(b8,.c [vstr w1,vstr x.fact.key]),(b7,.c (cEtr x)),(b5,.m ksS (entsK kStr vstr g3) c3),(b4,.m ksSS (bif L 10 then setE st (cAb (y',L0++[baseM x.fact])) es1 else bif L 6 then es1 else entsK kSS cAb g2) (bif L 6 then cl1 else c2)),(b3,.m ksF (entsK kFID vU g1) c1)]
def TE (l:List Etr) (b3 b4 b5:Nat) (i:Nat) (S:St):Prop:=∃ g3 c3 g2 c2 g1 c1,ErOk (erM (l.take i)) i g3 c3 g2 c2 g1 c1∧S.boxes=bxE b3 b4 b5 g3 c3 g2 c2 g1 c1∧S.rows=g2.map tokA∧S.σ 3=.lit (.map (some b3))∧S.σ 4=.lit (.map (some b4))∧S.σ 5=.lit (.map (some b5))∧S.σ 14=vEtrs l∧S.σ 15=vint l.length∧S.σ 16=vint i
theorem er_end {l:List Etr} {b3 b4 b5 i:Nat} {S:St} (X:List (Nat × B)) {e3 e2 e1:List Ent} {g3 c3 g2 c2 g1 c1} {R:List VL.Row} (hb:S.boxes=X++[(b5,.m ksS e3 c3),(b4,.m ksSS e2 c2),(b3,.m ksF e1 c1)])
  (h3:S.σ 3=.lit (.map (some b3))) (h4:S.σ 4=.lit (.map (some b4))) (h5:S.σ 5=.lit (.map (some b5))) (h14:S.σ 14=vEtrs l) (h15:S.σ 15=vint l.length) (h16:S.σ 16=vint ((i+1:Nat):Int))
  (hr:R.Sublist S.rows) (hp:R.Perm (g2.map tokA)) (q3:e3=entsK kStr vstr g3) (q2:e2=entsK kSS cAb g2) (q1:e1=entsK kFID vU g1) (hok:ErOk (erM (l.take (i+1))) (i+1) g3 c3 g2 c2 g1 c1):LoseP (TE l b3 b4 b5 (i+1)) S:=by
 subst q3 q2 q1
 exact⟨_,R,_,_,by rw [hb];exact List.sublist_append_right _ _,hr,List.Perm.refl _,hp,g3,c3,g2,c2,g1,c1,hok,rfl,rfl,h3,h4,h5,h14,h15,h16⟩
theorem addU_take (ids:FID→Option Unit) (L:List FID) (j:Nat) (h:j < L.length):addU ids (L.take (j+1))=updF (addU ids (L.take j)) L[j] ():=by
 unfold addU
 rw [List.take_succ_eq_append_getElem h,List.foldl_append];rfl
def tbE50:=(aI (aI (aI (aI Ty.c48 (aI Ty.t130 Ty.t131)) (aI Ty.t133 (aI Ty.t134 Ty.t156))) (aI (aI Ty.t22 (aI Ty.t231 Ty.t3)) (aI (aI Ty.t4 Ty.t40) (aI Ty.t41 Ty.t70)))) (aI (aI (aI Ty.t75 (aI Ty.t77 Ty.t78)) (aI (aI Ty.t80 Ty.t81) (aI Ty.t83 Ty.t85))) (aI (aI Ty.t87 (aI Ty.t88 Ty.t9)) (aI (aI Ty.t90 Ty.t92) (aI Ty.t94 Ty.t96)))))
set_option maxHeartbeats 4000000 in
theorem erased_ok (l:List Etr) (hl:l.length≤1000000):Ok Tryz.prog 23 [vEtrs l] [] fun v bs rs =>
  ∃ b3 g1 c1,v=.lit (.map (some b3))∧bs=[(b3,.m ksF (entsK kFID vU g1) c1)]∧rs=[]∧GoodK id (erM l).ids g1 c1:=by
 refine Ok.of_exM [(11,3)] Ty.mixed Tryz.func23 rfl (by simp [Tryz.ntmps23]) (by kernel_rfl) fun F w0 I0=>?_
 simp only [↓rA,rB,reduceCtorEq,tbE50,Tryz.results23]
 refine fun b3 h3=>?_;replace h3:=newb h3;try simp only [Nb] at h3
 simp only [rB]
 refine fun b4 h4=>?_;replace h4:=newb h4;try simp only [Nb] at h4
 have hh:=And.intro h3 h4
 simp only [rB]
 refine fun b5 h5=>?_;replace h5:=newb h5;try simp only [Nb] at h5
 have hh:=And.intro hh h5
 simp only [rB,reduceCtorEq]
 refine EX_forP Ty.mixed (by kernel_rfl) l.length (TE l b3 b4 b5) ⟨_,_,_,_,List.Sublist.refl _,List.Sublist.refl _,List.Perm.refl _,List.Perm.refl _,?_⟩ (fun i S hi ⟨g3,c3,g2,c2,g1,c1,hok,gb,gr,s3,s4,s5,s14,s15,s16⟩=>?_) (fun S ⟨g3,c3,g2,c2,g1,c1,hok,gb,gr,s3,s4,s5,s14,s15,s16⟩=>?_)
 ·unfold TE
  simp only [rB,Nat.reduceEqDiff,List.length_map]
  exact⟨[],0,[],0,[],0,⟨GoodK.nil,GoodK.nil,GoodK.nil,fun p hp=>absurd hp List.not_mem_nil⟩,rfl,rfl⟩
 ·have hwi:=wrap_succ (i:=i) (N:=l.length) hi (by omega)
  have hst:=erM_take l i hi
  have c1':=cEtr_eq l[i]
  simp only [↓rA,rB,Nat.reduceAdd,Nat.reduceEqDiff,tbE50,gb,gr,s14,s15,s16,Int.ofNat_lt,hi,List.length_map,getD_map _ _ _ hi,c1']
  refine fun b7 h7=>?_;replace h7:=newb h7;try simp only [Nb] at h7
  have hh:=And.intro hh h7
  generalize l[i]=x at c1' hst
  by_cases k3:x.kind=3
  ·have e3:(x.kind=3)=True:=eq_true k3
   have n1:¬ x.kind=1:=by omega
   have n2:¬ x.kind=2:=by omega
   by_cases kc:x.change.kind=1
   ·have ec:(x.change.kind=1)=True:=eq_true kc
    have hfm:=findM_entsK (cV:=vstr) keq_Str x.change.table.name g3
    have hmm:=modM_entsK (cV:=vstr) keq_Str x.change.table.name x.change.table.entity g3
    have hst':erM (l.take (i+1))={ erM (l.take i) with kinds:=updF (erM (l.take i)).kinds x.change.table.name x.change.table.entity }:=by rw [hst];unfold erStep;rw [if_pos ⟨k3,kc⟩]
    simp only [↓rA,rB,Nat.reduceAdd,Nat.reduceEqDiff,tbE50,gb,s5,hh,e3,ec]
    rw [hfm]
    cases hgk:getK g3 x.change.table.name with
    | none =>
     rw [Option.map_none]
     simp only [↓rA,rB,Nat.reduceEqDiff,s16,hh,hwi]
     exact er_end [_] rfl s3 s4 s5 s14 s15 rfl (R:=g2.map tokA) (sub_eq gr) (List.Perm.refl _) (entsK_append g3 (c3,x.change.table.name,x.change.table.entity)) rfl rfl (by rw [hst'];exact⟨hok.kinds.new hgk _,hok.about,hok.ids,hok.up.len⟩)
    | some p =>
     rw [Option.map_some]
     simp only [↓rA,rB,Nat.reduceEqDiff,s16,hh,hwi]
     exact er_end [_] rfl s3 s4 s5 s14 s15 rfl (R:=g2.map tokA) (sub_eq gr) (List.Perm.refl _) hmm rfl rfl (by rw [hst'];exact⟨hok.kinds.old hgk _,hok.about,hok.ids,hok.up.len⟩)
   ·have hst':erM (l.take (i+1))=erM (l.take i):=by rw [hst];unfold erStep;rw [if_neg (fun h=>kc h.2),if_neg (fun h=>n1 h.1),if_neg (fun h=>n2 h.1),if_neg n2]
    simp only [↓rA,rB,Nat.reduceAdd,Nat.reduceEqDiff,tbE50,gb,s16,e3,kc,n1,n2,hwi]
    exact er_end [_] rfl s3 s4 s5 s14 s15 rfl (R:=g2.map tokA) (sub_eq gr) (List.Perm.refl _) rfl rfl rfl (by rw [hst'];exact hok.up)
  ·by_cases k1:x.kind=1
   ·have e1:(x.kind=1)=True:=eq_true k1
    have n2:¬ x.kind=2:=by omega
    by_cases kf:x.fact.kind=3
    ·have ef:(x.fact.kind=3)=True:=eq_true kf
     have hst':erM (l.take (i+1))=erM (l.take i):=by rw [hst];unfold erStep;rw [if_neg (fun h=>k3 h.1),if_neg (fun h=>h.2 kf),if_neg (fun h=>n2 h.1),if_neg n2]
     simp only [↓rA,rB,Nat.reduceAdd,Nat.reduceEqDiff,tbE50,gb,s16,k3,e1,ef,n2,hwi]
     exact er_end [_] rfl s3 s4 s5 s14 s15 rfl (R:=g2.map tokA) (sub_eq gr) (List.Perm.refl _) rfl rfl rfl (by rw [hst'];exact hok.up)
    ·have hst':erM (l.take (i+1))={ erM (l.take i) with about:=updF (erM (l.take i)).about (whoM (erM (l.take i)) x.fact) ((((erM (l.take i)).about (whoM (erM (l.take i)) x.fact)).getD [])++[baseM x.fact]) }:=by rw [hst];unfold erStep;rw [if_neg (fun h=>k3 h.1),if_pos ⟨k1,kf⟩]
     have hfm:=findM_entsK (cV:=vstr) keq_Str x.fact.table g3
     have hvk:=hok.kinds.val x.fact.table
     have hfm':VL.findM (entsK kStr vstr g3) (kStr x.fact.table)=((erM (l.take i)).kinds x.fact.table).map vstr:=by rw [hfm,← hvk,Option.map_map];rfl
     have hwho:whoM (erM (l.take i)) x.fact=(((erM (l.take i)).kinds x.fact.table).getD ⟨#[]⟩,x.fact.key):=rfl
     rw [hwho] at hst'
     simp only [↓rA,rB,Nat.reduceAdd,Nat.reduceEqDiff,tbE50,gb,s5,hh,k3,e1,kf]
     rw [hfm']
     refine onFind_map id ?_
     generalize ((erM (l.take i)).kinds x.fact.table).getD ⟨#[]⟩=w1 at hst'
     simp only [↓rA,rB,Nat.reduceAdd,Nat.reduceEqDiff,Nat.reduceLeDiff,tbE50,gr]
     refine fun b8 h8=>?_;replace h8:=newb h8;try simp only [Nb] at h8
     have hh:=And.intro hh h8
     simp only [↓rA,rB,Nat.reduceAdd,Nat.reduceEqDiff,tbE50]
     have hap:=hok.about.apart
     have hlt:=hok.about.lt
     have hcase:∃ (es1:List Ent) (cl1 st:Nat) (v0:V) (L0:List FID) (R':List VL.Row) (gN:Value→List (Nat × (Str × Str) × (Value × List FID))),L0.length≤i∧((erM (l.take i)).about (w1,x.fact.key)).getD []=L0 ∧
       ((findE (entsK kSS cAb g2) (kSS (w1,x.fact.key))=none∧es1=entsK kSS cAb g2++[(c2,kSS (w1,x.fact.key),nilS)]∧cl1=c2+1∧v0=nilS∧st=c2)∨(∃ e,findE (entsK kSS cAb g2) (kSS (w1,x.fact.key))=some e∧es1=entsK kSS cAb g2∧cl1=c2∧v0=e.2.2∧st=e.1)) ∧
       ((v0=nilS∧L0=[]∧R'=g2.map tokA)∨(∃ y0 A B,v0=.list (some y0) 2 (L0.map cFID)∧g2.map tokA=A++⟨y0,2,40⟩::B∧R'=A++B)) ∧
       (∀ y,setE st (cAb (y,L0++[baseM x.fact])) es1=entsK kSS cAb (gN y)∧GoodK (fun p:Value × List FID=>p.2) (updF (erM (l.take i)).about (w1,x.fact.key) (L0++[baseM x.fact])) (gN y) cl1∧((⟨y,2,40⟩:VL.Row)::R').Perm ((gN y).map tokA)∧∀ p ∈ gN y,p.2.2.2.length≤i+1)∧∃ e ∈ es1,e.1=st:=by
      have hfe:=findE_entsK (cV:=cAb) keq_SS (w1,x.fact.key) g2
      have hval:=hok.about.val (w1,x.fact.key)
      cases hgk:getK g2 (w1,x.fact.key) with
      | none =>
       rw [hgk] at hfe hval
       refine⟨_,_,_,nilS,[],g2.map tokA,fun y=>g2++[(c2,(w1,x.fact.key),(y,[baseM x.fact]))],Nat.zero_le _,by rw [← hval];rfl,.inl ⟨hfe,rfl,rfl,rfl,rfl⟩,.inl ⟨rfl,rfl,rfl⟩,fun y=>⟨?_,hok.about.new hgk (y,[baseM x.fact]),?_,fun p hp=>?_⟩,_,List.mem_append.2 (.inr List.mem_cons_self),rfl⟩
       ·have e:∀ X Y:List Ent,setE c2 (cAb (y,[]++[baseM x.fact])) (X++Y)=setE c2 (cAb (y,[]++[baseM x.fact])) X++setE c2 (cAb (y,[]++[baseM x.fact])) Y:=fun X Y=>List.map_append
        rw [e,setE_other fun p hp=>Nat.ne_of_lt (hlt p hp),← entsK_append]
        congr 1
        show [if c2=c2 then _ else _]=_
        rw [if_pos rfl]
        rfl
       ·rw [List.map_append]
        exact(List.perm_append_comm (l₁:=[_]))
       ·rcases List.mem_append.1 hp with hp | hp
        ·exact Nat.le_succ_of_le (hok.len p hp)
        ·rw [List.mem_singleton] at hp;subst hp
         simp
      | some p =>
       rw [hgk] at hfe hval
       obtain⟨A,B,hg2,hpk,hmk⟩:=getK_split hgk
       obtain⟨pn,pk,y0,L0⟩:=p
       simp only at hpk
       subst hpk
       have hL0:=hok.len _ (getK_some hgk).1
       refine⟨_,_,_,.list (some y0) 2 (L0.map cFID),L0,A.map tokA++B.map tokA,fun y=>modK (w1,x.fact.key) (y,L0++[baseM x.fact]) g2,hL0,by rw [← hval];rfl,.inr ⟨_,hfe,rfl,rfl,rfl,rfl⟩,.inr ⟨y0,A.map tokA,B.map tokA,rfl,by rw [hg2,List.map_append];rfl,rfl⟩,fun y=>⟨?_,hok.about.old hgk (y,L0++[baseM x.fact]),?_,fun p hp=>?_⟩,?_⟩
       ·show setE pn _ _=entsK kSS cAb (modK _ _ g2)
        rw [hmk,hg2]
        rw [hg2] at hap
        exact setE_entsK (y,L0++[baseM x.fact]) hap
       ·show List.Perm _ (List.map tokA (modK _ _ g2))
        rw [hmk,List.map_append]
        exact List.perm_middle.symm
       ·obtain⟨p',hp',e1,e2,e3⟩:=modK_mem hp
        rcases e3 with rfl | e3
        ·exact Nat.le_succ_of_le (hok.len _ hp')
        ·rw [e3];simp only [List.length_append,List.length_cons,List.length_nil];simp only at hL0;omega
       ·rw [hg2]
        exact⟨_,List.mem_map.2 ⟨_,List.mem_append.2 (.inr List.mem_cons_self),rfl⟩,rfl⟩
     obtain⟨es1,cl1,st,v0,L0,R',gN,hL0,hab,hcE,hcR,hgN,hst1⟩:=hcase
     rw [hab] at hst'
     refine EX_invA Ty.mixed (by kernel_rfl) (by kernel_rfl) (InvE b3 b4 b5 b7 b8 g3 c3 g2 c2 g1 c1 l i x w1 es1 cl1 st v0 L0 R') ?_ ?_ ?_
     ·exact⟨s3,s4,s5,rfl,rfl,s14,s15,s16,fun h=>(by cases h),fun h=>(by cases h),fun h=>(by cases h),fun h=>(by cases h),fun h=>(by cases h),fun h=>(by cases h),fun h=>(by cases h),fun h=>(by cases h),fun h=>(by cases h),fun h=>(by cases h),nilv,nilv,fun h=>(by cases h),fun h=>(by cases h),gr,rfl⟩
     ·intro L S n o ho hL he ⟨s3,s4,s5,s7,s8,s14,s15,s16,j8,j10,f0,f1,f2,f3,f4,f6,f7,f9,y1,y2,f5,f8,gr,gb⟩
      match n,ho with
      | 0,ho =>
       cases ho
       simp only [↓rA,rB,s4]
       exact⟨s3,s4,s5,s7,s8,s14,s15,s16,j8,j10,fun _=>rfl,f1,f2,f3,f4,f6,f7,f9,y1,y2,f5,f8,gr,gb⟩
      | 1,ho =>
       cases ho
       simp only [↓rA,rB,Nat.reduceAdd,tbE50,s8,gb,c1']
       exact⟨s3,s4,s5,s7,s8,s14,s15,s16,j8,j10,f0,fun _=>rfl,f2,f3,f4,f6,f7,f9,y1,y2,f5,f8,gr,gb⟩
      | 2,ho =>
       cases ho
       simp only [↓rA,rB,tbE50,s7]
       exact⟨s3,s4,s5,s7,s8,s14,s15,s16,j8,j10,f0,f1,fun _=>rfl,f3,f4,f6,f7,f9,y1,y2,f5,f8,gr,gb⟩
      | 3,ho =>
       cases ho
       have l2:=he ⟨2,.data⟩ (by simp) rfl
       have d2:=f2 l2
       simp only [↓rA,rB,Nat.reduceAdd,Nat.reduceLeDiff,tbE50,gb,hh,d2,c1']
       exact⟨s3,s4,s5,s7,s8,s14,s15,s16,j8,j10,f0,f1,f2,fun _=>rfl,f4,f6,f7,f9,y1,y2,f5,f8,gr,gb⟩
      | 4,ho =>
       cases ho
       have l3:=he ⟨3,.data⟩ (by simp) rfl
       have d3:=f3 l3
       simp only [↓rA,rB,tbE50,gb,d3]
       refine OkF_of _ (base_ok x.fact) ?_
       simp only [↓rA,rB,gr]
       exact⟨s3,s4,s5,s7,s8,s14,s15,s16,j8,j10,f0,f1,f2,f3,fun _=>rfl,f6,f7,f9,y1,y2,f5,f8,rfl,rfl⟩
      | 5,ho =>
       cases ho
       have l4:=he ⟨4,.data⟩ (by simp) rfl
       have d4:=f4 l4
       have l8:L 8=false:=Bool.eq_false_iff.2 fun h=>by rw [j8 h] at hL;cases hL
       simp only [l8,hL,cond_false] at gr
       simp only [↓rA,rB,Nat.reduceAdd,Nat.reduceLT,Nat.reduceLeDiff,Nat.reduceMul,tbE50,d4]
       refine fun y=>?_
       refine⟨s3,s4,s5,s7,s8,s14,s15,s16,fun _=>rfl,j10,f0,f1,f2,f3,f4,f6,f7,f9,y,y2,fun _=>rfl,fun h=>absurd (show L 8=true from h) (by rw [l8];decide),?_,gb⟩
       show _=(bif L 8 then _ else _)
       rw [l8]
       exact congrArg _ gr
      | 6,ho =>
       cases ho
       have l0:=he ⟨0,.data⟩ (by simp) rfl
       have d0:=f0 l0
       have l1:=he ⟨1,.data⟩ (by simp) rfl
       have d1:=f1 l1
       have l10:L 10=false:=Bool.eq_false_iff.2 fun h=>by rw [(j10 h).1] at hL;cases hL
       simp only [l10,hL,cond_false] at gb
       rcases hcE with⟨h1,h2,h3,h4,h5⟩ | ⟨e,h1,h2,h3,h4,h5⟩
       ·subst h2 h3 h4 h5
        simp only [↓rA,rB,tbE50,gb,hh,d0,d1]
        rw [h1]
        simp only [↓rA,rB,gb,hh]
        refine⟨s3,s4,s5,s7,s8,s14,s15,s16,j8,fun h=>absurd (show L 10=true from h) (by rw [l10];decide),f0,f1,f2,f3,f4,fun _=>rfl,f7,f9,y1,y2,f5,f8,gr,?_⟩
        show _=[_,_,_,(b4,B.m ksSS (bif L 10 then _ else _) _),_]
        rw [l10]
        rfl
       ·subst h2 h3 h4 h5
        simp only [↓rA,rB,tbE50,gb,hh,d0,d1]
        rw [h1]
        simp only [↓rA,rB]
        refine⟨s3,s4,s5,s7,s8,s14,s15,s16,j8,fun h=>absurd (show L 10=true from h) (by rw [l10];decide),f0,f1,f2,f3,f4,fun _=>rfl,f7,f9,y1,y2,f5,f8,gr,?_⟩
        show _=[_,_,_,(b4,B.m ksSS (bif L 10 then _ else _) _),_]
        rw [l10]
        exact gb
      | 7,ho =>
       cases ho
       have l6:=he ⟨6,.data⟩ (by simp) rfl
       have d6:=f6 l6
       simp only [↓rA,rB,d6]
       exact⟨s3,s4,s5,s7,s8,s14,s15,s16,j8,j10,f0,f1,f2,f3,f4,f6,fun _=>rfl,f9,y1,y2,f5,f8,gr,gb⟩
      | 8,ho =>
       cases ho
       have l7:=he ⟨7,.data⟩ (by simp) rfl
       have d7:=f7 l7
       have l5:=he ⟨5,.data⟩ (by simp) rfl
       have d5:=f5 l5
       have l10:L 10=false:=Bool.eq_false_iff.2 fun h=>by rw [(j10 h).2] at hL;cases hL
       simp only [hL,l5,cond_false,cond_true] at gr
       simp only [l10,cond_false] at gb
       rcases hcR with⟨h1,h2,h3⟩ | ⟨y0,A1,B1,h1,h2,h3⟩
       ·subst h1 h2 h3
        simp only [↓rA,rB,d7,d5]
        refine Or2.l ?_
        simp only [↓rA,rB,Nat.reduceAdd,Nat.reduceLT,Nat.reduceLeDiff,Nat.reduceMul,tbE50]
        refine fun y=>⟨s3,s4,s5,s7,s8,s14,s15,s16,fun _=>l5,fun h=>absurd (show L 10=true from h) (by rw [l10];decide),f0,f1,f2,f3,f4,f6,f7,f9,y1,y,f5,fun _=>rfl,congrArg _ gr,?_⟩
        show _=[_,_,_,(b4,B.m ksSS (bif L 10 then _ else _) _),_]
        rw [l10]
        exact gb
       ·subst h1 h3
        rw [h2] at gr
        simp only [↓rA,rB,Nat.reduceAdd,Nat.reduceLT,tbE50,gr,d7,d5]
        refine takeRF_at (l1:=⟨y1,2,40⟩::A1) ?_
        simp only [↓rA,rB,List.length_map]
        refine⟨by omega,fun y=>⟨s3,s4,s5,s7,s8,s14,s15,s16,fun _=>l5,fun h=>absurd (show L 10=true from h) (by rw [l10];decide),f0,f1,f2,f3,f4,f6,f7,f9,y1,y,f5,fun _=>?_,rfl,?_⟩⟩
        ·show V.list (some y) 2 (L0.map cFID++[cFID _])=V.list (some y) 2 ((L0++[_]).map cFID)
         rw [List.map_append]
         rfl
        ·show _=[_,_,_,(b4,B.m ksSS (bif L 10 then _ else _) _),_]
         rw [l10]
         exact gb
      | 9,ho =>
       cases ho
       have l6:=he ⟨6,.data⟩ (by simp) rfl
       have d6:=f6 l6
       simp only [↓rA,rB,d6]
       exact⟨s3,s4,s5,s7,s8,s14,s15,s16,j8,j10,f0,f1,f2,f3,f4,f6,f7,fun _=>rfl,y1,y2,f5,f8,gr,gb⟩
      | 10,ho =>
       cases ho
       have l0:=he ⟨0,.data⟩ (by simp) rfl
       have d0:=f0 l0
       have l9:=he ⟨9,.data⟩ (by simp) rfl
       have d9:=f9 l9
       have l8:=he ⟨8,.data⟩ (by simp) rfl
       have d8:=f8 l8
       have l6:L 6=true:=he ⟨6,.phase⟩ (by simp) rfl
       simp only [hL,l6,cond_false,cond_true] at gb
       simp only [↓rA,rB,gb,hh,d0,d9,d8]
       obtain⟨e,he1,he2⟩:=hst1
       refine⟨⟨e,he1,by rw [he2]⟩,s3,s4,s5,s7,s8,s14,s15,s16,j8,fun _=>⟨l6,l8⟩,f0,f1,f2,f3,f4,f6,f7,f9,y1,y2,f5,f8,gr,?_⟩
       show _=[_,_,_,(b4,B.m ksSS (setE _ _ _) (bif L 6 then _ else _)),_]
       rw [l6]
       rfl
      | n+11,ho=>cases ho
     ·intro L S hL ⟨s3,s4,s5,s7,s8,s14,s15,s16,j8,j10,f0,f1,f2,f3,f4,f6,f7,f9,y1,y2,f5,f8,gr,gb⟩
      replace hL:∀ i,i < 11→L i=true:=hL
      have l8:=hL 8 (by decide)
      have l10:=hL 10 (by decide)
      have l6:=hL 6 (by decide)
      simp only [l8,cond_true] at gr
      simp only [l10,l6,cond_true] at gb
      obtain⟨q2,qg,qp,ql⟩:=hgN y2
      simp only [↓rA,rB,s16,hwi]
      exact er_end [_,_] gb s3 s4 s5 s14 s15 rfl (R:=⟨y2,2,40⟩::R') (List.Sublist.trans (List.Sublist.cons_cons _ (List.sublist_cons_self _ _)) (sub_eq gr)) qp rfl q2 rfl (by rw [hst'];exact⟨hok.kinds,qg,hok.ids,ql⟩)
   ·by_cases k2:x.kind=2
    ·have e2:(x.kind=2)=True:=eq_true k2
     by_cases ke:x.erasure.kind=2
     ·have ee:(x.erasure.kind=2)=True:=eq_true ke
      have hst':erM (l.take (i+1))={ erM (l.take i) with ids:=updF (erM (l.take i)).ids ⟨x.erasure.src,x.erasure.seq⟩ () }:=by rw [hst];unfold erStep;rw [if_neg (fun h=>k3 h.1),if_neg (fun h=>k1 h.1),if_pos ⟨k2,ke⟩]
      have hfm:=findM_entsK (cV:=vU) keq_FID ⟨x.erasure.src,x.erasure.seq⟩ g1
      have hmm:=modM_entsK (cV:=vU) keq_FID ⟨x.erasure.src,x.erasure.seq⟩ () g1
      simp only [↓rA,rB,Nat.reduceAdd,Nat.reduceEqDiff,Nat.reduceLeDiff,tbE50,gb,s3,hh,k3,k1,e2,ee]
      rw [hfm]
      cases hgk:getK g1 ⟨x.erasure.src,x.erasure.seq⟩ with
      | none =>
       rw [Option.map_none]
       simp only [↓rA,rB,Nat.reduceEqDiff,s16,hh,hwi]
       exact er_end [_] rfl s3 s4 s5 s14 s15 rfl (R:=g2.map tokA) (sub_eq gr) (List.Perm.refl _) rfl rfl (entsK_append g1 (c1,⟨x.erasure.src,x.erasure.seq⟩,())) (by rw [hst'];exact⟨hok.kinds,hok.about,hok.ids.new hgk _,hok.up.len⟩)
      | some p =>
       rw [Option.map_some]
       simp only [↓rA,rB,Nat.reduceEqDiff,s16,hh,hwi]
       exact er_end [_] rfl s3 s4 s5 s14 s15 rfl (R:=g2.map tokA) (sub_eq gr) (List.Perm.refl _) rfl rfl hmm (by rw [hst'];exact⟨hok.kinds,hok.about,hok.ids.old hgk _,hok.up.len⟩)
     ·have hst':erM (l.take (i+1))={ erM (l.take i) with ids:=addU (erM (l.take i)).ids (((erM (l.take i)).about (x.erasure.entity,x.erasure.key)).getD []) }:=by rw [hst];unfold erStep;rw [if_neg (fun h=>k3 h.1),if_neg (fun h=>k1 h.1),if_neg (fun h=>ke h.2),if_pos k2]
      have hfm:=findM_entsK (cV:=cAb) keq_SS (x.erasure.entity,x.erasure.key) g2
      have hval:=hok.about.val (x.erasure.entity,x.erasure.key)
      simp only [↓rA,rB,Nat.reduceAdd,Nat.reduceEqDiff,Nat.reduceLeDiff,tbE50,gb,s4,hh,k3,k1,e2,ke]
      rw [hfm]
      cases hgk:getK g2 (x.erasure.entity,x.erasure.key) with
      | none =>
       rw [hgk] at hval
       rw [← hval] at hst'
       rw [Option.map_none]
       simp only [↓rA,rB,tbE50]
       refine EX_for Ty.mixed (by kernel_rfl) 0 (fun j S=>S.boxes=(b7,.c (cEtr x))::bxE b3 b4 b5 g3 c3 g2 c2 g1 c1∧S.rows=g2.map tokA∧S.σ 3=.lit (.map (some b3))∧S.σ 4=.lit (.map (some b4))∧S.σ 5=.lit (.map (some b5))∧S.σ 14=vEtrs l∧S.σ 15=vint l.length∧S.σ 16=vint i∧S.σ 95=vint 0∧S.σ 96=vint 0) ⟨0,?_⟩ (fun j S hj _=>absurd hj (Nat.not_lt_zero _)) (fun S ⟨gb,gr,s3,s4,s5,s14,s15,s16,s95,s96⟩=>?_)
       ·simp only [rB,Nat.reduceEqDiff,gr,s3,s4,s5,s14,s15,s16,c1']
        exact rfl
       ·simp only [↓rA,rB,Nat.reduceEqDiff,s16,s95,s96,Int.lt_irrefl,hwi]
        exact er_end [_] gb s3 s4 s5 s14 s15 rfl (R:=g2.map tokA) (sub_eq gr) (List.Perm.refl _) rfl rfl rfl (by rw [hst'];exact hok.up)
      | some p =>
       obtain⟨st,w,y0,L⟩:=p
       rw [hgk] at hval
       rw [← hval] at hst'
       have hL:L.length≤i:=hok.len _ (getK_some hgk).1
       rw [Option.map_some]
       simp only [↓rA,rB,tbE50,List.length_map]
       refine EX_forS Ty.mixed (by kernel_rfl) L.length (fun j S=>∃ g1 c1,GoodK id (addU (erM (l.take i)).ids (L.take j)) g1 c1∧S.boxes=(b7,.c (cEtr x))::bxE b3 b4 b5 g3 c3 g2 c2 g1 c1∧S.rows=g2.map tokA∧S.σ 3=.lit (.map (some b3))∧S.σ 4=.lit (.map (some b4))∧S.σ 5=.lit (.map (some b5))∧S.σ 14=vEtrs l∧S.σ 15=vint l.length∧S.σ 16=vint i∧S.σ 94=.list (some y0) 2 (L.map cFID)∧S.σ 95=vint L.length∧S.σ 96=vint j) ⟨_,_,List.Sublist.refl _,List.Sublist.refl _,g1,c1,hok.ids,?_⟩ (fun j S hj ⟨g1,c1,hids,gb,gr,s3,s4,s5,s14,s15,s16,s94,s95,s96⟩=>?_) (fun S ⟨g1,c1,hids,gb,gr,s3,s4,s5,s14,s15,s16,s94,s95,s96⟩=>?_)
       ·simp only [rB,Nat.reduceEqDiff,gr,s3,s4,s5,s14,s15,s16,c1']
        exact rfl
       ·have hwj:=wrap_succ (i:=j) (N:=L.length) hj (by omega)
        have hfm:=findM_entsK (cV:=vU) keq_FID L[j] g1
        have hmm:=modM_entsK (cV:=vU) keq_FID L[j] () g1
        have hadd:=addU_take (erM (l.take i)).ids L j hj
        simp only [↓rA,rB,Nat.reduceAdd,Nat.reduceEqDiff,tbE50,gb,gr,s94,s95,s96,Int.ofNat_lt,hj,List.length_map,getD_map _ _ _ hj]
        refine fun b10 h10=>?_;replace h10:=newb h10;try simp only [Nb] at h10
        have hh:=And.intro hh h10
        simp only [↓rA,rB,Nat.reduceAdd,Nat.reduceEqDiff,tbE50,gb,s3,hh]
        rw [hfm]
        cases hgk:getK g1 L[j] with
        | none =>
         rw [Option.map_none]
         simp only [↓rA,rB,Nat.reduceEqDiff,hh,s96,hwj]
         refine⟨_,_,List.Sublist.cons _ (List.Sublist.refl _),List.Sublist.refl _,g1++[(c1,L[j],())],c1+1,by rw [hadd];exact hids.new hgk _,?_⟩
         simp only [rB,Nat.reduceEqDiff,gr,s3,s4,s5,s14,s15,s16,s94,s95]
         show _=[(b7,_),(b5,_),(b4,_),(b3,B.m ksF (entsK kFID vU (g1++[(c1,L[j],())])) (c1+1))]
         rw [← entsK_append]
        | some p =>
         rw [Option.map_some]
         simp only [↓rA,rB,Nat.reduceEqDiff,hh,s96,hwj]
         refine⟨_,_,List.Sublist.cons _ (List.Sublist.refl _),List.Sublist.refl _,modK L[j] () g1,c1,by rw [hadd];exact hids.old hgk _,?_⟩
         simp only [rB,Nat.reduceEqDiff,gr,s3,s4,s5,s14,s15,s16,s94,s95]
         show _=[(b7,_),(b5,_),(b4,_),(b3,B.m ksF (entsK kFID vU (modK L[j] () g1)) c1)]
         rw [← hmm]
       ·rw [List.take_of_length_le (Nat.le_refl _)] at hids
        simp only [↓rA,rB,Nat.reduceEqDiff,s16,s95,s96,Int.ofNat_lt,Nat.lt_irrefl,hwi]
        exact er_end [_] gb s3 s4 s5 s14 s15 rfl (R:=g2.map tokA) (sub_eq gr) (List.Perm.refl _) rfl rfl rfl (by rw [hst'];exact⟨hok.kinds,hok.about,hids,hok.up.len⟩)
    ·have hst':erM (l.take (i+1))=erM (l.take i):=by rw [hst];unfold erStep;rw [if_neg (fun h=>k3 h.1),if_neg (fun h=>k1 h.1),if_neg (fun h=>k2 h.1),if_neg k2]
     simp only [↓rA,rB,Nat.reduceAdd,Nat.reduceEqDiff,tbE50,gb,s16,k3,k1,k2,hwi]
     exact er_end [_] rfl s3 s4 s5 s14 s15 rfl (R:=g2.map tokA) (sub_eq gr) (List.Perm.refl _) rfl rfl rfl (by rw [hst'];exact hok.up)
 ·rw [List.take_of_length_le (Nat.le_refl _)] at hok
  simp only [↓rA,rB,Nat.reduceEqDiff,gb,gr,s3,s15,s16,Int.ofNat_lt,Nat.lt_irrefl]
  exact⟨_,[_],[],Le.refl _,List.Sublist.cons _ (List.Sublist.cons _ (List.Sublist.cons_cons _ (List.nil_sublist _))),List.nil_sublist _,b3,g1,c1,rfl,rfl,rfl,hok.ids⟩
end Go.Proofs.YtopfanlkbepemaaGreat
set_option linter.unusedSimpArgs false
set_option maxRecDepth 100000
set_option linter.defProp false
namespace Go.Proofs.YtopfanlkbepemaaGreat
open Go.VL Go.Ar Go.Lo Go.Proofs.YtopfanlkbepemaaGreat Go.Proofs.YtopfanlkbepemaaGreat.Arr
theorem sortR_nil:OkP Tryz.prog 25 [nilS,.lit (.func (.func 26) #[] #[])] (.tup []):=Ok.sortNil Tryz.sortR 0 _
theorem sortR_box (l:List Rw) (rest:List V) (b cap:Nat) (hsz:l.length < 4611686018427387904) :
  Ok Tryz.prog 25 [.lit (.slice (some ⟨b,0,none⟩) l.length cap),.lit (.func (.func 26) #[] #[])] [(b,.c ((l.map cRow).flatten++rest))] fun v bs rs =>
   v=.tup []∧rs=[]∧∃ l':List Rw,l'.Perm l∧l'.Pairwise (fun x y=>¬ cmpRow y x < 0)∧bs=[(b,.c ((l'.map cRow).flatten++rest))] :=
 Ok.sortFunc Tryz.sortR (k:=8) Tryz.isAgg43 Tryz.sizeOf43 cRow (fun _=>rfl) cmpRow (pre_swo pre_cmpRow) (g:=26) (enters_of Tryz.func26 (by kernel_rfl) rfl) l
  (fun x hx y hy=>cmpRow_ok x y) rest b cap hsz
theorem cellsR_len (l:List Rw):(l.map cRow).flatten.length=l.length * 8:=by
 induction l with
 | nil=>rfl
 | cons x l ih=>simp only [List.map_cons,List.flatten_cons,List.length_append,ih,List.length_cons,List.length_nil];omega
def tbE60:=(aI (aI (aI (aI Ty.c23 (aI Ty.c24 Ty.c25)) (aI (aI Ty.c26 Ty.t100) (aI Ty.t156 Ty.t22))) (aI (aI (aI Ty.t231 Ty.t3) (aI Ty.t34 Ty.t4)) (aI (aI Ty.t40 Ty.t41) (aI Ty.t43 Ty.t70)))) (aI (aI (aI (aI Ty.t72 Ty.t75) (aI Ty.t77 Ty.t78)) (aI (aI Ty.t80 Ty.t81) (aI Ty.t83 Ty.t85))) (aI (aI (aI Ty.t87 Ty.t88) (aI Ty.t9 Ty.t90)) (aI (aI Ty.t92 Ty.t94) (aI Ty.t96 Ty.t98)))))
set_option maxHeartbeats 2000000 in
theorem eff_ok (l:List Etr) (t:Int) (hl:l.length≤1000000) (hs:∀ x ∈ l,x.kind=1→1≤x.fact.seq):OkP Tryz.prog 8 [vEtrs l,vint t] (vRows (effM l t)):=by
 have hE:∀ E',IsEff (basF l t) (goneM l) E'→E'=effM l t:=fun E' h=>h.unique (isEff l t)
 generalize effM l t=E at hE
 refine Ok.norows (Q:=fun v bs rs=>bs=[]∧rs=[]∧((v=nilS∧E=[])∨∃ y,v=.list (some y) 8 (E.map cRow))) (Ok.freeze (Q:=fun v bs rs=>rs=[]∧((v=nilS∧bs=[]∧E=[])∨∃ b c,v=.lit (.slice (some ⟨b,0,none⟩) E.length c)∧E.length≤c∧bs=[(b,.c ((E.map cRow).flatten++anys ((c - E.length) * 8)))])) ?_ fun v bs rs h=>?_) fun v bs rs h=>?_
 rotate_left
 ·obtain⟨rfl,⟨rfl,rfl,h⟩ | ⟨b,c,rfl,hc,rfl⟩⟩:=h
  ·exact .inl ⟨rfl,rfl,.inl ⟨rfl,h⟩⟩
  ·exact .inr ⟨b,E.length,c,8,_,E.map cRow,[],_,List.Perm.refl _,⟨List.take_left' (cellsR_len _),fun e he=>by obtain⟨x,_,rfl⟩:=List.mem_map.1 he;rfl,by simp,hc⟩,.here,rfl,rfl,.inr ⟨_,rfl⟩⟩
 ·obtain⟨rfl,rfl,⟨rfl,h⟩ | ⟨y,rfl⟩⟩:=h
  ·exact⟨vRows E,[],[],by rw [h];exact Le.nil 8,List.nil_sublist _,List.nil_sublist _,rfl,rfl,rfl⟩
  ·exact⟨vRows E,[],[],Le.list _ _ _,List.nil_sublist _,List.nil_sublist _,rfl,rfl,rfl⟩
 refine Ok.of_ex Ty.mixed Tryz.func8 rfl (by simp [Tryz.ntmps8]) (by kernel_rfl) fun F w0 I0=>?_
 simp only [↓rA,rB,reduceCtorEq,tbE60]
 refine OkF_withN [] _ (List.Perm.refl _) (erased_ok l hl) ?_
 rintro v bs rs ⟨b3,g1,c1,rfl,rfl,rfl,hgone⟩ _
 simp only [↓rA,rB,Nat.reduceEqDiff,reduceCtorEq,tbE60]
 refine OkF_withN [] [_] (List.Perm.refl _) (bases_ok l t hl hs) ?_
 rintro v bs rs ⟨bm,g,cl,rfl,rfl,rfl,hg,hgl⟩ hN
 simp only [List.cons_append,List.nil_append,List.map_cons,List.map_nil,List.nodup_cons,List.mem_cons,List.not_mem_nil,or_false,List.nodup_nil,not_false_eq_true,and_true] at hN
 have hm:bm ≠ b3∧b3 ≠ bm:=⟨hN,fun e=>hN e.symm⟩
 simp only [↓rA,rB,tbE60]
 refine fun ib hi=>?_;replace hi:=newb hi;try simp only [Nb] at hi
 have hh:=And.intro hm hi
 simp only [↓rA,rB,Tryz.results8]
 refine EX_whileS Ty.mixed (by kernel_rfl) (fun x=>(leftK g x.1).length) (fun(x:List Nat × List Rw) S=>GotK (effH (goneM l)) g x.1 x.2∧S.σ 5=.lit (.map (some b3))∧S.σ 14=ptr ib∧S.rows=[]∧((x.2=[]∧S.σ 4=nilS∧S.boxes=[(ib,.it bm cl x.1 cl),(bm,.m ksF (entsK kFID vBas g) cl),(b3,.m ksF (entsK kFID vU g1) c1)]) ∨
  ∃ b c,(x.2.length≤c∧(ib ≠ b∧b ≠ ib)∧(bm ≠ b∧b ≠ bm)∧(b3 ≠ b∧b ≠ b3))∧S.σ 4=.lit (.slice (some ⟨b,0,none⟩) x.2.length c)∧S.boxes=[(b,.c ((x.2.map cRow).flatten++anys ((c - x.2.length) * 8))),(ib,.it bm cl x.1 cl),(bm,.m ksF (entsK kFID vBas g) cl),(b3,.m ksF (entsK kFID vU g1) c1)])) ([],[])
  ⟨_,_,List.Sublist.refl _,List.Sublist.refl _,GotK.start g,?_⟩ (fun⟨seen,acc⟩ S ⟨hgot,g5,g14,gr,hb⟩=>?_)
 ·simp only [rB,Nat.reduceEqDiff]
 simp only at hgot hb
 have hacc:=hgot.len
 rcases hb with⟨ha0,g4,gb⟩ | ⟨b,c,⟨hlc,hb1⟩,g4,gb⟩
 ·subst ha0
  simp only [↓rA,rB,g14,gb,hh]
  refine⟨fun hl0=>?_,fun e he hf=>?_⟩
  ·simp only [↓rA,rB,Nat.reduceEqDiff,tbE60,g4,gb]
   refine OkF_of _ sortR_nil ?_
   simp only [↓rA,rB,Nat.reduceEqDiff,g4,gr]
   rw [leftE_entsK] at hl0
   have hcons:=hE [] (isEff_of hg (hgot.done (by simpa [entsK] using hl0)) List.Pairwise.nil)
   exact⟨nilS,[],[],Le.refl _,List.nil_sublist _,List.nil_sublist _,rfl,.inl ⟨rfl,rfl,hcons.symm⟩⟩
  ·rw [leftE_entsK] at he
   obtain⟨p,hp,rfl⟩:=List.mem_map.1 he
   have hst:=hgot.step hg.apart hp
   have hmu:=leftK_less hg.apart hp
   have hlast:(seen++[p.1]).getLast? = some p.1:=by simp
   simp only at hf
   have hfm:=findM_entsK (cV:=vU) keq_FID p.2.1 g1
   have hv1:=hgone.val p.2.1
   obtain⟨pn,id0,b0⟩:=p
   simp only at hf hst hmu hlast hfm hv1
   have c2:vBas b0=.agg (vbool b0.asserted::vint b0.last.no::vint b0.last.tick::vint b0.last.kind::(cFct b0.last.fact++(cErs b0.last.erasure++cG b0.last.change b0.last.change.feature.body.hd (vEs b0.last.change.feature.body.args)))):=rfl
   simp only [↓rA,rB,Nat.reduceEqDiff,tbE60,g14,gb,gr,hh,hlast,hf,c2]
   refine fun b6 h6=>?_;replace h6:=newb h6;try simp only [Nb] at h6
   have hh:=And.intro hh h6
   simp only [↓rA,rB,tbE60,gb,gr,c2]
   refine fun b7 h7=>?_;replace h7:=newb h7;try simp only [Nb] at h7
   have hh:=And.intro hh h7
   simp only [↓rA,rB,Nat.reduceAdd,Nat.reduceEqDiff,Nat.reduceLeDiff,tbE60,gb,gr,hh,c2]
   refine fun b8 h8=>?_;replace h8:=newb h8;try simp only [Nb] at h8
   have hh:=And.intro hh h8
   cases ha:b0.asserted
   ·have hno:effH (goneM l) (id0,b0)=none:=by unfold effH;rw [if_neg (fun h=>by rw [ha] at h;cases h.1)]
    simp only [↓rA,rB,Nat.reduceAdd,Nat.reduceEqDiff,tbE60,gb,hh]
    refine⟨(seen++[pn],[]),hmu,_,[],List.Sublist.cons _ (List.Sublist.cons _ (List.Sublist.cons _ (List.Sublist.refl _))),List.nil_sublist _,by simpa [hno] using hst,?_⟩
    simp only [rB,Nat.reduceEqDiff,g4,g5,g14]
   ·by_cases k3:b0.last.fact.kind=3
    ·have e3:(b0.last.fact.kind=3)=True:=eq_true k3
     have hno:effH (goneM l) (id0,b0)=none:=by unfold effH;rw [if_neg (fun h=>h.2.1 k3)]
     simp only [↓rA,rB,Nat.reduceAdd,Nat.reduceEqDiff,tbE60,gb,hh,e3]
     refine⟨(seen++[pn],[]),hmu,_,[],List.Sublist.cons _ (List.Sublist.cons _ (List.Sublist.cons _ (List.Sublist.refl _))),List.nil_sublist _,by simpa [hno] using hst,?_⟩
     simp only [rB,Nat.reduceEqDiff,g4,g5,g14]
    ·simp only [↓rA,rB,Nat.reduceAdd,Nat.reduceEqDiff,tbE60,g5,gb,hh,k3]
     rw [hfm]
     cases hgk:getK g1 id0 with
     | some q =>
      have hno:effH (goneM l) (id0,b0)=none:=by unfold effH;rw [if_neg (fun h=>by rw [goneM,← hv1,hgk] at h;cases h.2.2)]
      rw [Option.map_some]
      simp only [↓rA,rB,Nat.reduceEqDiff,gb]
      refine⟨(seen++[pn],[]),hmu,_,[],List.Sublist.cons _ (List.Sublist.cons _ (List.Sublist.cons _ (List.Sublist.refl _))),List.nil_sublist _,by simpa [hno] using hst,?_⟩
      simp only [rB,Nat.reduceEqDiff,g4,g5,g14]
     | none =>
      have hyes:effH (goneM l) (id0,b0)=some (rowB id0 b0):=by unfold effH;rw [if_pos ⟨ha,k3,by rw [goneM,← hv1,hgk];rfl⟩]
      rw [hyes] at hst
      rw [Option.map_none]
      simp only [↓rA,rB,Nat.reduceAdd,Nat.reduceEqDiff,Nat.reduceLT,Nat.reduceLeDiff,Nat.reduceMul,tbE60,g4,gb,hh]
      refine fun y=>Or2.r ?_
      simp only [↓rA,rB,Nat.reduceAdd,Nat.reduceLT,Nat.reduceLeDiff,Nat.reduceMul,tbE60,gb,gr]
      refine fun b c hb hc=>?_
      replace hb:=newb hb
      simp only [Nb] at hb
      obtain⟨n8,n7,n6,n1,n2,n3,_⟩:=hb
      simp only [↓rA,rB,gb]
      refine⟨(seen++[pn],[rowB id0 b0]),hmu,_,[],List.Sublist.cons_cons _ (List.Sublist.cons _ (List.Sublist.cons _ (List.Sublist.cons _ (List.Sublist.refl _)))),List.nil_sublist _,hst,?_⟩
      simp only [rB,Nat.reduceEqDiff,reduceCtorEq,g5,g14]
      exact⟨b,c,⟨hc,n1,n2,n3⟩,rfl,rfl⟩
 ·simp only [↓rA,rB,g14,gb,hh,hb1]
  refine⟨fun hl0=>?_,fun e he hf=>?_⟩
  ·simp only [↓rA,rB,Nat.reduceEqDiff,tbE60,g4,gb]
   refine OkF_with [_] [_,_,_] (List.Perm.refl _) (sortR_box acc _ b c (by omega)) ?_
   rintro v bs rs ⟨rfl,rfl,l',hp,hsr,rfl⟩
   rw [leftE_entsK] at hl0
   have hcons:=hE l' (isEff_of hg (hp.trans (hgot.done (by simpa [entsK] using hl0))) hsr)
   simp only [↓rA,rB,Nat.reduceEqDiff,g4,gr]
   have hlen:E.length=acc.length:=by rw [← hcons];exact hp.length_eq
   exact⟨_,[_],[],Le.refl _,List.Sublist.cons_cons _ (List.nil_sublist _),List.nil_sublist _,rfl,.inr ⟨b,c,by rw [hlen],by rw [hlen];exact hlc,by rw [hlen,← hcons]⟩⟩
  ·rw [leftE_entsK] at he
   obtain⟨p,hp,rfl⟩:=List.mem_map.1 he
   have hst:=hgot.step hg.apart hp
   have hmu:=leftK_less hg.apart hp
   have hlast:(seen++[p.1]).getLast? = some p.1:=by simp
   simp only at hf
   have hfm:=findM_entsK (cV:=vU) keq_FID p.2.1 g1
   have hv1:=hgone.val p.2.1
   obtain⟨pn,id0,b0⟩:=p
   simp only at hf hst hmu hlast hfm hv1
   have c2:vBas b0=.agg (vbool b0.asserted::vint b0.last.no::vint b0.last.tick::vint b0.last.kind::(cFct b0.last.fact++(cErs b0.last.erasure++cG b0.last.change b0.last.change.feature.body.hd (vEs b0.last.change.feature.body.args)))):=rfl
   simp only [↓rA,rB,Nat.reduceEqDiff,tbE60,g14,gb,gr,hh,hb1,hlast,hf,c2]
   refine fun b6 h6=>?_;replace h6:=newb h6;try simp only [Nb] at h6
   have hh:=And.intro hh h6
   simp only [↓rA,rB,tbE60,gb,gr,hb1,c2]
   refine fun b7 h7=>?_;replace h7:=newb h7;try simp only [Nb] at h7
   have hh:=And.intro hh h7
   simp only [↓rA,rB,Nat.reduceAdd,Nat.reduceEqDiff,Nat.reduceLeDiff,tbE60,gb,gr,hh,hb1,c2]
   refine fun b8 h8=>?_;replace h8:=newb h8;try simp only [Nb] at h8
   have hh:=And.intro hh h8
   cases ha:b0.asserted
   ·have hno:effH (goneM l) (id0,b0)=none:=by unfold effH;rw [if_neg (fun h=>by rw [ha] at h;cases h.1)]
    simp only [↓rA,rB,Nat.reduceAdd,Nat.reduceEqDiff,tbE60,gb,hh,hb1]
    refine⟨(seen++[pn],acc),hmu,_,[],List.Sublist.cons _ (List.Sublist.cons _ (List.Sublist.cons _ (List.Sublist.refl _))),List.nil_sublist _,by simpa [hno] using hst,?_⟩
    simp only [rB,Nat.reduceEqDiff,g4,g5,g14]
    exact .inr ⟨b,c,⟨hlc,hb1⟩,rfl,rfl⟩
   ·by_cases k3:b0.last.fact.kind=3
    ·have e3:(b0.last.fact.kind=3)=True:=eq_true k3
     have hno:effH (goneM l) (id0,b0)=none:=by unfold effH;rw [if_neg (fun h=>h.2.1 k3)]
     simp only [↓rA,rB,Nat.reduceAdd,Nat.reduceEqDiff,tbE60,gb,hh,hb1,e3]
     refine⟨(seen++[pn],acc),hmu,_,[],List.Sublist.cons _ (List.Sublist.cons _ (List.Sublist.cons _ (List.Sublist.refl _))),List.nil_sublist _,by simpa [hno] using hst,?_⟩
     simp only [rB,Nat.reduceEqDiff,g4,g5,g14]
     exact .inr ⟨b,c,⟨hlc,hb1⟩,rfl,rfl⟩
    ·simp only [↓rA,rB,Nat.reduceAdd,Nat.reduceEqDiff,tbE60,g5,gb,hh,hb1,k3]
     rw [hfm]
     cases hgk:getK g1 id0 with
     | some q =>
      have hno:effH (goneM l) (id0,b0)=none:=by unfold effH;rw [if_neg (fun h=>by rw [goneM,← hv1,hgk] at h;cases h.2.2)]
      rw [Option.map_some]
      simp only [↓rA,rB,Nat.reduceEqDiff,gb,hb1]
      refine⟨(seen++[pn],acc),hmu,_,[],List.Sublist.cons _ (List.Sublist.cons _ (List.Sublist.cons _ (List.Sublist.refl _))),List.nil_sublist _,by simpa [hno] using hst,?_⟩
      simp only [rB,Nat.reduceEqDiff,g4,g5,g14]
      exact .inr ⟨b,c,⟨hlc,hb1⟩,rfl,rfl⟩
     | none =>
      have hyes:effH (goneM l) (id0,b0)=some (rowB id0 b0):=by unfold effH;rw [if_pos ⟨ha,k3,by rw [goneM,← hv1,hgk];rfl⟩]
      rw [hyes] at hst
      rw [Option.map_none]
      simp only [↓rA,rB,Nat.reduceAdd,Nat.reduceEqDiff,Nat.reduceLT,Nat.reduceLeDiff,Nat.reduceMul,tbE60,g4,gb,hh,hb1]
      refine fun y=>Or2.r ?_
      simp only [↓rA,rB,Nat.reduceAdd,Nat.reduceLT,tbE60,gb,gr,hh,hb1]
      have q8:¬ b8=b:=fun e=>h8.2.2.1.1 e.symm
      have q7:¬ b7=b:=fun e=>h7.2.1.1 e.symm
      have q6:¬ b6=b:=fun e=>h6.1.1 e.symm
      refine⟨⟨by rw [List.length_append,cellsR_len,anys_len,← Nat.add_mul];congr 1;omega,hlc,by omega⟩,fun b' c' hb hc=>?_⟩
      simp only [remB,List.filter_cons,decide_true,Bool.not_true,Bool.false_eq_true,if_false,List.filter_nil,hb1,q8,q7,q6,decide_false,Bool.not_false,if_true] at hb ⊢
      replace hb:=newb hb
      simp only [Nb] at hb
      obtain⟨n8,n7,n6,n1,n2,n3,_⟩:=hb
      simp only [↓rA,rB,gb,hh,hb1]
      refine⟨(seen++[pn],acc++[rowB id0 b0]),hmu,_,[],List.Sublist.cons_cons _ (List.Sublist.cons _ (List.Sublist.cons _ (List.Sublist.cons _ (List.Sublist.refl _)))),List.nil_sublist _,hst,?_⟩
      simp only [rB,Nat.reduceEqDiff,g5,g14,List.length_append]
      refine .inr ⟨b',c',⟨hc,n1,n2,n3⟩,rfl,?_⟩
      rw [List.take_left' (cellsR_len acc),List.map_append,List.flatten_append]
      rfl
end Go.Proofs.YtopfanlkbepemaaGreat
set_option linter.unusedSimpArgs false
set_option maxRecDepth 100000
set_option linter.defProp false
namespace Go.Proofs.YtopfanlkbepemaaGreat
open Go.VL Go.Ar Go.Lo Go.Proofs.YtopfanlkbepemaaGreat Go.Proofs.YtopfanlkbepemaaGreat.Arr
def betweenM (a b:List Rw) (t:Int):List Dlt:=a.map (fun r=>⟨r,t,-1⟩)++b.map (fun r=>⟨r,t,1⟩)
def tbD80:=(aI (aI (aI Ty.t3 Ty.t34) (aI Ty.t40 Ty.t41)) (aI (aI Ty.t43 Ty.t50) (aI Ty.t51 (aI Ty.t85 Ty.t9))))
theorem between_ok (a b:List Rw) (t:Int) (ha:a.length≤1000000) (hb:b.length≤1000000):OkP Tryz.prog 40 [vRows a,vRows b,vint t] (vDlts (betweenM a b t)):=by
 refine Ok.of_ex Ty.mixed Tryz.func40 rfl (by simp [Tryz.ntmps40]) (by kernel_rfl) fun F w0 I0=>?_
 simp only [↓rA,rB,reduceCtorEq,tbD80,Tryz.results40]
 refine AWP.nilRow 6 10 50 (by simp only [rB,Nat.reduceEqDiff]) (by decide) ?_
 refine EX_forS Ty.mixed (by kernel_rfl) a.length (fun i S=>(∃ y,S.σ 6=.list (some y) 10 (((a.take i).map fun r=>(⟨r,t,-1⟩:Dlt)).map cDlt)∧S.rows=[⟨y,10,50⟩])∧S.boxes=[]∧S.σ 1=vRows b∧S.σ 2=vint t∧S.σ 11=vRows a∧S.σ 12=vint a.length∧S.σ 13=vint i) ⟨_,_,List.Sublist.refl _,List.Sublist.refl _,?_⟩ (fun i S hi ⟨⟨y,g6,gr⟩,gb,g1,g2,g11,g12,g13⟩=>?_) (fun S ⟨⟨y,g6,gr⟩,gb,g1,g2,g11,g12,g13⟩=>?_)
 ·simp only [rB,Nat.reduceEqDiff,List.length_map]
  exact⟨nilv,rfl,rfl⟩
 ·have hwi:=wrap_succ (i:=i) (N:=a.length) hi (by omega)
  simp only [↓rA,rB,Nat.reduceAdd,Nat.reduceEqDiff,tbD80,gr,gb,g11,g12,g13,Int.ofNat_lt,hi,List.length_map,getD_map _ _ _ hi]
  refine fun b8 h8=>?_;replace h8:=newb h8;try simp only [Nb] at h8
  simp only [↓rA,rB,Nat.reduceAdd,Nat.reduceEqDiff,Nat.reduceLT,Nat.reduceLeDiff,Nat.reduceMul,tbD80,g6,gr,gb,g2]
  intro y1
  refine takeRF_2 ?_
  have hti:(List.take i a).length=i:=by rw [List.length_take];omega
  simp only [↓rA,rB,Nat.reduceEqDiff,g13,List.length_map,hti]
  refine⟨(by first | omega | (simp;omega)),fun y2=>?_⟩
  refine⟨[],[⟨y2,10,50⟩],List.nil_sublist _,List.Sublist.cons_cons _ (List.nil_sublist _),?_⟩
  simp only [rB,Nat.reduceEqDiff,g1,g2,g11,g12,hwi]
  refine⟨y2,?_,rfl⟩
  rw [List.take_succ_eq_append_getElem hi,List.map_append,List.map_append]
  rfl
 ·simp only [↓rA,rB,Nat.reduceEqDiff,tbD80,g1,g12,g13,Int.ofNat_lt,Nat.lt_irrefl,List.length_map]
  rw [List.take_of_length_le (Nat.le_refl _)] at g6
  generalize hA:(a.map fun r=>(⟨r,t,-1⟩:Dlt))=A at g6
  have hAl:A.length≤1000000:=by rw [← hA,List.length_map];exact ha
  refine EX_forS Ty.mixed (by kernel_rfl) b.length (fun i S=>(∃ y,S.σ 6=.list (some y) 10 ((A++(b.take i).map fun r=>(⟨r,t,1⟩:Dlt)).map cDlt)∧S.rows=[⟨y,10,50⟩])∧S.boxes=[]∧S.σ 2=vint t∧S.σ 24=vRows b∧S.σ 25=vint b.length∧S.σ 26=vint i) ⟨_,_,List.Sublist.refl _,List.Sublist.refl _,?_⟩ (fun i S hi ⟨⟨y,g6,gr⟩,gb,g2,g24,g25,g26⟩=>?_) (fun S ⟨⟨y,g6,gr⟩,gb,g2,g24,g25,g26⟩=>?_)
  ·simp only [rB,Nat.reduceEqDiff,g6,gr,gb,g2]
   exact⟨y,by simp,rfl⟩
  ·have hwi:=wrap_succ (i:=i) (N:=b.length) hi (by omega)
   simp only [↓rA,rB,Nat.reduceAdd,Nat.reduceEqDiff,tbD80,gr,gb,g24,g25,g26,Int.ofNat_lt,hi,List.length_map,getD_map _ _ _ hi]
   refine fun b8 h8=>?_;replace h8:=newb h8;try simp only [Nb] at h8
   simp only [↓rA,rB,Nat.reduceAdd,Nat.reduceEqDiff,Nat.reduceLT,Nat.reduceLeDiff,Nat.reduceMul,tbD80,g6,gr,gb,g2]
   intro y1
   refine takeRF_2 ?_
   have hti:(List.take i b).length=i:=by rw [List.length_take];omega
   simp only [↓rA,rB,Nat.reduceEqDiff,g26,List.length_map,List.length_append,hti]
   refine⟨(by first | omega | (simp;omega)),fun y2=>?_⟩
   refine⟨[],[⟨y2,10,50⟩],List.nil_sublist _,List.Sublist.cons_cons _ (List.nil_sublist _),?_⟩
   simp only [rB,Nat.reduceEqDiff,g2,g24,g25,hwi]
   refine⟨y2,?_,rfl⟩
   rw [List.take_succ_eq_append_getElem hi,List.map_append,List.map_append,List.map_append,List.map_append,← List.append_assoc]
   rfl
  ·simp only [↓rA,rB,Nat.reduceEqDiff,g6,gr,gb,g25,g26,Int.ofNat_lt,Nat.lt_irrefl]
   rw [List.take_of_length_le (Nat.le_refl _)]
   refine⟨_,[],[],Le.list _ _ _,List.nil_sublist _,List.nil_sublist _,?_,rfl,rfl⟩
   rw [betweenM,hA]
end Go.Proofs.YtopfanlkbepemaaGreat
set_option maxRecDepth 100000
namespace Go.Proofs.YtopfanlkbepemaaGreat
open Go.VL Go.Ar Go.Lo Go.Proofs.YtopfanlkbepemaaGreat Go.Proofs.YtopfanlkbepemaaGreat.Arr
theorem basF_src (l:List Etr) (t:Int):∀ i b,basF l t i=some b→b.last ∈ l∧isFact t b.last=true∧baseM b.last.fact=i:=by
 unfold basF
 suffices h:∀ (m:List Etr) (f:FID→Option Bas),(∀ x ∈ m,x ∈ l)→(∀ i b,f i=some b→b.last ∈ l∧isFact t b.last=true∧baseM b.last.fact=i)→∀ i b,m.foldl (basStep t) f i=some b→b.last ∈ l∧isFact t b.last=true∧baseM b.last.fact=i from
  h l _ (fun _ h=>h) fun i b h=>by cases h
 intro m
 induction m with
 | nil=>intro f _ hf;exact hf
 | cons x m ih =>
  intro f hm hf
  refine ih _ (fun y hy=>hm y (List.mem_cons_of_mem _ hy)) fun i b h=>?_
  unfold basStep at h
  split at h
  ·rename_i hx
   unfold updF at h
   split at h
   ·rename_i e
    subst e
    cases h
    cases hfb:f (baseM x.fact) with
    | none=>exact⟨hm x List.mem_cons_self,hx,rfl⟩
    | some b =>
     obtain⟨h1,h2,h3⟩:=hf _ _ hfb
     simp only [basUp]
     split
     ·exact⟨hm x List.mem_cons_self,hx,rfl⟩
     ·exact⟨h1,h2,h3⟩
   ·exact hf i b h
  ·exact hf i b h
theorem effM_src {l:List Etr} {t:Int} {r:Rw} (h:r ∈ effM l t):∃ x ∈ l,isFact t x=true∧r.fields=x.fact.fields∧r.key=x.fact.key∧r.table=x.fact.table:=by
 obtain⟨b,hb,hr⟩:=((isEff l t).mem r).1 h
 obtain⟨h1,h2,_⟩:=basF_src l t _ _ hb
 unfold effH at hr
 split at hr
 ·have e:=Option.some.inj hr
  exact⟨b.last,h1,h2,(congrArg Rw.fields e).symm,(congrArg Rw.key e).symm,(congrArg Rw.table e).symm⟩
 ·cases hr
theorem basF_good' (l:List Etr) (t:Int):∃ g cl,GoodK id (basF l t) g cl∧g.length≤l.length:=by
 unfold basF
 suffices h:∀ (l:List Etr) (f:FID→Option Bas) (n:Nat),(∃ g cl,GoodK id f g cl∧g.length≤n)→∃ g cl,GoodK id (l.foldl (basStep t) f) g cl∧g.length≤n+l.length by
  have:=h l _ 0 ⟨[],0,GoodK.nil,Nat.le_refl _⟩
  simpa using this
 intro l
 induction l with
 | nil=>intro f n h;exact h
 | cons x l ih =>
  intro f n ⟨g,cl,h,hl⟩
  have hc:∃ g cl,GoodK id (basStep t f x) g cl∧g.length≤n+1:=by
   unfold basStep
   split
   ·cases hk:getK g (baseM x.fact) with
    | none=>exact⟨_,_,h.new hk (basUp (f (baseM x.fact)) x),by rw [List.length_append];simp only [List.length_cons,List.length_nil];omega⟩
    | some p=>exact⟨_,_,h.old hk (basUp (f (baseM x.fact)) x),by rw [modK_len];omega⟩
   ·exact⟨g,cl,h,by omega⟩
  obtain⟨g',cl',h1,h2⟩:=ih _ (n+1) hc
  exact⟨g',cl',h1,by simp only [List.length_cons];omega⟩
theorem effM_len (l:List Etr) (t:Int):(effM l t).length≤l.length:=by
 obtain⟨g,cl,hg,hl⟩:=basF_good' l t
 have hs:((g.filterMap fun p=>effH (goneM l) p.2).mergeSort fun a b=>decide (cmpRow a b≤0)).Pairwise fun x y=>¬ cmpRow y x < 0:=by
  have:=List.pairwise_mergeSort (le:=fun a b:Rw=>decide (cmpRow a b≤0)) (fun a b c h1 h2=>by
   simp only [decide_eq_true_eq] at *
   exact pre_cmpRow.trans a b c h1 h2) (fun a b=>by
   have:=pre_cmpRow.anti a b
   by_cases h:cmpRow a b≤0
   ·simp [h]
   ·have:cmpRow b a≤0:=by omega
    simp [this]) (g.filterMap fun p=>effH (goneM l) p.2)
  refine this.imp fun {a b} h=>?_
  have h':cmpRow a b≤0:=by simpa using h
  have:=pre_cmpRow.anti a b
  omega
 have hp:=List.mergeSort_perm (g.filterMap fun p=>effH (goneM l) p.2) fun a b=>decide (cmpRow a b≤0)
 have e:=(isEff l t).unique (isEff_of hg hp hs)
 rw [e,hp.length_eq]
 exact Nat.le_trans (List.length_filterMap_le _ _) hl
theorem effM_nodup (l:List Etr) (t:Int):(effM l t).Nodup:=(isEff l t).sorted.imp fun {a b} h e=>by
 subst e
 rw [pre_cmpRow.refl] at h
 omega
def goesOn (l:List Etr) (i:Nat):Bool:=match l[i]?, l[i+1]? with | some x,some y=>decide (y.tick=x.tick) | _,_=>false
noncomputable def stepF (l:List Etr) (s:List Rw × List Dlt) (i:Nat):List Rw × List Dlt :=
 match l[i]? with
 | none=>s
 | some x=>if goesOn l i=true then s else (effM l x.tick,s.2++betweenM s.1 (effM l x.tick) x.tick)
noncomputable def fromS (l:List Etr) (n:Nat):List Rw × List Dlt:=(List.range n).foldl (stepF l) ([],[])
theorem fromS_succ (l:List Etr) (n:Nat):fromS l (n+1)=stepF l (fromS l n) n:=by
 unfold fromS
 rw [List.range_succ,List.foldl_append];rfl
def upto (d:List Dlt) (T:Int) (r:Rw):Int:=sumP (fun t' r'=>decide (t'≤T) && decide (0=(0:Int)∧r'=r)) d
theorem upto_append (d e:List Dlt) (T:Int) (r:Rw):upto (d++e) T r=upto d T r+upto e T r:=sumP_append _ _ _
theorem upto_early (d:List Dlt) (T:Int) (r:Rw):coef (earlyM d T) 0 r=upto d T r:=coef_early T 0 r d
def ind (E:List Rw) (r:Rw):Int:=if r ∈ E then 1 else 0
theorem upto_cons (x:Dlt) (d:List Dlt) (T:Int) (r:Rw):upto (x::d) T r=(if x.tick≤T∧x.row=r then x.n else 0)+upto d T r:=by
 unfold upto
 simp only [sumP]
 by_cases h1:x.tick≤T <;> by_cases h2:x.row=r <;> simp [h1,h2]
theorem upto_map (n t:Int) (T:Int) (r:Rw) (ht:t≤T):∀ {E:List Rw},E.Nodup→upto (E.map fun r=>(⟨r,t,n⟩:Dlt)) T r=n * ind E r
 | [],_=>by simp [upto,sumP,ind]
 | x::E,h=>by
  have hc:=List.nodup_cons.1 h
  rw [List.map_cons,upto_cons,upto_map n t T r ht hc.2]
  unfold ind
  by_cases e:x=r
  ·subst e
   simp [ht,hc.1]
  ·simp only [e,and_false,if_false,List.mem_cons,Ne.symm e,false_or,Int.zero_add]
theorem upto_late {d:List Dlt} {T:Int} {r:Rw} (h:∀ x ∈ d,T < x.tick):upto d T r=0:=by
 induction d with
 | nil=>rfl
 | cons x d ih =>
  rw [upto_cons,ih fun y hy=>h y (List.mem_cons_of_mem _ hy)]
  have:=h x List.mem_cons_self
  rw [if_neg fun h=>by omega];rfl
theorem upto_all {d:List Dlt} {T U:Int} {r:Rw} (h:∀ x ∈ d,x.tick≤T) (hTU:T≤U):upto d U r=upto d T r:=by
 induction d with
 | nil=>rfl
 | cons x d ih =>
  rw [upto_cons,upto_cons,ih fun y hy=>h y (List.mem_cons_of_mem _ hy)]
  have:=h x List.mem_cons_self
  by_cases e:x.row=r
  ·rw [if_pos ⟨by omega,e⟩,if_pos ⟨by omega,e⟩]
  ·rw [if_neg fun h=>e h.2,if_neg fun h=>e h.2]
theorem between_tick {a b:List Rw} {t:Int}:∀ x ∈ betweenM a b t,x.tick=t:=fun x hx=>by
 rcases List.mem_append.1 hx with hx | hx <;> (obtain⟨r,_,rfl⟩:=List.mem_map.1 hx;rfl)
structure Ticks (l:List Etr):Prop where
 pos:∀ i (h:i < l.length),0≤l[i].tick
 le:∀ i j (h:i < l.length) (h':j < l.length),i≤j→l[i].tick≤l[j].tick
structure SumOk (l:List Etr) (n:Nat) (s:List Rw × List Dlt) (τ:Int):Prop where
 cur:s.1=effM l τ
 tick:∀ x ∈ s.2,0≤x.tick∧x.tick≤τ
 sum:∀ T r,T≤τ→upto s.2 T r=ind (effM l T) r
 open_:∀ j (h:j < l.length),j < n→¬ l[j].tick≤τ→∃ h':n < l.length,l[n].tick=l[j].tick
 late:∀ j (h:j < l.length),n≤j→τ < l[j].tick
theorem goesOn_iff (l:List Etr) (i:Nat) (h:i < l.length):goesOn l i=true↔∃ h':i+1 < l.length,l[i+1].tick=l[i].tick:=by
 unfold goesOn
 rw [List.getElem?_eq_getElem h]
 by_cases h':i+1 < l.length
 ·rw [List.getElem?_eq_getElem h']
  simp [h']
 ·rw [List.getElem?_eq_none (by omega)]
  simp [h']
theorem sumOk_zero {l:List Etr} (ht:Ticks l):SumOk l 0 ([],[]) (-1) where
 cur:=(effM_none fun x hx=>by
  obtain⟨i,hi,rfl⟩:=List.getElem_of_mem hx
  have:=ht.pos i hi
  unfold isFact
  rw [decide_eq_false (by omega)];rfl).symm
 tick x hx:=absurd hx List.not_mem_nil
 sum T r h:=by
  rw [effM_none fun x hx=>by
   obtain⟨i,hi,rfl⟩:=List.getElem_of_mem hx
   have:=ht.pos i hi
   unfold isFact
   rw [decide_eq_false (by omega)];rfl]
  rfl
 open_ j h h':=absurd h' (Nat.not_lt_zero _)
 late j h _:=by have:=ht.pos j h;omega
theorem sumOk_step {l:List Etr} (ht:Ticks l) {n:Nat} (hn:n < l.length) {s:List Rw × List Dlt} {τ:Int} (hs:SumOk l n s τ):∃ τ',SumOk l (n+1) (stepF l s n) τ':=by
 unfold stepF
 rw [List.getElem?_eq_getElem hn]
 simp only []
 by_cases hg:goesOn l n=true
 ·rw [if_pos hg]
  obtain⟨h',e⟩:=(goesOn_iff l n hn).1 hg
  refine⟨τ,hs.cur,hs.tick,hs.sum,fun j h hj hjt=>⟨h',?_⟩,fun j h hj=>hs.late j h (by omega)⟩
  by_cases ej:j=n
  ·subst ej;exact e
  ·obtain⟨_,e2⟩:=hs.open_ j h (by omega) hjt
   exact e.trans e2
 ·rw [if_neg hg]
  have hng:∀ h':n+1 < l.length,¬ l[n+1].tick=l[n].tick:=fun h' e=>hg ((goesOn_iff l n hn).2 ⟨h',e⟩)
  have hτ:=hs.late n hn (Nat.le_refl _)
  have hbetween:∀ T,τ≤T→T < l[n].tick→effM l T=effM l τ:=fun T h1 h2=>effM_congr fun x hx=>by
   obtain⟨j,hj,rfl⟩:=List.getElem_of_mem hx
   unfold isFact
   congr 1
   refine decide_eq_decide.2 ⟨fun h3=>?_,fun h3=>by omega⟩
   refine Decidable.byContradiction fun h4=>?_
   rcases Nat.lt_or_ge j n with h | h
   ·obtain⟨_,e⟩:=hs.open_ j hj h h4;omega
   ·have:=ht.le n j hn hj h;omega
  refine⟨l[n].tick,rfl,fun x hx=>?_,fun T r hT=>?_,fun j h hj hjt=>?_,fun j h hj=>?_⟩
  ·rcases List.mem_append.1 hx with hx | hx
   ·have:=hs.tick x hx;omega
   ·rw [between_tick x hx];exact⟨ht.pos n hn,Int.le_refl _⟩
  ·rw [upto_append]
   by_cases h1:T < l[n].tick
   ·have h0:upto (betweenM s.1 (effM l l[n].tick) l[n].tick) T r=0:=upto_late fun x hx=>by rw [between_tick x hx];exact h1
    rw [h0,Int.add_zero]
    by_cases h2:T≤τ
    ·exact hs.sum T r h2
    ·rw [upto_all (T:=τ) (fun x hx=>(hs.tick x hx).2) (by omega),hs.sum τ r (Int.le_refl _),hbetween T (by omega) h1]
   ·have hTe:T=l[n].tick:=by omega
    subst hTe
    rw [upto_all (T:=τ) (fun x hx=>(hs.tick x hx).2) (by omega),hs.sum τ r (Int.le_refl _)]
    unfold betweenM
    rw [upto_append,hs.cur,upto_map (-1) _ _ r (Int.le_refl _) (effM_nodup l τ),upto_map 1 _ _ r (Int.le_refl _) (effM_nodup l _)]
    omega
  ·exact absurd (ht.le j n h hn (by omega)) hjt
  ·have h1:=ht.le (n+1) j (by omega) h hj
   have h2:=ht.le n (n+1) hn (by omega) (Nat.le_succ _)
   have h3:=hng (by omega)
   omega
theorem sumOk_all {l:List Etr} (ht:Ticks l):∀ n,n≤l.length→∃ τ,SumOk l n (fromS l n) τ
 | 0,_=>⟨-1,sumOk_zero ht⟩
 | n+1,h=>by
  obtain⟨τ,hs⟩:=sumOk_all ht n (by omega)
  rw [fromS_succ]
  exact sumOk_step ht (by omega) hs
theorem from_sum {l:List Etr} (ht:Ticks l) (T:Int) (r:Rw):upto (fromS l l.length).2 T r=ind (effM l T) r:=by
 obtain⟨τ,hs⟩:=sumOk_all ht l.length (Nat.le_refl _)
 by_cases h:T≤τ
 ·exact hs.sum T r h
 ·rw [upto_all (T:=τ) (fun x hx=>(hs.tick x hx).2) (by omega),hs.sum τ r (Int.le_refl _)]
  congr 1
  refine effM_congr fun x hx=>?_
  obtain⟨j,hj,rfl⟩:=List.getElem_of_mem hx
  have hle:l[j].tick≤τ:=Decidable.byContradiction fun h4=>by
   obtain⟨h',_⟩:=hs.open_ j hj hj h4
   exact absurd h' (Nat.lt_irrefl _)
  unfold isFact
  rw [decide_eq_true hle,decide_eq_true (show l[j].tick≤T by omega)]
theorem from_tick {l:List Etr} (ht:Ticks l):∀ x ∈ (fromS l l.length).2,0≤x.tick:=by
 obtain⟨τ,hs⟩:=sumOk_all ht l.length (Nat.le_refl _)
 exact fun x hx=>(hs.tick x hx).1
theorem between_n {a b:List Rw} {t:Int}:∀ x ∈ betweenM a b t,(x.n=-1∧x.row ∈ a)∨(x.n=1∧x.row ∈ b):=fun x hx=>by
 rcases List.mem_append.1 hx with hx | hx
 ·obtain⟨r,hr,rfl⟩:=List.mem_map.1 hx;exact .inl ⟨rfl,hr⟩
 ·obtain⟨r,hr,rfl⟩:=List.mem_map.1 hx;exact .inr ⟨rfl,hr⟩
theorem from_rows (l:List Etr):∀ n,((∀ r ∈ (fromS l n).1,∃ T,r ∈ effM l T)∧(fromS l n).1.length≤l.length)∧(∀ x ∈ (fromS l n).2,(x.n=-1∨x.n=1)∧∃ T,x.row ∈ effM l T)∧(fromS l n).2.length≤n * (2 * l.length)
 | 0=>⟨⟨fun r hr=>absurd hr List.not_mem_nil,Nat.zero_le _⟩,fun x hx=>absurd hx List.not_mem_nil,Nat.zero_le _⟩
 | n+1=>by
  obtain⟨⟨h1,h1'⟩,h2,h3⟩:=from_rows l n
  have hmul:(n+1) * (2 * l.length)=n * (2 * l.length)+2 * l.length:=by rw [Nat.add_mul];omega
  rw [fromS_succ]
  unfold stepF
  cases hx:l[n]? with
  | none=>exact⟨⟨h1,h1'⟩,h2,by simp only [];omega⟩
  | some x =>
   simp only []
   split
   ·exact⟨⟨h1,h1'⟩,h2,by omega⟩
   ·refine⟨⟨fun r hr=>⟨_,hr⟩,effM_len l _⟩,fun y hy=>?_,?_⟩
    ·rcases List.mem_append.1 hy with hy | hy
     ·exact h2 y hy
     ·rcases between_n y hy with⟨e,hr⟩ | ⟨e,hr⟩
      ·exact⟨.inl e,h1 _ hr⟩
      ·exact⟨.inr e,_,hr⟩
    ·have:=effM_len l x.tick
     simp only [betweenM,List.length_append,List.length_map]
     omega
end Go.Proofs.YtopfanlkbepemaaGreat
set_option linter.unusedSimpArgs false
set_option maxRecDepth 100000
set_option linter.defProp false
namespace Go.Proofs.YtopfanlkbepemaaGreat
open Go.VL Go.Ar Go.Lo Go.Proofs.YtopfanlkbepemaaGreat Go.Proofs.YtopfanlkbepemaaGreat.Arr
def fitF (f:Fct):Prop:=f.fields.length≤4194304∧(encL f.fields).length≤1099511627776∧∀ v ∈ f.fields,okV v
theorem fitR_eff {l:List Etr} (hf:∀ x ∈ l,fitF x.fact) {t:Int} {r:Rw} (h:r ∈ effM l t):fitR r:=by
 obtain⟨x,hx,_,e,_,_⟩:=effM_src h
 obtain⟨h1,h2,h3⟩:=hf x hx
 unfold fitR okR
 rw [e]
 exact⟨h1,h2,h3⟩
theorem fit_from {l:List Etr} (hl:l.length≤60) (hf:∀ x ∈ l,fitF x.fact) (n:Nat) (hn:n≤l.length):fitDs (fromS l n).2:=by
 obtain⟨_,h2,h3⟩:=from_rows l n
 have:n * (2 * l.length)≤60 * (2 * 60):=Nat.mul_le_mul (by omega) (by omega)
 refine⟨Nat.le_trans h3 (Nat.le_trans this (by decide)),fun x hx=>?_⟩
 obtain⟨e,T,hr⟩:=h2 x hx
 refine⟨?_,fitR_eff hf hr⟩
 unfold inR
 omega
def tbE80:=(aI (aI (aI (aI Ty.c21 (aI Ty.c40 Ty.c8)) (aI (aI Ty.t156 Ty.t22) (aI Ty.t231 Ty.t3))) (aI (aI Ty.t34 (aI Ty.t4 Ty.t40)) (aI (aI Ty.t41 Ty.t43) (aI Ty.t50 Ty.t51)))) (aI (aI (aI Ty.t75 (aI Ty.t77 Ty.t78)) (aI (aI Ty.t80 Ty.t81) (aI Ty.t83 Ty.t85))) (aI (aI Ty.t87 (aI Ty.t88 Ty.t9)) (aI (aI Ty.t90 Ty.t92) (aI Ty.t94 Ty.t96)))))
theorem from_ok (l:List Etr) (hl:l.length≤60) (hs:∀ x ∈ l,x.kind=1→1≤x.fact.seq) (hf:∀ x ∈ l,fitF x.fact):OkP Tryz.prog 19 [vEtrs l] (vDlts (consM (fromS l l.length).2)):=by
 refine Ok.of_ex Ty.mixed Tryz.func19 rfl (by simp [Tryz.ntmps19]) (by kernel_rfl) fun F w0 I0=>?_
 simp only [↓rA,rB,reduceCtorEq,tbE80,Tryz.results19]
 refine AWP.nilRow 2 10 50 (by simp only [rB,Nat.reduceEqDiff]) (by decide) ?_
 refine EX_forS Ty.mixed (by kernel_rfl) l.length (fun i S=>(∃ y u,S.σ 2=.list (some y) 10 ((fromS l i).2.map cDlt)∧S.rows=[⟨y,10,50⟩]∧S.σ 3=u∧Le u (vRows (fromS l i).1))∧S.boxes=[]∧S.σ 0=vEtrs l∧S.σ 7=vEtrs l∧S.σ 8=vint l.length∧S.σ 9=vint i) ⟨_,_,List.Sublist.refl _,List.Sublist.refl _,?_⟩ (fun i S hi ⟨⟨y,u,g2,gr,g3,hu⟩,gb,g0,g7,g8,g9⟩=>?_) (fun S ⟨⟨y,u,g2,gr,g3,hu⟩,gb,g0,g7,g8,g9⟩=>?_)
 ·simp only [rB,Nat.reduceEqDiff,reduceCtorEq,List.length_map]
  exact⟨nilv,_,rfl,rfl,rfl,Le.nil 8⟩
 ·have hwi:=wrap_succ (i:=i) (N:=l.length) hi (by omega)
  have hgi:=goesOn_iff l i hi
  have hstep:fromS l (i+1)=if goesOn l i=true then fromS l i else (effM l l[i].tick,(fromS l i).2++betweenM (fromS l i).1 (effM l l[i].tick) l[i].tick):=by
   rw [fromS_succ];unfold stepF;rw [List.getElem?_eq_getElem hi]
  have c1:=cEtr_eq l[i]
  have hfr:=from_rows l i
  have hmul:i * (2 * l.length)≤60 * (2 * 60):=Nat.mul_le_mul (by omega) (by omega)
  have hel:=effM_len l l[i].tick
  simp only [↓rA,rB,Nat.reduceAdd,Nat.reduceEqDiff,tbE80,gr,gb,g7,g8,g9,Int.ofNat_lt,hi,List.length_map,getD_map _ _ _ hi,c1]
  refine fun b5 h5=>?_;replace h5:=newb h5;try simp only [Nb] at h5
  by_cases hn:i+1 < l.length
  ·have hcn:=cEtr_eq l[i+1]
   by_cases he:l[i+1].tick=l[i].tick
   ·have hg:=hgi.2 ⟨hn,he⟩
    rw [if_pos hg] at hstep
    simp only [↓rA,rB,Nat.reduceAdd,Nat.reduceEqDiff,reduceCtorEq,tbE80,gb,g0,g9,Int.ofNat_lt,hn,List.length_map,getD_map _ _ _ hn,hcn,hwi,he]
    refine⟨[],_,List.nil_sublist _,List.Sublist.refl _,?_⟩
    simp only [rB,Nat.reduceEqDiff,reduceCtorEq,g2,gr,g3,g0,g7,g8]
    rw [hstep]
    exact⟨y,u,rfl,rfl,rfl,hu⟩
   ·have hg:¬ goesOn l i=true:=fun h=>he (hgi.1 h).2
    rw [if_neg hg] at hstep
    simp only [↓rA,rB,Nat.reduceAdd,Nat.reduceEqDiff,reduceCtorEq,tbE80,gb,g0,Int.ofNat_lt,hn,List.length_map,getD_map _ _ _ hn,hcn,hwi,he]
    refine OkF_of _ (eff_ok l l[i].tick (by omega) hs) ?_
    simp only [↓rA,rB,Nat.reduceAdd,Nat.reduceEqDiff,tbE80,g2,gr,g3]
    refine OkF_le (.cons hu (.cons (Le.refl _) (.cons (Le.refl _) .nil))) _ (between_ok (fromS l i).1 (effM l l[i].tick) l[i].tick (by omega) (by omega)) ?_
    simp only [↓rA,rB,Nat.reduceAdd,Nat.reduceEqDiff,Nat.reduceLT,tbE80,gr,g9,List.length_map]
    refine⟨by have h1:=hfr.2.2;have h2:=hfr.1.2;simp only [betweenM,List.length_append,List.length_map];omega,fun y2=>?_⟩
    refine⟨[],[⟨y2,10,50⟩],List.nil_sublist _,List.Sublist.refl _,?_⟩
    simp only [rB,Nat.reduceEqDiff,reduceCtorEq,g0,g7,g8,hwi]
    rw [hstep]
    refine⟨y2,_,?_,rfl,rfl,Le.refl _⟩
    rw [List.map_append]
  ·have hg:¬ goesOn l i=true:=fun h=>hn (hgi.1 h).1
   rw [if_neg hg] at hstep
   simp only [↓rA,rB,Nat.reduceAdd,Nat.reduceEqDiff,reduceCtorEq,tbE80,gb,g0,Int.ofNat_lt,hn,List.length_map,hwi]
   refine OkF_of _ (eff_ok l l[i].tick (by omega) hs) ?_
   simp only [↓rA,rB,Nat.reduceAdd,Nat.reduceEqDiff,tbE80,g2,gr,g3]
   refine OkF_le (.cons hu (.cons (Le.refl _) (.cons (Le.refl _) .nil))) _ (between_ok (fromS l i).1 (effM l l[i].tick) l[i].tick (by omega) (by omega)) ?_
   simp only [↓rA,rB,Nat.reduceAdd,Nat.reduceEqDiff,Nat.reduceLT,tbE80,gr,g9,List.length_map]
   refine⟨by have h1:=hfr.2.2;have h2:=hfr.1.2;simp only [betweenM,List.length_append,List.length_map];omega,fun y2=>?_⟩
   refine⟨[],[⟨y2,10,50⟩],List.nil_sublist _,List.Sublist.refl _,?_⟩
   simp only [rB,Nat.reduceEqDiff,reduceCtorEq,g0,g7,g8,hwi]
   rw [hstep]
   refine⟨y2,_,?_,rfl,rfl,Le.refl _⟩
   rw [List.map_append]
 ·simp only [↓rA,rB,Nat.reduceEqDiff,tbE80,g2,gb,g8,g9,Int.ofNat_lt,Nat.lt_irrefl]
  refine OkF_le (.cons (Le.list _ _ _) .nil) _ (cons_ok (fromS l l.length).2 (fit_from hl hf l.length (Nat.le_refl _))) ?_
  simp only [↓rA,rB,gr]
  exact ret_done rfl
end Go.Proofs.YtopfanlkbepemaaGreat
set_option maxRecDepth 100000
namespace Go.Proofs.YtopfanlkbepemaaGreat
open Go.VL Go.Ar Go.Lo Go.Proofs.YtopfanlkbepemaaGreat Go.Proofs.YtopfanlkbepemaaGreat.Arr
theorem nodup_len {α:Type} [DecidableEq α]:∀ {l m:List α},l.Nodup→(∀ x ∈ l,x ∈ m)→l.length≤m.length
 | [],_,_,_=>Nat.zero_le _
 | x::l,m,hn,h=>by
  have hc:=List.nodup_cons.1 hn
  obtain⟨A,B,rfl⟩:=List.append_of_mem (h x List.mem_cons_self)
  have:=nodup_len (l:=l) (m:=A++B) hc.2 fun y hy=>by
   have hxy:y ≠ x:=fun e=>hc.1 (e▸hy)
   rcases List.mem_append.1 (h y (List.mem_cons_of_mem _ hy)) with h' | h'
   ·exact List.mem_append.2 (.inl h')
   ·rcases List.mem_cons.1 h' with e | h'
    ·exact absurd e hxy
    ·exact List.mem_append.2 (.inr h')
  simp only [List.length_append,List.length_cons] at this ⊢
  omega
noncomputable def aH (l:List Etr):Arr:=ofM 0 (consM (fromS l l.length).2)
theorem upto_part (d:List Dlt) (k:Str) (T:Int) (r:Rw):upto (partD d k) T r=if r.key=k then upto d T r else 0:=by
 induction d with
 | nil=>simp [Arr.partD,upto,sumP]
 | cons x d ih =>
  unfold Arr.partD at ih ⊢
  rw [List.filter_cons]
  by_cases hx:x.row.key=k
  ·rw [if_pos (by simpa using hx),upto_cons,upto_cons,ih]
   by_cases hr:r.key=k
   ·rw [if_pos hr,if_pos hr]
   ·rw [if_neg hr,if_neg hr]
    have:¬ (x.tick≤T∧x.row=r):=fun h=>hr (h.2▸hx)
    rw [if_neg this];rfl
  ·rw [if_neg (by simpa using hx),ih,upto_cons]
   by_cases hr:r.key=k
   ·rw [if_pos hr,if_pos hr]
    have:¬ (x.tick≤T∧x.row=r):=fun h=>hx (h.2▸hr)
    rw [if_neg this];omega
   ·rw [if_neg hr,if_neg hr]
section
variable {l:List Etr} (ht:Ticks l) (hok:okN (fromS l l.length).2)
include ht hok
theorem rowsAt_hist (k:Str) (t:Int):rowsAt (partD (allD (aH l).groups) k) t=(effM l t).filter fun r=>decide (r.key=k):=by
 have hc:okN (consM (fromS l l.length).2):=canon_nil (consM_canon hok)
 have hg:okN (allD (aH l).groups):=(grpsM_ok hc).okN
 have he:Eqv (partD (allD (aH l).groups) k) (partD (fromS l l.length).2 k):=((grpsM_coef hc).trans (eqv_cons hok)).part k
 rw [rowsAt_congr (okN_part hg k) (okN_part hok k) he t]
 refine psorted_eq' (R:=fun a b=>ltR a b=true) (fun a b h=>ltR_asymm h) (rowsAt_sorted (okN_part hok k) t) (((isEff l t).sorted.imp fun {a b} h=>?_).filter _) fun r=>?_
 ·have e:cmpFull a b=cmpRow a b:=by unfold cmpFull;rw [orL_cons,if_neg (by omega)]
  refine decide_eq_true ?_
  rw [e];exact h
 ·rw [rowsAt_mem (okN_part hok k),upto_early,upto_part,from_sum ht,List.mem_filter]
  unfold ind
  have w0:wrap 0=0:=by decide
  have w1:wrap 1=1:=by decide
  by_cases h1:r.key=k
  ·rw [if_pos h1]
   by_cases h2:r ∈ effM l t
   ·rw [if_pos h2,w1];simp [h1,h2]
   ·rw [if_neg h2,w0];simp [h2]
  ·rw [if_neg h1,w0];simp [h1]
theorem rowsK_hist (k:Str) (lo hi t:Int):rowsK (aH l) k lo hi t=(effM l t).filter fun r=>decide (r.key=k) && inI lo hi r:=by
 unfold rowsK
 rw [rowsAt_hist ht hok,List.filter_filter]
 refine List.filter_congr fun r _=>?_
 simp only [inI]
 cases decide (r.key=k) <;> simp
theorem keys_hist (k:Str) (t:Int):k ∈ keysP (aH l).groups t↔∃ r ∈ effM l t,r.key=k:=by
 have hc:okN (consM (fromS l l.length).2):=canon_nil (consM_canon hok)
 rw [keysP_mem (l:=(aH l).groups) (grpsM_ok hc),rowsAt_hist ht hok]
 constructor
 ·intro h
  obtain⟨r,hr⟩:=List.exists_mem_of_ne_nil _ h
  have:=List.mem_filter.1 hr
  exact⟨r,this.1,by simpa using this.2⟩
 ·rintro⟨r,hr,e⟩ h
  have:r ∈ (effM l t).filter fun r=>decide (r.key=k):=List.mem_filter.2 ⟨hr,by simpa using e⟩
  rw [h] at this
  cases this
theorem keys_len (t:Int):(keysP (aH l).groups t).length≤(effM l t).length:=by
 have hc:okN (consM (fromS l l.length).2):=canon_nil (consM_canon hok)
 have:=nodup_len (l:=keysP (aH l).groups t) (m:=(effM l t).map (·.key)) (keysP_sorted (grpsM_ok hc) t).nodup fun k hk=>by
  obtain⟨r,hr,e⟩:=(keys_hist ht hok k t).1 hk
  exact List.mem_map.2 ⟨r,hr,e⟩
 rwa [List.length_map] at this
theorem aH_ok:ArrOk (aH l):=ofM_valid (Int.le_refl _) (by decide) (canon_nil (consM_canon hok)) fun x hx=>by
 obtain⟨y,hy,e,_⟩:=consM_keys x hx
 rw [e];exact from_tick ht y hy
theorem aH_check:checkM (aH l)=0:=by
 unfold checkM
 rw [if_pos ((valid_iff (aH_ok ht hok).gs.okN).2 (aH_ok ht hok))]
omit hok in
theorem aH_ins:insA ⟨0,[]⟩ (consM (fromS l l.length).2)=(aH l,0):=by
 unfold insA
 rw [if_neg]
 ·rfl
 ·intro h
  obtain⟨x,hx,hlt⟩:=List.any_eq_true.1 h
  obtain⟨y,hy,e,_⟩:=consM_keys x hx
  have:=from_tick ht y hy
  simp only [decide_eq_true_eq] at hlt
  omega
end
end Go.Proofs.YtopfanlkbepemaaGreat
set_option linter.unusedSimpArgs false
set_option maxRecDepth 100000
set_option linter.defProp false
namespace Go.Proofs.YtopfanlkbepemaaGreat
open Go.VL Go.Ar Go.Lo Go.Proofs.YtopfanlkbepemaaGreat Go.Proofs.YtopfanlkbepemaaGreat.Arr
theorem fit_aH {l:List Etr} (hl:l.length≤60) (hf:∀ x ∈ l,fitF x.fact):fitA (aH l):=fit_of (fit_from hl hf l.length (Nat.le_refl _)).cons
def tbEA0:=(aI (aI (aI (aI (aI Ty.c13 Ty.c14) (aI Ty.c19 Ty.t156)) (aI (aI Ty.t22 Ty.t231) (aI Ty.t26 Ty.t28))) (aI (aI (aI Ty.t3 Ty.t30) (aI Ty.t4 Ty.t40)) (aI (aI Ty.t41 Ty.t43) (aI Ty.t50 Ty.t51)))) (aI (aI (aI (aI Ty.t52 Ty.t59) (aI Ty.t75 Ty.t77)) (aI (aI Ty.t78 Ty.t80) (aI Ty.t81 Ty.t83))) (aI (aI (aI Ty.t85 Ty.t87) (aI Ty.t88 Ty.t9)) (aI (aI Ty.t90 Ty.t92) (aI Ty.t94 Ty.t96)))))
theorem arranged_ok (l:List Etr) (hl:l.length≤60) (hs:∀ x ∈ l,x.kind=1→1≤x.fact.seq) (hf:∀ x ∈ l,fitF x.fact) (ht:Ticks l):OkP Tryz.prog 6 [vEtrs l] (.tup [vArr (aH l),vbool true]):=by
 have hfc:=(fit_from hl hf l.length (Nat.le_refl _)).cons
 have hins:=insP_ok ⟨0,[]⟩ (consM (fromS l l.length).2) (fit_nil 0) (by simpa [allD] using hfc)
 rw [aH_ins ht] at hins
 generalize aH l=a at hins
 refine Ok.of_ex Ty.mixed Tryz.func6 rfl (by simp [Tryz.ntmps6]) (by kernel_rfl) fun F w0 I0=>?_
 simp only [↓rA,rB,tbEA0]
 refine fun b2 h2=>?_;replace h2:=newb h2;try simp only [Nb] at h2
 simp only [↓rA,rB,tbEA0]
 refine OkF_of _ (newP_ok 0) ?_
 simp only [↓rA,rB,reduceCtorEq,tbEA0]
 refine OkF_of _ (from_ok l hl hs hf) ?_
 simp only [↓rA,rB,Nat.reduceEqDiff,tbEA0]
 refine OkF_of _ hins ?_
 simp only [↓rA,rB,Nat.reduceEqDiff,tbEA0]
 refine fun b4 h4=>?_;replace h4:=newb h4;try simp only [Nb] at h4
 simp only [↓rA,rB,Nat.reduceAdd,Nat.reduceEqDiff,tbEA0,Tryz.results6,h4]
 exact ret_done rfl
theorem seq_of {l:List Etr} (h:∀ i h,OkE l i h):∀ x ∈ l,x.kind=1→1≤x.fact.seq:=fun x hx hk=>by
 obtain⟨i,hi,rfl⟩:=List.getElem_of_mem hx
 have:=((h i hi).2.2 hk).1
 unfold formedB at this
 simp only [Bool.and_eq_true,decide_eq_true_eq] at this
 exact this.1.1.2.1
theorem ticks_of {l:List Etr} (h:∀ i h,OkE l i h):Ticks l where
 pos i hi:=(h i hi).1.2.2.1
 le i j hi hj hij:=by
  induction j with
  | zero =>
    obtain rfl:i=0:=by omega
    exact Int.le_refl _
  | succ m ih =>
   by_cases e:i=m+1
   ·subst e;exact Int.le_refl _
   ·have h1:=ih (by omega) (by omega)
    have h2:=((h (m+1) hj).2.1 m rfl).2
    omega
abbrev wantB (key:Str) (lo hi:Int) (r:Rw):Bool:=decide (r.key=key) && inI lo hi r
def tbEA1:=(aI (aI (aI (aI (aI Ty.c10 Ty.c11) (aI Ty.c4 (aI Ty.c5 Ty.c6))) (aI (aI Ty.c7 Ty.c8) (aI Ty.c9 (aI Ty.t156 Ty.t22)))) (aI (aI (aI Ty.t231 Ty.t24) (aI Ty.t26 (aI Ty.t28 Ty.t3))) (aI (aI Ty.t30 (aI Ty.t31 Ty.t34)) (aI Ty.t36 (aI Ty.t37 Ty.t4))))) (aI (aI (aI (aI Ty.t40 Ty.t41) (aI Ty.t43 (aI Ty.t44 Ty.t50))) (aI (aI Ty.t51 Ty.t59) (aI Ty.t75 (aI Ty.t77 Ty.t78)))) (aI (aI (aI Ty.t80 Ty.t81) (aI Ty.t83 (aI Ty.t85 Ty.t87))) (aI (aI Ty.t88 (aI Ty.t9 Ty.t90)) (aI Ty.t92 (aI Ty.t94 Ty.t96))))))
set_option maxHeartbeats 1000000 in
theorem hist_ok (l:List Etr) (key:Str) (lo hi tick:Int) (he:∀ e ∈ l,FitE e) (hf:∀ x ∈ l,fitF x.fact):OkP Tryz.prog 3 [vEtrs l,vstr key,.agg [vint lo,vint hi],vint tick] (vbool true):=by
 refine Ok.of_ex Ty.mixed Tryz.func3 rfl (by simp [Tryz.ntmps3]) (by kernel_rfl) fun F w0 I0=>?_
 simp only [↓rA,rB]
 refine fun b6 h6=>?_;replace h6:=newb h6;try simp only [Nb] at h6
 simp only [↓rA,rB,tbEA1]
 refine OkF_of _ example_ok ?_
 by_cases h60:(60:Int) < l.length
 ·simp only [↓rA,rB,Nat.reduceEqDiff,reduceCtorEq,tbEA1,Tryz.results3,List.length_map,h60]
  exact ret_done rfl
 have hl:l.length≤60:=by omega
 simp only [↓rA,rB,Nat.reduceEqDiff,reduceCtorEq,tbEA1,List.length_map,h60]
 refine OkF_with [] _ (List.Perm.refl _) (check15_ok l (by unfold Go.Proofs.YtopfanlkbepemaaGreat.big;omega) he) ?_
 rintro v bs rs ⟨⟨k,rfl,hk⟩,rfl,rfl⟩
 by_cases k0:k=0
 case neg =>
  simp only [↓rA,rB,Nat.reduceEqDiff,Tryz.results3,k0]
  exact ret_done rfl
 subst k0
 obtain⟨_,hoke⟩:=hk rfl
 have hs:=seq_of hoke
 have ht:=ticks_of hoke
 by_cases htk:tick < 0
 ·simp only [↓rA,rB,Nat.reduceEqDiff,Tryz.results3,htk]
  exact ret_done rfl
 have hok:okN (fromS l l.length).2:=(fit_from hl hf l.length (Nat.le_refl _)).okN
 have hfa:=fit_aH hl hf
 have hao:=aH_ok ht hok
 have hac:=aH_check ht hok
 have hkeys:=fun k=>keys_hist ht hok k tick
 have hkl:=keys_len ht hok tick
 have hrk:=rowsK_hist ht hok key lo hi tick
 have har:=arranged_ok l hl hs hf ht
 have hel:=effM_len l tick
 have hefit:∀ r ∈ effM l tick,okF r:=fun r hr=>(fitR_eff hf hr).okF
 have heff:=eff_ok l tick (by omega) hs
 have hsn:(aH l).since=0:=rfl
 generalize aH l=a at hfa hao hac hkeys hkl hrk har hsn
 generalize effM l tick=E at hkeys hkl hrk hel hefit heff
 have hka:keysA a tick=(keysP a.groups tick,0):=by unfold keysA;rw [hsn,if_neg htk]
 have hra:rowsA a key lo hi tick=(E.filter (wantB key lo hi),0):=by unfold rowsA;rw [hsn,if_neg htk,hrk]
 simp only [↓rA,rB,Nat.reduceEqDiff,reduceCtorEq,tbEA1,htk]
 refine OkF_of _ har ?_
 simp only [↓rA,rB,Nat.reduceEqDiff,tbEA1]
 refine fun b10 h10=>?_;replace h10:=newb h10;try simp only [Nb] at h10
 have hh:=And.intro h6 h10
 simp only [↓rA,rB,Nat.reduceAdd,Nat.reduceEqDiff,tbEA1]
 refine OkF_of _ (check27_ok a hfa) ?_
 rw [hac]
 simp only [↓rA,rB,Nat.reduceEqDiff,reduceCtorEq,tbEA1]
 refine OkF_of _ heff ?_
 simp only [↓rA,rB,Nat.reduceAdd,Nat.reduceEqDiff,tbEA1]
 refine OkF_of _ (keysP2_ok a tick hfa.fitG) ?_
 rw [hka]
 simp only [↓rA,rB,Nat.reduceEqDiff,Tryz.results3]
 refine AWP.nilRow 12 8 43 (by simp only [rB,Nat.reduceEqDiff]) (by decide) ?_
 generalize hK:keysP a.groups tick=K at hkeys hkl
 have hKl:K.length≤60:=by omega
 refine EX_forS Ty.mixed (by kernel_rfl) E.length (fun n S=>(∃ y,S.σ 12=.list (some y) 8 (((E.take n).filter (wantB key lo hi)).map cRow)∧S.rows=[⟨y,8,43⟩])∧S.boxes=[(b10,.c (cArr a)),(b6,.c [vint lo,vint hi])]∧S.σ 1=vstr key∧S.σ 3=vint tick∧S.σ 6=ptr b6∧S.σ 9=vbool true∧S.σ 10=ptr b10∧S.σ 13=vRows E∧S.σ 14=vstrs K∧S.σ 15=vint 0∧S.σ 16=vint n) ⟨_,_,List.Sublist.refl _,List.Sublist.refl _,?_⟩ (fun n S hn ⟨⟨y,s12,gr⟩,gb,s1,s3,s6,s9,s10,s13,s14,s15,s16⟩=>?_) (fun S ⟨⟨y,s12,gr⟩,gb,s1,s3,s6,s9,s10,s13,s14,s15,s16⟩=>?_)
 ·simp only [rB,Nat.reduceEqDiff]
  exact⟨nilv,rfl,rfl⟩
 ·have hwn:=wrap_succ (i:=n) (N:=E.length) hn (by omega)
  have hkn:E[n].key ∈ K:=(hkeys _).2 ⟨_,List.getElem_mem hn,rfl⟩
  have htake:(E.take (n+1)).filter (wantB key lo hi)=(E.take n).filter (wantB key lo hi)++(if wantB key lo hi E[n]=true then [E[n]] else []):=by
   rw [List.take_succ_eq_append_getElem hn,List.filter_append,List.filter_cons,List.filter_nil]
  have hfl:((E.take n).filter (wantB key lo hi)).length≤60:=Nat.le_trans (List.length_filter_le _ _) (by rw [List.length_take];omega)
  by_cases a1:E[n].key=key
  ·by_cases a2:lo≤E[n].event
   ·by_cases a3:E[n].event≤hi
    ·simp only [↓rA,rB,Nat.reduceAdd,Nat.reduceEqDiff,Nat.reduceLT,Nat.reduceLeDiff,Nat.reduceMul,tbEA1,s12,gr,gb,s1,s6,s13,s16,hh,Int.ofNat_lt,hn,List.length_map,getD_map _ _ _ hn,a1,a2,a3]
     intro y1
     refine takeRF_2 ?_
     simp only [↓rA,rB,List.length_map]
     refine⟨by omega,fun y2=>?_⟩
     refine EX_forS Ty.mixed (by kernel_rfl) K.length (fun m S=>S.σ 17=vbool ((K.take m).any fun s=>decide (s=E[n].key))∧S.σ 18=vint m∧S.σ 12=.list (some y2) 8 ((((E.take (n+1)).filter (wantB key lo hi))).map cRow)∧S.rows=[⟨y2,8,43⟩]∧S.boxes=[(b10,.c (cArr a)),(b6,.c [vint lo,vint hi])]∧S.σ 1=vstr key∧S.σ 3=vint tick∧S.σ 6=ptr b6∧S.σ 9=vbool true∧S.σ 10=ptr b10∧S.σ 13=vRows E∧S.σ 14=vstrs K∧S.σ 15=vint 0∧S.σ 16=vint n) ⟨_,[⟨y2,8,43⟩],List.Sublist.refl _,List.Sublist.cons_cons _ (List.nil_sublist _),?_⟩ (fun m S hm ⟨s17,s18,s12,gr,gb,s1,s3,s6,s9,s10,s13,s14,s15,s16⟩=>?_) (fun S ⟨s17,s18,s12,gr,gb,s1,s3,s6,s9,s10,s13,s14,s15,s16⟩=>?_)
     ·simp only [rB,Nat.reduceEqDiff,gb,s1,s3,s6,s9,s10,s13,s14,s15,s16]
      rw [htake]
      rw [if_pos (show wantB key lo hi E[n]=true by simp [wantB,inI,a1,a2,a3]),List.map_append,List.map_cons,List.map_nil]
      simp only [cRow,a1]
     ·have hwm:=wrap_succ (i:=m) (N:=K.length) hm (by omega)
      have hany:((K.take (m+1)).any fun s=>decide (s=E[n].key))=(((K.take m).any fun s=>decide (s=E[n].key)) || decide (K[m]=E[n].key)):=by
       rw [List.take_succ_eq_append_getElem hm,List.any_append,List.any_cons,List.any_nil,Bool.or_false]
      cases hf1:((K.take m).any fun s=>decide (s=E[n].key))
      ·by_cases he1:K[m]=E[n].key
       ·have q1:((K.take (m+1)).any fun s=>decide (s=E[n].key))=true:=by rw [hany,decide_eq_true he1,Bool.or_true]
        rw [hf1] at s17
        simp only [↓rA,rB,Nat.reduceEqDiff,tbEA1,s17,s18,s13,s14,s16,Int.ofNat_lt,hm,hn,List.length_map,getD_map _ _ _ hm,getD_map _ _ _ hn,he1,hwm]
        refine⟨_,_,List.Sublist.refl _,List.Sublist.refl _,?_⟩
        simp only [rB,Nat.reduceEqDiff,s12,gr,gb,s1,s3,s6,s9,s10,s13,s14,s15,s16,q1]
       ·have q1:((K.take (m+1)).any fun s=>decide (s=E[n].key))=false:=by rw [hany,decide_eq_false he1,hf1];rfl
        rw [hf1] at s17
        simp only [↓rA,rB,Nat.reduceEqDiff,tbEA1,s17,s18,s13,s14,s16,Int.ofNat_lt,hm,hn,List.length_map,getD_map _ _ _ hm,getD_map _ _ _ hn,he1,hwm]
        refine⟨_,_,List.Sublist.refl _,List.Sublist.refl _,?_⟩
        simp only [rB,Nat.reduceEqDiff,s12,gr,gb,s1,s3,s6,s9,s10,s13,s14,s15,s16,q1]
      ·have q1:((K.take (m+1)).any fun s=>decide (s=E[n].key))=true:=by rw [hany,hf1];rfl
       rw [hf1] at s17
       simp only [↓rA,rB,Nat.reduceEqDiff,tbEA1,s17,s18,s14,Int.ofNat_lt,hm,List.length_map,hwm]
       refine⟨_,_,List.Sublist.refl _,List.Sublist.refl _,?_⟩
       simp only [rB,Nat.reduceEqDiff,s12,gr,gb,s1,s3,s6,s9,s10,s13,s14,s15,s16,q1]
     ·rw [List.take_of_length_le (Nat.le_refl _),List.any_eq_true.2 ⟨_,hkn,decide_eq_true rfl⟩] at s17
      simp only [↓rA,rB,Nat.reduceEqDiff,tbEA1,s17,s18,s14,s16,Int.ofNat_lt,Nat.lt_irrefl,List.length_map,hwn]
      refine⟨_,_,List.Sublist.refl _,List.Sublist.refl _,?_⟩
      simp only [rB,Nat.reduceEqDiff,s12,gr,gb,s1,s3,s6,s9,s10,s13,s14,s15]
      exact⟨y2,rfl,rfl⟩
    ·simp only [↓rA,rB,Nat.reduceAdd,Nat.reduceEqDiff,tbEA1,gb,s1,s6,s13,s16,hh,Int.ofNat_lt,hn,List.length_map,getD_map _ _ _ hn,a1,a2,a3]
     refine EX_forS Ty.mixed (by kernel_rfl) K.length (fun m S=>S.σ 17=vbool ((K.take m).any fun s=>decide (s=E[n].key))∧S.σ 18=vint m∧S.σ 12=.list (some y) 8 ((((E.take (n+1)).filter (wantB key lo hi))).map cRow)∧S.rows=[⟨y,8,43⟩]∧S.boxes=[(b10,.c (cArr a)),(b6,.c [vint lo,vint hi])]∧S.σ 1=vstr key∧S.σ 3=vint tick∧S.σ 6=ptr b6∧S.σ 9=vbool true∧S.σ 10=ptr b10∧S.σ 13=vRows E∧S.σ 14=vstrs K∧S.σ 15=vint 0∧S.σ 16=vint n) ⟨_,_,List.Sublist.refl _,List.Sublist.refl _,?_⟩ (fun m S hm ⟨s17,s18,s12,gr,gb,s1,s3,s6,s9,s10,s13,s14,s15,s16⟩=>?_) (fun S ⟨s17,s18,s12,gr,gb,s1,s3,s6,s9,s10,s13,s14,s15,s16⟩=>?_)
     ·simp only [rB,Nat.reduceEqDiff,s12,gr,gb,s1,s3,s6,s9,s10,s13,s14,s15,s16]
      rw [htake]
      rw [if_neg (show ¬ wantB key lo hi E[n]=true by simp [wantB,inI,a1,a2,a3]),List.append_nil]
     ·have hwm:=wrap_succ (i:=m) (N:=K.length) hm (by omega)
      have hany:((K.take (m+1)).any fun s=>decide (s=E[n].key))=(((K.take m).any fun s=>decide (s=E[n].key)) || decide (K[m]=E[n].key)):=by
       rw [List.take_succ_eq_append_getElem hm,List.any_append,List.any_cons,List.any_nil,Bool.or_false]
      cases hf1:((K.take m).any fun s=>decide (s=E[n].key))
      ·by_cases he1:K[m]=E[n].key
       ·have q1:((K.take (m+1)).any fun s=>decide (s=E[n].key))=true:=by rw [hany,decide_eq_true he1,Bool.or_true]
        rw [hf1] at s17
        simp only [↓rA,rB,Nat.reduceEqDiff,tbEA1,s17,s18,s13,s14,s16,Int.ofNat_lt,hm,hn,List.length_map,getD_map _ _ _ hm,getD_map _ _ _ hn,he1,hwm]
        refine⟨_,_,List.Sublist.refl _,List.Sublist.refl _,?_⟩
        simp only [rB,Nat.reduceEqDiff,s12,gr,gb,s1,s3,s6,s9,s10,s13,s14,s15,s16,q1]
       ·have q1:((K.take (m+1)).any fun s=>decide (s=E[n].key))=false:=by rw [hany,decide_eq_false he1,hf1];rfl
        rw [hf1] at s17
        simp only [↓rA,rB,Nat.reduceEqDiff,tbEA1,s17,s18,s13,s14,s16,Int.ofNat_lt,hm,hn,List.length_map,getD_map _ _ _ hm,getD_map _ _ _ hn,he1,hwm]
        refine⟨_,_,List.Sublist.refl _,List.Sublist.refl _,?_⟩
        simp only [rB,Nat.reduceEqDiff,s12,gr,gb,s1,s3,s6,s9,s10,s13,s14,s15,s16,q1]
      ·have q1:((K.take (m+1)).any fun s=>decide (s=E[n].key))=true:=by rw [hany,hf1];rfl
       rw [hf1] at s17
       simp only [↓rA,rB,Nat.reduceEqDiff,tbEA1,s17,s18,s14,Int.ofNat_lt,hm,List.length_map,hwm]
       refine⟨_,_,List.Sublist.refl _,List.Sublist.refl _,?_⟩
       simp only [rB,Nat.reduceEqDiff,s12,gr,gb,s1,s3,s6,s9,s10,s13,s14,s15,s16,q1]
     ·rw [List.take_of_length_le (Nat.le_refl _),List.any_eq_true.2 ⟨_,hkn,decide_eq_true rfl⟩] at s17
      simp only [↓rA,rB,Nat.reduceEqDiff,tbEA1,s17,s18,s14,s16,Int.ofNat_lt,Nat.lt_irrefl,List.length_map,hwn]
      refine⟨_,_,List.Sublist.refl _,List.Sublist.refl _,?_⟩
      simp only [rB,Nat.reduceEqDiff,s12,gr,gb,s1,s3,s6,s9,s10,s13,s14,s15]
      exact⟨y,rfl,rfl⟩
   ·simp only [↓rA,rB,Nat.reduceAdd,Nat.reduceEqDiff,tbEA1,gb,s1,s6,s13,s16,hh,Int.ofNat_lt,hn,List.length_map,getD_map _ _ _ hn,a1,a2]
    refine EX_forS Ty.mixed (by kernel_rfl) K.length (fun m S=>S.σ 17=vbool ((K.take m).any fun s=>decide (s=E[n].key))∧S.σ 18=vint m∧S.σ 12=.list (some y) 8 ((((E.take (n+1)).filter (wantB key lo hi))).map cRow)∧S.rows=[⟨y,8,43⟩]∧S.boxes=[(b10,.c (cArr a)),(b6,.c [vint lo,vint hi])]∧S.σ 1=vstr key∧S.σ 3=vint tick∧S.σ 6=ptr b6∧S.σ 9=vbool true∧S.σ 10=ptr b10∧S.σ 13=vRows E∧S.σ 14=vstrs K∧S.σ 15=vint 0∧S.σ 16=vint n) ⟨_,_,List.Sublist.refl _,List.Sublist.refl _,?_⟩ (fun m S hm ⟨s17,s18,s12,gr,gb,s1,s3,s6,s9,s10,s13,s14,s15,s16⟩=>?_) (fun S ⟨s17,s18,s12,gr,gb,s1,s3,s6,s9,s10,s13,s14,s15,s16⟩=>?_)
    ·simp only [rB,Nat.reduceEqDiff,s12,gr,gb,s1,s3,s6,s9,s10,s13,s14,s15,s16]
     rw [htake]
     rw [if_neg (show ¬ wantB key lo hi E[n]=true by simp [wantB,inI,a1,a2]),List.append_nil]
    ·have hwm:=wrap_succ (i:=m) (N:=K.length) hm (by omega)
     have hany:((K.take (m+1)).any fun s=>decide (s=E[n].key))=(((K.take m).any fun s=>decide (s=E[n].key)) || decide (K[m]=E[n].key)):=by
      rw [List.take_succ_eq_append_getElem hm,List.any_append,List.any_cons,List.any_nil,Bool.or_false]
     cases hf1:((K.take m).any fun s=>decide (s=E[n].key))
     ·by_cases he1:K[m]=E[n].key
      ·have q1:((K.take (m+1)).any fun s=>decide (s=E[n].key))=true:=by rw [hany,decide_eq_true he1,Bool.or_true]
       rw [hf1] at s17
       simp only [↓rA,rB,Nat.reduceEqDiff,tbEA1,s17,s18,s13,s14,s16,Int.ofNat_lt,hm,hn,List.length_map,getD_map _ _ _ hm,getD_map _ _ _ hn,he1,hwm]
       refine⟨_,_,List.Sublist.refl _,List.Sublist.refl _,?_⟩
       simp only [rB,Nat.reduceEqDiff,s12,gr,gb,s1,s3,s6,s9,s10,s13,s14,s15,s16,q1]
      ·have q1:((K.take (m+1)).any fun s=>decide (s=E[n].key))=false:=by rw [hany,decide_eq_false he1,hf1];rfl
       rw [hf1] at s17
       simp only [↓rA,rB,Nat.reduceEqDiff,tbEA1,s17,s18,s13,s14,s16,Int.ofNat_lt,hm,hn,List.length_map,getD_map _ _ _ hm,getD_map _ _ _ hn,he1,hwm]
       refine⟨_,_,List.Sublist.refl _,List.Sublist.refl _,?_⟩
       simp only [rB,Nat.reduceEqDiff,s12,gr,gb,s1,s3,s6,s9,s10,s13,s14,s15,s16,q1]
     ·have q1:((K.take (m+1)).any fun s=>decide (s=E[n].key))=true:=by rw [hany,hf1];rfl
      rw [hf1] at s17
      simp only [↓rA,rB,Nat.reduceEqDiff,tbEA1,s17,s18,s14,Int.ofNat_lt,hm,List.length_map,hwm]
      refine⟨_,_,List.Sublist.refl _,List.Sublist.refl _,?_⟩
      simp only [rB,Nat.reduceEqDiff,s12,gr,gb,s1,s3,s6,s9,s10,s13,s14,s15,s16,q1]
    ·rw [List.take_of_length_le (Nat.le_refl _),List.any_eq_true.2 ⟨_,hkn,decide_eq_true rfl⟩] at s17
     simp only [↓rA,rB,Nat.reduceEqDiff,tbEA1,s17,s18,s14,s16,Int.ofNat_lt,Nat.lt_irrefl,List.length_map,hwn]
     refine⟨_,_,List.Sublist.refl _,List.Sublist.refl _,?_⟩
     simp only [rB,Nat.reduceEqDiff,s12,gr,gb,s1,s3,s6,s9,s10,s13,s14,s15]
     exact⟨y,rfl,rfl⟩
  ·simp only [↓rA,rB,Nat.reduceEqDiff,tbEA1,s1,s13,s16,Int.ofNat_lt,hn,List.length_map,getD_map _ _ _ hn,a1]
   refine EX_forS Ty.mixed (by kernel_rfl) K.length (fun m S=>S.σ 17=vbool ((K.take m).any fun s=>decide (s=E[n].key))∧S.σ 18=vint m∧S.σ 12=.list (some y) 8 ((((E.take (n+1)).filter (wantB key lo hi))).map cRow)∧S.rows=[⟨y,8,43⟩]∧S.boxes=[(b10,.c (cArr a)),(b6,.c [vint lo,vint hi])]∧S.σ 1=vstr key∧S.σ 3=vint tick∧S.σ 6=ptr b6∧S.σ 9=vbool true∧S.σ 10=ptr b10∧S.σ 13=vRows E∧S.σ 14=vstrs K∧S.σ 15=vint 0∧S.σ 16=vint n) ⟨_,_,List.Sublist.refl _,List.Sublist.refl _,?_⟩ (fun m S hm ⟨s17,s18,s12,gr,gb,s1,s3,s6,s9,s10,s13,s14,s15,s16⟩=>?_) (fun S ⟨s17,s18,s12,gr,gb,s1,s3,s6,s9,s10,s13,s14,s15,s16⟩=>?_)
   ·simp only [rB,Nat.reduceEqDiff,s12,gr,gb,s1,s3,s6,s9,s10,s13,s14,s15,s16]
    rw [htake]
    rw [if_neg (show ¬ wantB key lo hi E[n]=true by simp [wantB,inI,a1]),List.append_nil]
   ·have hwm:=wrap_succ (i:=m) (N:=K.length) hm (by omega)
    have hany:((K.take (m+1)).any fun s=>decide (s=E[n].key))=(((K.take m).any fun s=>decide (s=E[n].key)) || decide (K[m]=E[n].key)):=by
     rw [List.take_succ_eq_append_getElem hm,List.any_append,List.any_cons,List.any_nil,Bool.or_false]
    cases hf1:((K.take m).any fun s=>decide (s=E[n].key))
    ·by_cases he1:K[m]=E[n].key
     ·have q1:((K.take (m+1)).any fun s=>decide (s=E[n].key))=true:=by rw [hany,decide_eq_true he1,Bool.or_true]
      rw [hf1] at s17
      simp only [↓rA,rB,Nat.reduceEqDiff,tbEA1,s17,s18,s13,s14,s16,Int.ofNat_lt,hm,hn,List.length_map,getD_map _ _ _ hm,getD_map _ _ _ hn,he1,hwm]
      refine⟨_,_,List.Sublist.refl _,List.Sublist.refl _,?_⟩
      simp only [rB,Nat.reduceEqDiff,s12,gr,gb,s1,s3,s6,s9,s10,s13,s14,s15,s16,q1]
     ·have q1:((K.take (m+1)).any fun s=>decide (s=E[n].key))=false:=by rw [hany,decide_eq_false he1,hf1];rfl
      rw [hf1] at s17
      simp only [↓rA,rB,Nat.reduceEqDiff,tbEA1,s17,s18,s13,s14,s16,Int.ofNat_lt,hm,hn,List.length_map,getD_map _ _ _ hm,getD_map _ _ _ hn,he1,hwm]
      refine⟨_,_,List.Sublist.refl _,List.Sublist.refl _,?_⟩
      simp only [rB,Nat.reduceEqDiff,s12,gr,gb,s1,s3,s6,s9,s10,s13,s14,s15,s16,q1]
    ·have q1:((K.take (m+1)).any fun s=>decide (s=E[n].key))=true:=by rw [hany,hf1];rfl
     rw [hf1] at s17
     simp only [↓rA,rB,Nat.reduceEqDiff,tbEA1,s17,s18,s14,Int.ofNat_lt,hm,List.length_map,hwm]
     refine⟨_,_,List.Sublist.refl _,List.Sublist.refl _,?_⟩
     simp only [rB,Nat.reduceEqDiff,s12,gr,gb,s1,s3,s6,s9,s10,s13,s14,s15,s16,q1]
   ·rw [List.take_of_length_le (Nat.le_refl _),List.any_eq_true.2 ⟨_,hkn,decide_eq_true rfl⟩] at s17
    simp only [↓rA,rB,Nat.reduceEqDiff,tbEA1,s17,s18,s14,s16,Int.ofNat_lt,Nat.lt_irrefl,List.length_map,hwn]
    refine⟨_,_,List.Sublist.refl _,List.Sublist.refl _,?_⟩
    simp only [rB,Nat.reduceEqDiff,s12,gr,gb,s1,s3,s6,s9,s10,s13,s14,s15]
    exact⟨y,rfl,rfl⟩
 ·simp only [↓rA,rB,Nat.reduceAdd,Nat.reduceEqDiff,tbEA1,gb,s1,s3,s6,s10,s13,s16,hh,Int.ofNat_lt,Nat.lt_irrefl,List.length_map]
  rw [List.take_of_length_le (Nat.le_refl _)] at s12
  have hra':=rowsP_ok a key lo hi tick hfa.fitG hao.gs
  rw [hra] at hra'
  refine OkF_of _ hra' ?_
  simp only [↓rA,rB,Nat.reduceEqDiff,tbEA1,s12,gr,s9,s15]
  refine OkF_le (.cons (Le.refl _) (.cons (Le.list _ _ _) .nil)) _ (sameRows_ok (E.filter (wantB key lo hi)) (E.filter (wantB key lo hi)) (Nat.le_trans (List.length_filter_le _ _) (by omega)) fun r hr=>hefit r (List.mem_filter.1 hr).1) ?_
  rw [decide_eq_true rfl]
  have hkl':(K.length:Int)≤(E.length:Int):=by omega
  simp only [↓rA,rB,Nat.reduceEqDiff,tbEA1,gr,s14,s13,List.length_map,hkl']
  exact ret_done rfl
end Go.Proofs.YtopfanlkbepemaaGreat
set_option linter.unusedSimpArgs false
set_option maxRecDepth 100000
namespace Go.Proofs.YtopfanlkbepemaaGreat
open Go.VL Go.Ar Go.Lo Go.RowKit Go.ChangeShapes Go.WideShapes Go.Proofs.YtopfanlkbepemaaGreat Go.Proofs.YtopfanlkbepemaaGreat.Arr
theorem LeL_ats {w:World} {I:Cells} {b:Nat}:∀ {l l':List V} {o:Nat},LeL l l'→V.ats w I l b o→V.ats w I l' b o
 | _,_,_,.nil,_=>by simp only [V.ats]
 | _,_,o,.cons h r,ha=>by
  simp only [V.ats] at ha ⊢
  obtain⟨⟨x,h1,h2,h3,h4⟩,h5⟩:=ha
  exact⟨⟨x,h1,h2,h3,h w I x h4⟩,LeL_ats r h5⟩
theorem LeL_len:∀ {l l':List V},LeL l l'→l.length=l'.length
 | _,_,.nil=>rfl
 | _,_,.cons _ r=>by simp [LeL_len r]
inductive LeLL:List (List V)→List (List V)→Prop
 | nil:LeLL [] []
 | cons {e e':List V} {l l':List (List V)} (h:LeL e e') (r:LeLL l l'):LeLL (e::l) (e'::l')
theorem LeLL.len:∀ {l l':List (List V)},LeLL l l'→l.length=l'.length
 | _,_,.nil=>rfl
 | _,_,.cons _ r=>by simp [r.len]
theorem LeLL.lies {w:World} {I:Cells} {b k:Nat}:∀ {l l':List (List V)} {o:Nat},LeLL l l'→V.lies w I k l b o→V.lies w I k l' b o
 | _,_,_,.nil,_=>by simp only [V.lies]
 | _,_,o,.cons h r,ha=>by
  simp only [V.lies] at ha ⊢
  exact⟨LeL_ats h ha.1,LeL_len h▸ha.2.1,r.lies ha.2.2⟩
theorem Le.lists {own:Option Value} {k:Nat} {es es':List (List V)} (h:LeLL es es'):Le (.list own k es) (.list none k es'):=by
 intro w I x hx
 simp only [V.rep] at hx ⊢
 obtain⟨_,a,c,h1,h2,h3⟩:=hx
 refine⟨fun y hy=>(by cases hy),a,c,h.len▸h1,h.len▸h2,?_⟩
 rcases h3 with e | ⟨b,o,e,hl⟩
 ·subst e
  cases h
  exact .inl rfl
 ·exact .inr ⟨b,o,e,h.lies hl⟩
theorem LeL_append:∀ {l l' m m':List V},LeL l l'→LeL m m'→LeL (l++m) (l'++m')
 | _,_,_,_,.nil,h=>h
 | _,_,_,_,.cons h r,h'=>.cons h (LeL_append r h')
theorem bulks_app (l m:List V):V.bulks (l++m)=V.bulks l+V.bulks m:=by
 induction l with
 | nil=>simp [V.bulks]
 | cons x l ih=>simp only [List.cons_append,V.bulks,ih];omega
theorem bulks_pos:∀ vs:List V,vs.length≤V.bulks vs
 | []=>Nat.zero_le _
 | v::r=>by
  have:=bulks_pos r
  have h1:1≤V.bulk v:=by
   cases v with
   | lit x=>cases x <;> simp [V.bulk]
   | list a k es=>simp [V.bulk]
   | _=>simp [V.bulk]
  simp only [V.bulks,List.length_cons];omega
theorem inv_list {α:Type} {t e:TypeId} {k d m:Nat} (hu:Tryz.prog.underlying t=some (.slice e)) (hk:Tryz.prog.cellsOf e=k) (c:α→List V) (G:α→Prop) (wt:α→Nat) (f:Nat)
  (inv:∀ vs,V.bulks vs≤m→TV Tryz.prog d e vs→∃ x,LeL vs (c x)∧G x∧wt x≤f * V.bulks vs) (pos:∀ x,0 < (c x).length) {v:V} (h:TV Tryz.prog (d+1) t [v]) (hm:V.bulk v≤m) :
  ∃ l:List α,Le v (.list none k (l.map c))∧l.length+1≤V.bulk v∧(l.map wt).sum+f≤f * V.bulk v∧∀ x ∈ l,G x:=by
 simp only [TV,hu] at h
 rcases h with h | ⟨es,h,hmax,hes⟩
 ·cases h
  exact⟨[],Le.nil k,by simp [V.bulk],by simp [V.bulk],fun x hx=>by cases hx⟩
 ·rw [hk] at h
  cases h
  clear hmax
  have hb:V.bulk (.list none k es)=V.bulkss es+1:=by simp [V.bulk]
  rw [hb] at hm ⊢
  have:∃ l:List α,LeLL es (l.map c)∧l.length≤V.bulkss es∧(l.map wt).sum≤f * V.bulkss es∧∀ x ∈ l,G x:=by
   clear hb
   induction es with
   | nil=>exact⟨[],.nil,Nat.zero_le _,Nat.zero_le _,fun x hx=>by cases hx⟩
   | cons y es ih =>
    simp only [V.bulkss] at hm
    obtain⟨x,h1,h2,h3⟩:=inv y (by omega) (hes y List.mem_cons_self)
    obtain⟨l,g1,g2,g3,g4⟩:=ih (fun z hz=>hes z (List.mem_cons_of_mem _ hz)) (by omega)
    have hp:=bulks_pos y
    rw [LeL_len h1] at hp
    have:=pos x
    refine⟨x::l,.cons h1 g1,?_,?_,?_⟩
    ·simp only [List.length_cons,V.bulkss];omega
    ·simp only [List.map_cons,List.sum_cons,V.bulkss,Nat.mul_add];omega
    ·intro z hz
     rcases List.mem_cons.1 hz with rfl | hz
     ·exact h2
     ·exact g4 z hz
  obtain⟨l,g1,g2,g3,g4⟩:=this
  exact⟨l,Le.lists g1,by omega,by rw [Nat.mul_add];omega,g4⟩
theorem inv_int {d:Nat} {v:List V} (h:TV Tryz.prog d 3 v):∃ n,v=[vint n]∧inR n:=by
 cases d with
 | zero=>exact h.elim
 | succ d =>
  simp only [TV,Ty.un3] at h
  obtain⟨n,rfl,hw⟩:=h
  refine⟨n,rfl,?_⟩
  simp only [Lit.wf,Bool.and_eq_true,decide_eq_true_eq] at hw
  have h1:IntKind.i64.min=-9223372036854775808:=by decide
  have h2:IntKind.i64.max=9223372036854775807:=by decide
  unfold inR;omega
theorem inv_str {d:Nat} {v:List V} (h:TV Tryz.prog d 9 v):∃ s:Str,v=[vstr s]∧s.size≤maxLen:=by
 cases d with
 | zero=>exact h.elim
 | succ d =>
  simp only [TV,Ty.un9] at h
  exact h
theorem inv_fac {d:Nat} {vs:List V} (h:TV Tryz.prog d 231 vs):∃ x:Fac,vs=cFac x:=by
 cases d with
 | zero=>exact h.elim
 | succ d =>
  simp only [TV,Tryz.underlying231,TVF] at h
  obtain⟨x1,y1,rfl,h1,x2,y2,rfl,h2,rfl⟩:=h
  obtain⟨s,rfl,_⟩:=inv_str h1
  obtain⟨n,rfl,_⟩:=inv_int h2
  exact⟨⟨s,n⟩,rfl⟩
theorem inv_fid {d:Nat} {vs:List V} (h:TV Tryz.prog d 40 vs):∃ i:FID,vs=cFID i:=by
 cases d with
 | zero=>exact h.elim
 | succ d =>
  simp only [TV,Tryz.underlying40,TVF] at h
  obtain⟨x1,y1,rfl,h1,x2,y2,rfl,h2,rfl⟩:=h
  obtain⟨s,rfl,_⟩:=inv_str h1
  obtain⟨n,rfl,_⟩:=inv_int h2
  exact⟨⟨s,n⟩,rfl⟩
theorem encV_size (v:Val):(encV v).length=24+v.s.size:=by
 simp only [encV,List.length_append,bytes8_len,strB_len]
theorem inv_val {d:Nat} {vs:List V} (h:TV Tryz.prog d 85 vs):∃ v:Val,vs=cVal v∧okV v∧(encV v).length≤8 * V.bulks vs:=by
 cases d with
 | zero=>exact h.elim
 | succ d =>
  simp only [TV,Tryz.underlying85,TVF] at h
  obtain⟨x1,y1,rfl,h1,x2,y2,rfl,h2,x3,y3,rfl,h3,rfl⟩:=h
  obtain⟨k,rfl,hk⟩:=inv_int h1
  obtain⟨n,rfl,hn⟩:=inv_int h2
  obtain⟨s,rfl,hs⟩:=inv_str h3
  refine⟨⟨k,n,s⟩,rfl,⟨hk,hn,?_⟩,?_⟩
  ·have:maxLen < 9223372036854775808:=by decide
   simp only;omega
  ·rw [encV_size]
   simp only [List.cons_append,List.nil_append,V.bulks,V.bulk]
   omega
theorem inv_win {d:Nat} {vs:List V} (h:TV Tryz.prog d 87 vs):∃ a b:Int,vs=[vint a,vint b]:=by
 cases d with
 | zero=>exact h.elim
 | succ d =>
  simp only [TV,Tryz.underlying87,TVF] at h
  obtain⟨x1,y1,rfl,h1,x2,y2,rfl,h2,rfl⟩:=h
  obtain⟨k,rfl,_⟩:=inv_int h1
  obtain⟨n,rfl,_⟩:=inv_int h2
  exact⟨k,n,rfl⟩
theorem one_slice {d:Nat} {t e:TypeId} {vs:List V} (hu:Tryz.prog.underlying t=some (.slice e)) (h:TV Tryz.prog d t vs):∃ v d',vs=[v]∧d=d'+1:=by
 cases d with
 | zero=>exact h.elim
 | succ d =>
  simp only [TV,hu] at h
  rcases h with h | ⟨es,h,_⟩
  ·exact⟨_,_,h,rfl⟩
  ·exact⟨_,_,h,rfl⟩
mutual
theorem depth_size:∀ x:E,depthE x≤sizeE x
 | .mk h l=>by
  have:=depths_size l
  rw [depthE_mk,sizeE_mk];omega
theorem depths_size:∀ l:List E,depthEs l≤sizeEs l
 | []=>Nat.zero_le _
 | x::r=>by
  have h1:=depth_size x
  have h2:=depths_size r
  simp only [depthEs,sizeEs];omega
end
theorem size_sum:∀ l:List E,(l.map fun x=>2 * sizeE x).sum=2 * sizeEs l
 | []=>rfl
 | x::r=>by
  have:=size_sum r
  simp only [List.map_cons,List.sum_cons,sizeEs,this];omega
theorem inv_unit {d:Nat} {vs:List V} (hb:V.bulks vs≤1048576) (h:TV Tryz.prog d 81 vs):∃ us:List Fac,LeL vs [vFacs us]∧us.length≤1048576:=by
 obtain⟨u,d',rfl,rfl⟩:=one_slice Ty.un81 h
 simp only [V.bulks] at hb
 obtain⟨us,u1,u2,_,_⟩:=inv_list (m:=1048576) Ty.un81 (by kernel_rfl:Tryz.prog.cellsOf 231=2) cFac (fun _=>True) (fun _=>0) 0 (fun vs _ h=>by obtain⟨x,rfl⟩:=inv_fac h;exact⟨x,LeL.refl _,trivial,Nat.zero_le _⟩) (fun _=>Nat.succ_pos _) h (by omega)
 exact⟨us,.cons u1 .nil,by omega⟩
theorem inv_expr:∀ (d:Nat) (vs:List V),V.bulks vs≤1048576→TV Tryz.prog d 90 vs→∃ x:E,LeL vs (cE x)∧Fit x∧2 * sizeE x≤1 * V.bulks vs:=by
 intro d
 induction d using Nat.strongRecOn with
 | ind d ih =>
 intro vs hb h
 cases d with
 | zero=>exact h.elim
 | succ d =>
  simp only [TV,Tryz.underlying90,TVF] at h
  obtain⟨x1,y1,rfl,h1,x2,y2,rfl,h2,x3,y3,rfl,h3,x4,y4,rfl,h4,x5,y5,rfl,h5,x6,y6,rfl,h6,x7,y7,rfl,h7,x8,y8,rfl,h8,x9,y9,rfl,h9,rfl⟩:=h
  obtain⟨kind,rfl,_⟩:=inv_int h1
  obtain⟨op,rfl,_⟩:=inv_str h2
  obtain⟨name,rfl,_⟩:=inv_str h3
  obtain⟨table,rfl,_⟩:=inv_str h4
  obtain⟨val,rfl,_⟩:=inv_val h5
  obtain⟨u,d',rfl,rfl⟩:=one_slice Ty.un81 h6
  obtain⟨param,rfl,_⟩:=inv_int h7
  obtain⟨wk,ws,rfl⟩:=inv_win h8
  obtain⟨a,_,rfl,_⟩:=one_slice Ty.un88 h9
  simp only [List.cons_append,List.nil_append,V.bulks,cVal] at hb
  obtain⟨us,u1,u2⟩:=inv_unit (by simp only [V.bulks];omega) h6
  cases u1 with
  | cons u1 _ =>
  obtain⟨la,a1,a2,a3,a4⟩:=inv_list (m:=1048576) Ty.un88 (by kernel_rfl:Tryz.prog.cellsOf 90=12) cE Fit (fun x=>2 * sizeE x) 1 (fun vs hm h=>ih d' (by omega) vs hm h) (fun x=>by rw [cE_len];decide) h9 (by omega)
  refine⟨.mk ⟨kind,op,name,table,val,us,param,wk,ws⟩ la,?_,?_,?_⟩
  ·rw [cE_mk]
   exact .cons (Le.refl _) (.cons (Le.refl _) (.cons (Le.refl _) (.cons (Le.refl _) (.cons (Le.refl _) (.cons (Le.refl _) (.cons (Le.refl _) (.cons u1 (.cons (Le.refl _) (.cons (Le.refl _) (.cons (Le.refl _) (.cons a1 .nil)))))))))))
  ·exact .mk _ _ (Nat.le_trans u2 (by unfold Go.Proofs.YtopfanlkbepemaaGreat.big;decide)) (by unfold Go.Proofs.YtopfanlkbepemaaGreat.big;omega) a4
  ·rw [sizeE_mk]
   rw [size_sum] at a3
   simp only [List.cons_append,List.nil_append,V.bulks,cVal,V.bulk]
   omega
theorem inv_typ {d:Nat} {vs:List V} (hb:V.bulks vs≤1048576) (h:TV Tryz.prog d 83 vs):∃ t:Typ,LeL vs [vint t.kind,vFacs t.unit,vstr t.of]∧t.unit.length≤1048576:=by
 cases d with
 | zero=>exact h.elim
 | succ d =>
  simp only [TV,Tryz.underlying83,TVF] at h
  obtain⟨x1,y1,rfl,h1,x2,y2,rfl,h2,x3,y3,rfl,h3,rfl⟩:=h
  obtain⟨kind,rfl,_⟩:=inv_int h1
  obtain⟨o,rfl,_⟩:=inv_str h3
  rw [bulks_app,bulks_app] at hb
  obtain⟨us,u1,u2⟩:=inv_unit (by omega) h2
  exact⟨⟨kind,us,o⟩,.cons (Le.refl _) (LeL_append u1 (LeL.refl _)),u2⟩
theorem inv_fld {d:Nat} {vs:List V} (hb:V.bulks vs≤1048576) (h:TV Tryz.prog d 156 vs):∃ f:Fld,LeL vs (cFld f)∧FitU f.typ:=by
 cases d with
 | zero=>exact h.elim
 | succ d =>
  simp only [TV,Tryz.underlying156,TVF] at h
  obtain⟨x1,y1,rfl,h1,x2,y2,rfl,h2,rfl⟩:=h
  obtain⟨name,rfl,_⟩:=inv_str h1
  rw [bulks_app,bulks_app] at hb
  obtain⟨t,t1,t2⟩:=inv_typ (by omega) h2
  rw [List.append_nil]
  exact⟨⟨name,t⟩,.cons (Le.refl _) t1,Nat.le_trans t2 (by unfold Go.Proofs.YtopfanlkbepemaaGreat.big;decide)⟩
theorem inv_tab {d:Nat} {vs:List V} (hb:V.bulks vs≤1048576) (h:TV Tryz.prog d 80 vs):∃ t:Tab,LeL vs (cTab t)∧FitT t:=by
 cases d with
 | zero=>exact h.elim
 | succ d =>
  simp only [TV,Tryz.underlying80,TVF] at h
  obtain⟨x1,y1,rfl,h1,x2,y2,rfl,h2,x3,y3,rfl,h3,x4,y4,rfl,h4,rfl⟩:=h
  obtain⟨name,rfl,_⟩:=inv_str h1
  obtain⟨entity,rfl,_⟩:=inv_str h2
  obtain⟨a,d',rfl,rfl⟩:=one_slice Ty.un78 h3
  obtain⟨keep,rfl,_⟩:=inv_int h4
  simp only [List.cons_append,List.nil_append,V.bulks] at hb
  obtain⟨l,l1,l2,_,l4⟩:=inv_list (m:=1048576) Ty.un78 (by kernel_rfl:Tryz.prog.cellsOf 156=4) cFld (fun f=>FitU f.typ) (fun _=>0) 0 (fun vs hm h=>by obtain⟨x,q1,q2⟩:=inv_fld hm h;exact⟨x,q1,q2,Nat.zero_le _⟩) (fun _=>Nat.succ_pos _) h3 (by omega)
  exact⟨⟨name,entity,l,keep⟩,.cons (Le.refl _) (.cons (Le.refl _) (.cons l1 (.cons (Le.refl _) .nil))),by simp only [FitT];exact⟨by unfold Go.Proofs.YtopfanlkbepemaaGreat.big;omega,l4⟩⟩
theorem inv_ftr {d:Nat} {vs:List V} (hb:V.bulks vs≤1048576) (h:TV Tryz.prog d 92 vs):∃ f:Ftr,LeL vs (cFtr f)∧GF f:=by
 cases d with
 | zero=>exact h.elim
 | succ d =>
  simp only [TV,Tryz.underlying92,TVF] at h
  obtain⟨x1,y1,rfl,h1,x2,y2,rfl,h2,x3,y3,rfl,h3,x4,y4,rfl,h4,x5,y5,rfl,h5,rfl⟩:=h
  obtain⟨name,rfl,_⟩:=inv_str h1
  obtain⟨entity,rfl,_⟩:=inv_str h2
  obtain⟨version,rfl,_⟩:=inv_int h5
  simp only [bulks_app] at hb
  obtain⟨t,t1,t2⟩:=inv_typ (by omega) h3
  obtain⟨x,e1,e2,e3⟩:=inv_expr _ x4 (by omega) h4
  have hs:sizeE x≤1000000:=by omega
  refine⟨⟨name,entity,t,x,version⟩,?_,⟨Nat.le_trans t2 (by unfold Go.Proofs.YtopfanlkbepemaaGreat.big;decide),e2⟩,Nat.le_trans (depth_size x) (Nat.le_trans hs (by unfold Go.Proofs.YtopfanlkbepemaaGreat.big;decide)),hs⟩
  rw [cFtr_eq]
  rw [cE_eq] at e1
  exact .cons (Le.refl _) (.cons (Le.refl _) (LeL_append t1 (LeL_append e1 (LeL.refl _))))
theorem inv_chg {d:Nat} {vs:List V} (hb:V.bulks vs≤1048576) (h:TV Tryz.prog d 94 vs):∃ c:Chg,LeL vs (cChange c)∧FitC c∧GF c.feature:=by
 cases d with
 | zero=>exact h.elim
 | succ d =>
  simp only [TV,Tryz.underlying94,TVF] at h
  obtain⟨x1,y1,rfl,h1,x2,y2,rfl,h2,x3,y3,rfl,h3,x4,y4,rfl,h4,rfl⟩:=h
  obtain⟨kind,rfl,_⟩:=inv_int h1
  obtain⟨name,rfl,_⟩:=inv_str h4
  simp only [bulks_app] at hb
  obtain⟨t,t1,t2⟩:=inv_tab (by omega) h2
  obtain⟨f,f1,f2⟩:=inv_ftr (by omega) h3
  refine⟨⟨kind,t,f,name⟩,?_,⟨t2,f2.1⟩,f2⟩
  rw [cFtr_eq] at f1
  rw [cChange_eq,List.append_nil]
  exact .cons (Le.refl _) (LeL_append t1 (LeL_append f1 (LeL.refl _)))
theorem encL_sum (l:List Val):(encL l).length=(l.map fun v=>(encV v).length).sum:=by
 induction l with
 | nil=>rfl
 | cons v l ih=>simp only [encL,List.flatMap_cons,List.length_append,List.map_cons,List.sum_cons] at ih ⊢;omega
theorem inv_fct {d:Nat} {vs:List V} (hb:V.bulks vs≤1048576) (h:TV Tryz.prog d 75 vs):∃ f:Fct,LeL vs (cFct f)∧fitF f:=by
 cases d with
 | zero=>exact h.elim
 | succ d =>
  simp only [TV,Tryz.underlying75,TVF] at h
  obtain⟨x1,y1,rfl,h1,x2,y2,rfl,h2,x3,y3,rfl,h3,x4,y4,rfl,h4,x5,y5,rfl,h5,x6,y6,rfl,h6,x7,y7,rfl,h7,rfl⟩:=h
  obtain⟨i,rfl⟩:=inv_fid h1
  obtain⟨kind,rfl,_⟩:=inv_int h2
  obtain⟨ref,rfl,_⟩:=inv_int h3
  obtain⟨table,rfl,_⟩:=inv_str h4
  obtain⟨key,rfl,_⟩:=inv_str h5
  obtain⟨event,rfl,_⟩:=inv_int h6
  obtain⟨a,d',rfl,rfl⟩:=one_slice Ty.un41 h7
  simp only [List.cons_append,List.nil_append,V.bulks] at hb
  obtain⟨l,l1,l2,l3,l4⟩:=inv_list (m:=1048576) Ty.un41 (by kernel_rfl:Tryz.prog.cellsOf 85=3) cVal okV (fun v=>(encV v).length) 8 (fun vs hm h=>by obtain⟨x,rfl,q2,q3⟩:=inv_val h;exact⟨x,LeL.refl _,q2,q3⟩) (fun _=>Nat.succ_pos _) h7 (by omega)
  refine⟨⟨i.src,i.seq,kind,ref,table,key,event,l⟩,.cons (Le.refl _) (.cons (Le.refl _) (.cons (Le.refl _) (.cons (Le.refl _) (.cons (Le.refl _) (.cons (Le.refl _) (.cons (Le.refl _) (.cons l1 .nil))))))),by simp only;omega,?_,l4⟩
  show (encL l).length≤1099511627776
  rw [encL_sum]
  omega
theorem inv_ers {d:Nat} {vs:List V} (hb:V.bulks vs≤1048576) (h:TV Tryz.prog d 77 vs):∃ e:Ers,vs=cErs e∧e.key.size≤1048576:=by
 cases d with
 | zero=>exact h.elim
 | succ d =>
  simp only [TV,Tryz.underlying77,TVF] at h
  obtain⟨x1,y1,rfl,h1,x2,y2,rfl,h2,x3,y3,rfl,h3,x4,y4,rfl,h4,rfl⟩:=h
  obtain⟨kind,rfl,_⟩:=inv_int h1
  obtain⟨entity,rfl,_⟩:=inv_str h2
  obtain⟨key,rfl,_⟩:=inv_str h3
  obtain⟨i,rfl⟩:=inv_fid h4
  simp only [List.cons_append,List.nil_append,V.bulks,V.bulk] at hb
  exact⟨⟨kind,entity,key,i.src,i.seq⟩,rfl,by simp only;omega⟩
theorem inv_etr {d:Nat} {vs:List V} (hb:V.bulks vs≤1048576) (h:TV Tryz.prog d 96 vs):∃ e:Etr,LeL vs (cEtr e)∧FitE e∧fitF e.fact:=by
 cases d with
 | zero=>exact h.elim
 | succ d =>
  simp only [TV,Tryz.underlying96,TVF] at h
  obtain⟨x1,y1,rfl,h1,x2,y2,rfl,h2,x3,y3,rfl,h3,x4,y4,rfl,h4,x5,y5,rfl,h5,x6,y6,rfl,h6,rfl⟩:=h
  obtain⟨no,rfl,_⟩:=inv_int h1
  obtain⟨tick,rfl,_⟩:=inv_int h2
  obtain⟨kind,rfl,_⟩:=inv_int h3
  simp only [bulks_app] at hb
  obtain⟨f,f1,f2⟩:=inv_fct (by omega) h4
  obtain⟨x,rfl,e2⟩:=inv_ers (by omega) h5
  obtain⟨c,c1,c2,c3⟩:=inv_chg (by omega) h6
  refine⟨⟨no,tick,kind,f,x,c⟩,?_,⟨c2,c3,Nat.le_trans e2 (by decide),Nat.le_trans f2.1 (by unfold Go.Proofs.YtopfanlkbepemaaGreat.big;decide)⟩,f2⟩
  show LeL (vint no::vint tick::vint kind::(x4++(cErs x++(x6++[])))) (vint no::vint tick::vint kind::(cFct f++(cErs x++cChange c)))
  rw [List.append_nil]
  exact .cons (Le.refl _) (.cons (Le.refl _) (.cons (Le.refl _) (LeL_append f1 (LeL_append (LeL.refl _) c1))))
theorem cEtr_len (e:Etr):0 < (cEtr e).length:=by rw [cEtr_eq];exact Nat.succ_pos _
theorem in_etrs {d:Nat} {a:V} (h:TA Tryz.prog d 22 a) (hb:V.bulkA a≤1048576):∃ l:List Etr,Le a (vEtrs l)∧(∀ e ∈ l,FitE e)∧∀ e ∈ l,fitF e.fact:=by
 unfold TA at h
 simp only [Ty.ag22] at h
 cases d with
 | zero=>exact h.elim
 | succ d =>
  have hb':V.bulk a≤1048576:=by
   simp only [TV,Ty.un22] at h
   rcases h with h | ⟨es,h,_⟩ <;> (cases h;exact hb)
  obtain⟨l,l1,_,_,l4⟩:=inv_list (m:=1048576) Ty.un22 (by kernel_rfl:Tryz.prog.cellsOf 96=40) cEtr (fun e=>FitE e∧fitF e.fact) (fun _=>0) 0 (fun vs hm h=>by obtain⟨x,q1,q2,q3⟩:=inv_etr hm h;exact⟨x,q1,⟨q2,q3⟩,Nat.zero_le _⟩) (fun x=>cEtr_len x) h hb'
  exact⟨l,l1,fun e he=>(l4 e he).1,fun e he=>(l4 e he).2⟩
theorem bulkAs_mem:∀ {zs:List V} {a:V},a ∈ zs→V.bulkA a≤V.bulkAs zs
 | b::r,a,h=>by
  rcases List.mem_cons.1 h with rfl | h
  ·simp only [V.bulkAs];omega
  ·have:=bulkAs_mem h;simp only [V.bulkAs];omega
mutual
theorem bulk_eq {H:Type}:∀ d:DataW H,Rows.uptoBulk d=bulkD d
 | .lit (.string b)=>by simp only [Rows.uptoBulk,bulkD]
 | .lit (.int _ _)=>by simp only [Rows.uptoBulk,bulkD]
 | .lit (.bool _)=>by simp only [Rows.uptoBulk,bulkD]
 | .lit (.float _ _)=>by simp only [Rows.uptoBulk,bulkD]
 | .lit .nil=>by simp only [Rows.uptoBulk,bulkD]
 | .nil=>by simp only [Rows.uptoBulk,bulkD]
 | .ptr d=>by simp only [Rows.uptoBulk,bulkD,bulk_eq d]
 | .slice es sp=>by simp only [Rows.uptoBulk,bulkD,bulks_eq es,bulks_eq sp]
 | .agg ps=>by simp only [Rows.uptoBulk,bulkD,bulks_eq ps]
 | .iface _ d=>by simp only [Rows.uptoBulk,bulkD,bulk_eq d]
 | .map es=>by simp only [Rows.uptoBulk,bulkD,bulke_eq es]
 | .held _=>by simp only [Rows.uptoBulk,bulkD]
theorem bulks_eq {H:Type}:∀ ds:List (DataW H),Rows.uptoBulkAll ds=bulkDs ds
 | []=>by simp only [Rows.uptoBulkAll,bulkDs]
 | d::r=>by simp only [Rows.uptoBulkAll,bulkDs,bulk_eq d,bulks_eq r]
theorem bulke_eq {H:Type}:∀ es:List (Lit × DataW H),Rows.uptoBulkEntries es=bulkDe es
 | []=>by simp only [Rows.uptoBulkEntries,bulkDe]
 | x::r=>by simp only [Rows.uptoBulkEntries,bulkDe,bulkx_eq x,bulke_eq r]
theorem bulkx_eq {H:Type}:∀ x:Lit × DataW H,Rows.uptoBulkEntry x=bulkDx x
 | (.string b,d)=>by simp only [Rows.uptoBulkEntry,bulkDx,bulk_eq d]
 | (.int _ _,d)=>by simp only [Rows.uptoBulkEntry,bulkDx,bulk_eq d]
 | (.bool _,d)=>by simp only [Rows.uptoBulkEntry,bulkDx,bulk_eq d]
 | (.float _ _,d)=>by simp only [Rows.uptoBulkEntry,bulkDx,bulk_eq d]
 | (.nil,d)=>by simp only [Rows.uptoBulkEntry,bulkDx,bulk_eq d]
end
theorem in_int {d:Nat} {a:V} (h:TA Tryz.prog d 3 a):∃ n,a=vint n:=by
 unfold TA at h
 simp only [Ty.ag3] at h
 obtain⟨n,e,_⟩:=inv_int h
 cases e;exact⟨n,rfl⟩
theorem in_str {d:Nat} {a:V} (h:TA Tryz.prog d 9 a):∃ s,a=vstr s:=by
 unfold TA at h
 simp only [Ty.ag9] at h
 obtain⟨n,e,_⟩:=inv_str h
 cases e;exact⟨n,rfl⟩
theorem in_ival {d:Nat} {a:V} (h:TA Tryz.prog d 24 a):∃ lo hi,a=.agg [vint lo,vint hi]:=by
 unfold TA at h
 simp only [Ty.ag24] at h
 obtain⟨vs,rfl,h⟩:=h
 cases d with
 | zero=>exact h.elim
 | succ d =>
  simp only [TV,Tryz.underlying24,TVF] at h
  obtain⟨x,y,rfl,hx,y1,y2,rfl,hy,rfl⟩:=h
  obtain⟨k,rfl,_⟩:=inv_int hx
  obtain⟨s,rfl,_⟩:=inv_int hy
  exact⟨k,s,rfl⟩
end Go.Proofs.YtopfanlkbepemaaGreat
