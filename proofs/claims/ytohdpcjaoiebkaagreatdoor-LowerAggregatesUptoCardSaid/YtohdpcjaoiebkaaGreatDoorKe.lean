/- Merged out of my texts CQ CR CS CT CU CV CW CX CY CZ WG WH LT LQ WI E1 WJ LU WK LW LX LO LY LZ L1. -/
import Derived.Test.YtohdpcjaoiebkaaGreatDoorKd
import Derived.Test.YtohdpcjaoiebkaaGreatDoorKVH
import Derived.Test.YtohdpcjaoiebkaaGreatDoorKVTw
import Derived.Test.YtohdpcjaoiebkaaGreatDoorKc
import Derived.Shelf.SortG.Plain
import Derived.KernelRfl
import Derived.Test.YtohdpcjaoiebkaaGreatDoorProg
import Derived.Test.YtohdpcjaoiebkaaGreatDoorKVFn
import Derived.Shelf.SortG.SortNone
import Derived.Test.YtohdpcjaoiebkaaGreatDoorKa
import Derived.Test.YtohdpcjaoiebkaaGreatDoorKVMe
import Derived.Test.YtohdpcjaoiebkaaGreatDoorKVT
set_option linter.unusedVariables false
set_option linter.unusedSimpArgs false
set_option maxRecDepth 100000
set_option linter.defProp false
namespace Go.Proofs.YtohdpcjaoiebkaaGreatDoor
open Go.VL Go.Ar Go.Lo Go.Proofs.YtohdpcjaoiebkaaGreatDoor
def Bx (base:List (Nat × B)) (la lb:Bool) (v:V) (bs:List (Nat × B)):Prop :=
 (la=false∧lb=false∧bs=base)∨(∃ b,la=true∧lb=false∧Nb b base∧v=ptr b∧bs=(b,.c [vint 0,nilS,qm es0])::base)∨∃ b t,la=true∧lb=true∧Nb b base∧wv t∧v=ptr b∧bs=(b,.c (qwd t))::base
abbrev bs4 (b2 b3 b4 b6:Nat) (h:Hd) (l:List E) (c:Cat) (e:Str) (t:Tab) (c':Cat) (e':Str) (t':Tab):List (Nat × B) :=
 [(b6,.c (xz c'++(qm e'::Xu t'))),(b4,.c [vint 0,nilS,qm es0]),(b3,.c (cH h (zD l))),(b2,.c (xz c++(qm e::Xu t)))]
def InI (b2 b3 b4 b6:Nat) (h:Hd) (l:List E) (c:Cat) (e:Str) (t:Tab) (c':Cat) (e':Str) (t':Tab) (y:Value) (ts:List Typ) (i:Nat) (x:E) (L:Nat→Bool) (S:St):Prop :=
 S.σ 2=ptr b2∧S.σ 3=ptr b3∧S.σ 4=ptr b4∧S.σ 6=ptr b6∧S.σ 9=.list (some y) 3 (ts.map qwd)∧S.σ 10=vint i∧S.rows=[⟨y,3,43⟩] ∧
 (L 0=true→S.σ 37=vSc c' e' t')∧(L 1=true→S.σ 38=.lit (.pointer (some ⟨b3,11,none⟩)))∧(L 2=true→S.σ 39=zD l)∧(L 3=true→S.σ 40=vint i)∧(L 4=true→S.σ 41=.ref ((l.map cE).getD (i:Int).toNat []))∧(L 5=true→S.σ 42=vE x) ∧
 (L 6=true→∃ t n,wv t∧S.σ 43=.tup [Qm t,vint n])∧(L 7=true→∃ t n,wv t∧S.σ 36=.tup [Qm t,vint n])∧(L 8=true→∃ t,wv t∧S.σ 44=Qm t)∧(L 9=true→∃ n,S.σ 45=vint n)∧(L 12=true→∃ n,S.σ 12=vint n) ∧
 Bx (bs4 b2 b3 b4 b6 h l c e t c' e' t') (L 10) (L 11) (S.σ 11) S.boxes
def zF:=(aI (aI (aI (aI Ty.c112 (aI Ty.c113 Ty.c75)) (aI Ty.t126 (aI Ty.t128 Ty.t157))) (aI (aI Ty.t159 (aI Ty.t22 Ty.t23)) (aI Ty.t25 (aI Ty.t27 Ty.t29)))) (aI (aI (aI Ty.t3 (aI Ty.t35 Ty.t36)) (aI Ty.t38 (aI Ty.t4 Ty.t40))) (aI (aI Ty.t43 (aI Ty.t45 Ty.t60)) (aI (aI Ty.t61 Ty.t63) (aI Ty.t9 Ty.t95)))))
set_option maxHeartbeats 4000000 in
theorem qrc (n:Nat) (hn:n≤1000000):∀ x:E,∀ (ins:Bool) (c:Cat) (e:Str) (t:Tab),kI x→qS x ins=true→Qw n c→Ks t→UA Tryz.prog 75 [vSc c e t,vE x]:=by
 intro x
 induction x using E.ind with
 | h h l ih =>
 intro ins c e t hf hp hk ht
 obtain⟨p1,p2,p3,p4,p5⟩:=xF hp
 have hl:=hf.len
 have ha:=hf.args
 have hu:=hf.unit
 simp only [E.args,big] at hl ha
 rw [vE,zq]
 refine Ok.of_exM [(11,3)] Ty.mixed Tryz.func75 rfl (by simp [Tryz.ntmps75]) (by kernel_rfl) fun F w0 I0=>?_
 simp only [↓rA,rB,qf,Nat.reduceLT]
 refine fun b2 h2=>?_;replace h2:=qn h2;try simp only [Nb] at h2
 simp only [↓rA,rB,qf,Nat.reduceEqDiff,Nat.reduceLT]
 refine fun b3 h3=>?_;replace h3:=qn h3;try simp only [Nb] at h3
 simp only [↓rA,rB,zF]
 refine fun b4 h4=>?_;replace h4:=qn h4;try simp only [Nb] at h4
 simp only [↓rA,rB,Nat.reduceAdd,Nat.reduceEqDiff,zF,h3,h4]
 refine fun b6 h6=>?_;replace h6:=qn h6;try simp only [Nb] at h6
 have hh:=And.intro h2 (And.intro h3 (And.intro h4 h6))
 simp only [↓zA,↓xm,↓uQ,↓wF,xy,qs,uz,Wm,uy,jC,vf,ko,vg,uK,jF,yI,xW,yO,vi,zR,QO,yP,Nat.le_refl,eq_self,and_self,not_false_eq_true,ne_eq,List.map_cons,List.map_nil,List.take_zero,List.drop_succ_cons,List.drop_nil,List.length_cons,List.length_nil,List.nil_append,List.append_nil,List.toList_toArray,Nat.zero_add,Bool.and_true,Nat.reduceEqDiff,Nat.reduceAdd,zF,Tryz.results75]
 rw [z6]
 refine kz (fun S=>∃ X c' e' t',Qw n c'∧Ks t'∧S.boxes=X++bs4 b2 b3 b4 b6 h l c e t c' e' t'∧S.rows=[]∧S.σ 2=ptr b2∧S.σ 3=ptr b3∧S.σ 4=ptr b4∧S.σ 6=ptr b6) ?_ ?_
 ·by_cases k5:h.kind=5
  ·simp only [↓rA,rB,Nat.reduceAdd,Nat.reduceEqDiff,zF,hh,k5]
   refine qi [] _ (List.Perm.refl _) (qjh n c e t h.table hn hk) ?_
   rintro v bs rs ⟨⟨c',e',t',k,rfl,hk'⟩,rfl,rfl⟩
   simp only [↓rA,rB,Nat.reduceEqDiff,zF,k5]
   refine fun b7 h7=>?_;replace h7:=qn h7;try simp only [Nb] at h7
   have h7:=And.intro hh h7
   simp only [↓rA,rB,Nat.reduceAdd,Nat.reduceEqDiff,zF,k5]
   by_cases k0:k=0
   ·simp only [↓rA,rB,Nat.reduceAdd,Nat.reduceEqDiff,zF,h7,k5,k0]
    exact⟨[(b7,_)],c',e',t',(hk' k0).1,(hk' k0).2,rfl⟩
   ·simp only [↓rA,rB,qb,Nat.reduceAdd,Nat.reduceEqDiff,zF,h7,k5,k0]
    exact zG _ _ _ _ _
  ·simp only [↓rA,rB,Nat.reduceAdd,Nat.reduceEqDiff,zF,hh,k5]
   exact⟨[],c,e,t,hk,ht,rfl⟩
 rintro S ⟨X,c',e',t',hk',ht',gb,gr,g2,g3,g4,g6⟩
 rw [z6]
 simp only [↓rA,rB]
 refine zC.nilRow 9 3 43 (by simp only [rB,Nat.reduceEqDiff]) (by decide) ?_
 refine jz Ty.mixed (by kernel_rfl) l.length (fun i S=>(∃ (y:Value) (ts:List Typ),ts.length=i∧(∀ z ∈ ts,wv z)∧S.σ 9=.list (some y) 3 (ts.map qwd)∧S.rows=[⟨y,3,43⟩])∧S.boxes=bs4 b2 b3 b4 b6 h l c e t c' e' t'∧S.σ 2=ptr b2∧S.σ 3=ptr b3∧S.σ 4=ptr b4∧S.σ 6=ptr b6∧S.σ 10=vint i) ⟨bs4 b2 b3 b4 b6 h l c e t c' e' t',_,?_,List.Sublist.refl _,?_⟩ (fun i S hi ⟨⟨y,ts,hl1,hts,g9,gr⟩,gb,g2,g3,g4,g6,g10⟩=>?_) (fun S ⟨⟨y,ts,hl1,hts,g9,gr⟩,gb,g2,g3,g4,g6,g10⟩=>?_)
 ·simp only [rB,gb]
  exact List.sublist_append_right _ _
 ·simp only [rB,Nat.reduceEqDiff,gr,g2,g3,g4,g6]
  exact⟨nilv,[],rfl,fun z hz=>absurd hz List.not_mem_nil,rfl,rfl⟩
 ·have hwi:=qk (i:=i) (N:=l.length) hi (by omega)
  have hx:=List.getElem_mem hi
  have hq:=ih l[i] hx (ins || decide (h.kind=5)) c' e' t' (ha _ hx) (p4 _ hx) hk' ht'
  simp only [↓rA,rB,Nat.reduceAdd,Nat.reduceEqDiff,zF,gb,g3,g10,hh,Int.ofNat_lt,hi,List.length_map]
  refine Z1 Ty.mixed (by kernel_rfl) (by kernel_rfl) (InI b2 b3 b4 b6 h l c e t c' e' t' y ts i l[i]) ?_ ?_ ?_
  ·refine⟨?_,?_,?_,?_,?_,?_,?_,(fun h=>by cases h),(fun h=>by cases h),(fun h=>by cases h),(fun h=>by cases h),(fun h=>by cases h),(fun h=>by cases h),(fun h=>by cases h),(fun h=>by cases h),(fun h=>by cases h),(fun h=>by cases h),(fun h=>by cases h),.inl ⟨rfl,rfl,?_⟩⟩ <;> first | assumption | simp only [↓rA,rB,qb,qf,Int.reduceEq,Int.reduceLE,Int.reduceLT,Int.reduceToNat,Nat.reduceAdd,Nat.reduceEqDiff,Nat.reduceLT,Nat.reduceLeDiff,Nat.reduceMul,Nat.reduceSub,reduceCtorEq,zF,Tryz.results75,gb,gr,g2,g3,g4,g6,g9,g10] | exact gb
  ·clear gr gb g2 g3 g4 g6 g9 g10
   intro D S j o ho hL he ⟨g2,g3,g4,g6,g9,g10,gr,f0,f1,f2,f3,f4,f5,f6,f7,f8,f9,f12,hb⟩
   match j,ho with
   | 0,ho =>
    cases ho
    have hb0:=hb
    rcases hb0 with⟨hA,hB,gb⟩ | ⟨b,hA,hB,nb,g11,gb⟩ | ⟨b,t2,hA,hB,nb,hu2,g11,gb⟩
    ·skip
     simp only [↓rA,rB,Nat.reduceAdd,zF,gb,g6]
     exact⟨g2,g3,g4,g6,g9,g10,gr,fun _=>rfl,f1,f2,f3,f4,f5,f6,f7,f8,f9,f12,by first | exact hb | (rw [gb] at hb;exact hb)⟩
    ·simp only [Nb] at nb
     simp only [↓rA,rB,Nat.reduceAdd,zF,gb,g6,nb]
     exact⟨g2,g3,g4,g6,g9,g10,gr,fun _=>rfl,f1,f2,f3,f4,f5,f6,f7,f8,f9,f12,by first | exact hb | (rw [gb] at hb;exact hb)⟩
    ·simp only [Nb] at nb
     simp only [↓rA,rB,Nat.reduceAdd,zF,gb,g6,nb]
     exact⟨g2,g3,g4,g6,g9,g10,gr,fun _=>rfl,f1,f2,f3,f4,f5,f6,f7,f8,f9,f12,by first | exact hb | (rw [gb] at hb;exact hb)⟩
   | 1,ho =>
    cases ho
    have hb0:=hb
    rcases hb0 with⟨hA,hB,gb⟩ | ⟨b,hA,hB,nb,g11,gb⟩ | ⟨b,t2,hA,hB,nb,hu2,g11,gb⟩
    ·skip
     simp only [↓rA,rB,zF,g3]
     exact⟨g2,g3,g4,g6,g9,g10,gr,f0,fun _=>rfl,f2,f3,f4,f5,f6,f7,f8,f9,f12,by first | exact hb | (rw [gb] at hb;exact hb)⟩
    ·simp only [Nb] at nb
     simp only [↓rA,rB,zF,g3]
     exact⟨g2,g3,g4,g6,g9,g10,gr,f0,fun _=>rfl,f2,f3,f4,f5,f6,f7,f8,f9,f12,by first | exact hb | (rw [gb] at hb;exact hb)⟩
    ·simp only [Nb] at nb
     simp only [↓rA,rB,zF,g3]
     exact⟨g2,g3,g4,g6,g9,g10,gr,f0,fun _=>rfl,f2,f3,f4,f5,f6,f7,f8,f9,f12,by first | exact hb | (rw [gb] at hb;exact hb)⟩
   | 2,ho =>
    cases ho
    have q1:=f1 (he ⟨1,.data⟩ (by simp) rfl)
    have hb0:=hb
    rcases hb0 with⟨hA,hB,gb⟩ | ⟨b,hA,hB,nb,g11,gb⟩ | ⟨b,t2,hA,hB,nb,hu2,g11,gb⟩
    ·skip
     simp only [↓rA,rB,zF,gb,hh,q1]
     try simp only [↓rA,rB,qb,qf,Int.reduceEq,Int.reduceLE,Int.reduceLT,Int.reduceToNat,Nat.reduceAdd,Nat.reduceEqDiff,Nat.reduceLT,Nat.reduceLeDiff,Nat.reduceMul,Nat.reduceSub,reduceCtorEq,zF,Tryz.results75,gb,gr,g2,g3,g4,g6,g9,g10,hh,Int.ofNat_lt,hi,List.length_map,q1,qx]
     exact⟨g2,g3,g4,g6,g9,g10,gr,f0,f1,fun _=>rfl,f3,f4,f5,f6,f7,f8,f9,f12,by first | exact hb | (rw [gb] at hb;exact hb)⟩
    ·simp only [Nb] at nb
     simp only [↓rA,rB,zF,gb,hh,q1,nb]
     try simp only [↓rA,rB,qb,qf,Int.reduceEq,Int.reduceLE,Int.reduceLT,Int.reduceToNat,Nat.reduceAdd,Nat.reduceEqDiff,Nat.reduceLT,Nat.reduceLeDiff,Nat.reduceMul,Nat.reduceSub,reduceCtorEq,zF,Tryz.results75,gb,gr,g2,g3,g4,g6,g9,g10,hh,Int.ofNat_lt,hi,List.length_map,q1,nb,g11,qx]
     exact⟨g2,g3,g4,g6,g9,g10,gr,f0,f1,fun _=>rfl,f3,f4,f5,f6,f7,f8,f9,f12,by first | exact hb | (rw [gb] at hb;exact hb)⟩
    ·simp only [Nb] at nb
     simp only [↓rA,rB,zF,gb,hh,q1,nb]
     try simp only [↓rA,rB,qb,qf,Int.reduceEq,Int.reduceLE,Int.reduceLT,Int.reduceToNat,Nat.reduceAdd,Nat.reduceEqDiff,Nat.reduceLT,Nat.reduceLeDiff,Nat.reduceMul,Nat.reduceSub,reduceCtorEq,zF,Tryz.results75,gb,gr,g2,g3,g4,g6,g9,g10,hh,Int.ofNat_lt,hi,List.length_map,q1,nb,g11,qx]
     exact⟨g2,g3,g4,g6,g9,g10,gr,f0,f1,fun _=>rfl,f3,f4,f5,f6,f7,f8,f9,f12,by first | exact hb | (rw [gb] at hb;exact hb)⟩
   | 3,ho =>
    cases ho
    have hb0:=hb
    rcases hb0 with⟨hA,hB,gb⟩ | ⟨b,hA,hB,nb,g11,gb⟩ | ⟨b,t2,hA,hB,nb,hu2,g11,gb⟩
    ·skip
     simp only [↓rA,rB,g10]
     exact⟨g2,g3,g4,g6,g9,g10,gr,f0,f1,f2,fun _=>rfl,f4,f5,f6,f7,f8,f9,f12,by first | exact hb | (rw [gb] at hb;exact hb)⟩
    ·simp only [Nb] at nb
     simp only [↓rA,rB,g10]
     exact⟨g2,g3,g4,g6,g9,g10,gr,f0,f1,f2,fun _=>rfl,f4,f5,f6,f7,f8,f9,f12,by first | exact hb | (rw [gb] at hb;exact hb)⟩
    ·simp only [Nb] at nb
     simp only [↓rA,rB,g10]
     exact⟨g2,g3,g4,g6,g9,g10,gr,f0,f1,f2,fun _=>rfl,f4,f5,f6,f7,f8,f9,f12,by first | exact hb | (rw [gb] at hb;exact hb)⟩
   | 4,ho =>
    cases ho
    have q2:=f2 (he ⟨2,.data⟩ (by simp) rfl)
    have q3:=f3 (he ⟨3,.data⟩ (by simp) rfl)
    have hb0:=hb
    rcases hb0 with⟨hA,hB,gb⟩ | ⟨b,hA,hB,nb,g11,gb⟩ | ⟨b,t2,hA,hB,nb,hu2,g11,gb⟩
    ·skip
     simp only [↓rA,rB,zF,Int.ofNat_lt,hi,List.length_map,q2,q3]
     exact⟨g2,g3,g4,g6,g9,g10,gr,f0,f1,f2,f3,fun _=>rfl,f5,f6,f7,f8,f9,f12,by first | exact hb | (rw [gb] at hb;exact hb)⟩
    ·simp only [Nb] at nb
     simp only [↓rA,rB,zF,Int.ofNat_lt,hi,List.length_map,q2,q3]
     exact⟨g2,g3,g4,g6,g9,g10,gr,f0,f1,f2,f3,fun _=>rfl,f5,f6,f7,f8,f9,f12,by first | exact hb | (rw [gb] at hb;exact hb)⟩
    ·simp only [Nb] at nb
     simp only [↓rA,rB,zF,Int.ofNat_lt,hi,List.length_map,q2,q3]
     exact⟨g2,g3,g4,g6,g9,g10,gr,f0,f1,f2,f3,fun _=>rfl,f5,f6,f7,f8,f9,f12,by first | exact hb | (rw [gb] at hb;exact hb)⟩
   | 5,ho =>
    cases ho
    have q4:=f4 (he ⟨4,.data⟩ (by simp) rfl)
    have hb0:=hb
    rcases hb0 with⟨hA,hB,gb⟩ | ⟨b,hA,hB,nb,g11,gb⟩ | ⟨b,t2,hA,hB,nb,hu2,g11,gb⟩
    ·skip
     simp only [↓rA,rB,zF,q4]
     try simp only [rB,Nat.reduceAdd,qd _ _ _ hi,qx]
     exact⟨g2,g3,g4,g6,g9,g10,gr,f0,f1,f2,f3,f4,fun _=>(congrArg V.agg (qx l[i])).symm,f6,f7,f8,f9,f12,by first | exact hb | (rw [gb] at hb;exact hb)⟩
    ·simp only [Nb] at nb
     simp only [↓rA,rB,zF,q4]
     try simp only [rB,Nat.reduceAdd,qd _ _ _ hi,qx]
     exact⟨g2,g3,g4,g6,g9,g10,gr,f0,f1,f2,f3,f4,fun _=>(congrArg V.agg (qx l[i])).symm,f6,f7,f8,f9,f12,by first | exact hb | (rw [gb] at hb;exact hb)⟩
    ·simp only [Nb] at nb
     simp only [↓rA,rB,zF,q4]
     try simp only [rB,Nat.reduceAdd,qd _ _ _ hi,qx]
     exact⟨g2,g3,g4,g6,g9,g10,gr,f0,f1,f2,f3,f4,fun _=>(congrArg V.agg (qx l[i])).symm,f6,f7,f8,f9,f12,by first | exact hb | (rw [gb] at hb;exact hb)⟩
   | 6,ho =>
    cases ho
    have q0:=f0 (he ⟨0,.data⟩ (by simp) rfl)
    have q5:=f5 (he ⟨5,.data⟩ (by simp) rfl)
    have hb0:=hb
    rcases hb0 with⟨hA,hB,gb⟩ | ⟨b,hA,hB,nb,g11,gb⟩ | ⟨b,t2,hA,hB,nb,hu2,g11,gb⟩
    ·skip
     simp only [↓rA,rB,zF,gb,q0,q5]
     refine qi [] _ (List.Perm.refl _) hq ?_
     rintro v bs rs ⟨⟨t1,n1,rfl,hu1⟩,rfl,rfl⟩
     simp only [↓rA,rB,gr]
     exact⟨g2,g3,g4,g6,g9,g10,rfl,f0,f1,f2,f3,f4,f5,fun _=>⟨t1,n1,hu1,rfl⟩,f7,f8,f9,f12,by first | exact hb | (rw [gb] at hb;exact hb)⟩
    ·simp only [Nb] at nb
     simp only [↓rA,rB,zF,gb,q0,q5]
     refine qi [] _ (List.Perm.refl _) hq ?_
     rintro v bs rs ⟨⟨t1,n1,rfl,hu1⟩,rfl,rfl⟩
     simp only [↓rA,rB,gr]
     exact⟨g2,g3,g4,g6,g9,g10,rfl,f0,f1,f2,f3,f4,f5,fun _=>⟨t1,n1,hu1,rfl⟩,f7,f8,f9,f12,by first | exact hb | (rw [gb] at hb;exact hb)⟩
    ·simp only [Nb] at nb
     simp only [↓rA,rB,zF,gb,q0,q5]
     refine qi [] _ (List.Perm.refl _) hq ?_
     rintro v bs rs ⟨⟨t1,n1,rfl,hu1⟩,rfl,rfl⟩
     simp only [↓rA,rB,gr]
     exact⟨g2,g3,g4,g6,g9,g10,rfl,f0,f1,f2,f3,f4,f5,fun _=>⟨t1,n1,hu1,rfl⟩,f7,f8,f9,f12,by first | exact hb | (rw [gb] at hb;exact hb)⟩
   | 7,ho =>
    cases ho
    obtain⟨t1,n1,hu1,q6⟩:=f6 (he ⟨6,.data⟩ (by simp) rfl)
    have hb0:=hb
    rcases hb0 with⟨hA,hB,gb⟩ | ⟨b,hA,hB,nb,g11,gb⟩ | ⟨b,t2,hA,hB,nb,hu2,g11,gb⟩
    ·skip
     simp only [↓rA,rB,q6]
     exact⟨g2,g3,g4,g6,g9,g10,gr,f0,f1,f2,f3,f4,f5,f6,fun _=>⟨t1,n1,hu1,rfl⟩,f8,f9,f12,by first | exact hb | (rw [gb] at hb;exact hb)⟩
    ·simp only [Nb] at nb
     simp only [↓rA,rB,q6]
     exact⟨g2,g3,g4,g6,g9,g10,gr,f0,f1,f2,f3,f4,f5,f6,fun _=>⟨t1,n1,hu1,rfl⟩,f8,f9,f12,by first | exact hb | (rw [gb] at hb;exact hb)⟩
    ·simp only [Nb] at nb
     simp only [↓rA,rB,q6]
     exact⟨g2,g3,g4,g6,g9,g10,gr,f0,f1,f2,f3,f4,f5,f6,fun _=>⟨t1,n1,hu1,rfl⟩,f8,f9,f12,by first | exact hb | (rw [gb] at hb;exact hb)⟩
   | 8,ho =>
    cases ho
    obtain⟨t1,n1,hu1,q7⟩:=f7 (he ⟨7,.data⟩ (by simp) rfl)
    have hb0:=hb
    rcases hb0 with⟨hA,hB,gb⟩ | ⟨b,hA,hB,nb,g11,gb⟩ | ⟨b,t2,hA,hB,nb,hu2,g11,gb⟩
    ·skip
     simp only [↓rA,rB,q7]
     exact⟨g2,g3,g4,g6,g9,g10,gr,f0,f1,f2,f3,f4,f5,f6,f7,fun _=>⟨t1,hu1,rfl⟩,f9,f12,by first | exact hb | (rw [gb] at hb;exact hb)⟩
    ·simp only [Nb] at nb
     simp only [↓rA,rB,q7]
     exact⟨g2,g3,g4,g6,g9,g10,gr,f0,f1,f2,f3,f4,f5,f6,f7,fun _=>⟨t1,hu1,rfl⟩,f9,f12,by first | exact hb | (rw [gb] at hb;exact hb)⟩
    ·simp only [Nb] at nb
     simp only [↓rA,rB,q7]
     exact⟨g2,g3,g4,g6,g9,g10,gr,f0,f1,f2,f3,f4,f5,f6,f7,fun _=>⟨t1,hu1,rfl⟩,f9,f12,by first | exact hb | (rw [gb] at hb;exact hb)⟩
   | 9,ho =>
    cases ho
    obtain⟨t1,n1,hu1,q7⟩:=f7 (he ⟨7,.data⟩ (by simp) rfl)
    have hb0:=hb
    rcases hb0 with⟨hA,hB,gb⟩ | ⟨b,hA,hB,nb,g11,gb⟩ | ⟨b,t2,hA,hB,nb,hu2,g11,gb⟩
    ·skip
     simp only [↓rA,rB,q7]
     exact⟨g2,g3,g4,g6,g9,g10,gr,f0,f1,f2,f3,f4,f5,f6,f7,f8,fun _=>⟨n1,rfl⟩,f12,by first | exact hb | (rw [gb] at hb;exact hb)⟩
    ·simp only [Nb] at nb
     simp only [↓rA,rB,q7]
     exact⟨g2,g3,g4,g6,g9,g10,gr,f0,f1,f2,f3,f4,f5,f6,f7,f8,fun _=>⟨n1,rfl⟩,f12,by first | exact hb | (rw [gb] at hb;exact hb)⟩
    ·simp only [Nb] at nb
     simp only [↓rA,rB,q7]
     exact⟨g2,g3,g4,g6,g9,g10,gr,f0,f1,f2,f3,f4,f5,f6,f7,f8,fun _=>⟨n1,rfl⟩,f12,by first | exact hb | (rw [gb] at hb;exact hb)⟩
   | 10,ho =>
    cases ho
    have hb0:=hb
    rcases hb0 with⟨hA,hB,gb⟩ | ⟨b,hA,hB,nb,g11,gb⟩ | ⟨b,t2,hA,hB,nb,hu2,g11,gb⟩
    ·skip
     simp only [↓rA,rB,zF,gb,gr]
     refine fun b hbn=>?_;replace hbn:=qn hbn;try simp only [Nb] at hbn
     simp only [↓rA,rB]
     exact⟨g2,g3,g4,g6,g9,g10,gr,f0,f1,f2,f3,f4,f5,f6,f7,f8,f9,f12,.inr (.inl ⟨b,rfl,hB,hbn,rfl,congrArg (_::·) gb⟩)⟩
    ·simp only [Nb] at nb
     rw [hA] at hL;cases hL
    ·simp only [Nb] at nb
     rw [hA] at hL;cases hL
   | 11,ho =>
    cases ho
    obtain⟨t1,hu1,q8⟩:=f8 (he ⟨8,.data⟩ (by simp) rfl)
    have hb0:=hb
    rcases hb0 with⟨hA,hB,gb⟩ | ⟨b,hA,hB,nb,g11,gb⟩ | ⟨b,t2,hA,hB,nb,hu2,g11,gb⟩
    ·skip
     exact absurd (he ⟨10,.data⟩ (by simp) rfl) (by rw [hA];simp)
    ·simp only [Nb] at nb
     simp only [↓rA,rB,Nat.reduceAdd,zF,gb,q8,g11]
     exact⟨g2,g3,g4,g6,g9,g10,gr,f0,f1,f2,f3,f4,f5,f6,f7,f8,f9,f12,.inr (.inr ⟨b,t1,hA,rfl,nb,hu1,g11,rfl⟩)⟩
    ·simp only [Nb] at nb
     rw [hB] at hL;cases hL
   | 12,ho =>
    cases ho
    obtain⟨n1,q9⟩:=f9 (he ⟨9,.data⟩ (by simp) rfl)
    have hb0:=hb
    rcases hb0 with⟨hA,hB,gb⟩ | ⟨b,hA,hB,nb,g11,gb⟩ | ⟨b,t2,hA,hB,nb,hu2,g11,gb⟩
    ·skip
     simp only [↓rA,rB,q9]
     exact⟨g2,g3,g4,g6,g9,g10,gr,f0,f1,f2,f3,f4,f5,f6,f7,f8,f9,fun _=>⟨n1,rfl⟩,by first | exact hb | (rw [gb] at hb;exact hb)⟩
    ·simp only [Nb] at nb
     simp only [↓rA,rB,q9]
     exact⟨g2,g3,g4,g6,g9,g10,gr,f0,f1,f2,f3,f4,f5,f6,f7,f8,f9,fun _=>⟨n1,rfl⟩,by first | exact hb | (rw [gb] at hb;exact hb)⟩
    ·simp only [Nb] at nb
     simp only [↓rA,rB,q9]
     exact⟨g2,g3,g4,g6,g9,g10,gr,f0,f1,f2,f3,f4,f5,f6,f7,f8,f9,fun _=>⟨n1,rfl⟩,by first | exact hb | (rw [gb] at hb;exact hb)⟩
  ·clear gr gb g2 g3 g4 g6 g9 g10
   intro D S hD ⟨g2,g3,g4,g6,g9,g10,gr,f0,f1,f2,f3,f4,f5,f6,f7,f8,f9,f12,hb⟩
   obtain⟨n1,g12⟩:=f12 (hD 12 (by decide))
   rcases hb with⟨hA,hB,gb⟩ | ⟨b,hA,hB,nb,g11,gb⟩ | ⟨b,t2,hA,hB,nb,hu2,g11,gb⟩
   ·rw [hD 10 (by decide)] at hA;cases hA
   ·rw [hD 11 (by decide)] at hB;cases hB
   simp only [Nb] at nb
   simp only [↓rA,rB,g12]
   by_cases n0:n1=0
   ·simp only [↓rA,rB,Nat.reduceAdd,Nat.reduceEqDiff,Nat.reduceLT,Nat.reduceLeDiff,Nat.reduceMul,zF,gb,gr,g9,g11,n0]
    intro y1
    refine xd ?_
    simp only [↓rA,rB,Nat.reduceEqDiff,g10,n0,hl1,hwi,List.length_map]
    refine⟨by omega,fun y2=>?_⟩
    refine⟨bs4 b2 b3 b4 b6 h l c e t c' e' t',[⟨y2,3,43⟩],?_,?_,?_⟩
    ·simp only [rB,gb]
     exact List.sublist_cons_self _ _
    ·exact List.Sublist.cons_cons _ (List.nil_sublist _)
    ·simp only [rB,Nat.reduceEqDiff,g2,g3,g4,g6]
     refine⟨y2,ts++[t2],by simp [hl1],fun z hz=>?_,by simp,rfl⟩
     rcases List.mem_append.1 hz with hz | hz
     ·exact hts z hz
     ·rw [List.mem_singleton.1 hz];exact hu2
   ·simp only [↓rA,rB,qb,Nat.reduceAdd,Nat.reduceEqDiff,zF,gb,gr,g4,g12,hh,nb,n0]
    exact zG _ _ _ _ _
 ·have hq:=VT n c e t h l ins (some y) ts hn hk ht hu p1 (by rw [hl1];exact p3) hts
  simp only [↓rA,rB,Nat.reduceAdd,Nat.reduceEqDiff,zF,gb,g2,g3,g9,g10,hh,Int.ofNat_lt,Nat.lt_irrefl,List.length_map]
  refine qi [] _ (List.Perm.refl _) hq ?_
  rintro v bs rs ⟨⟨t1,n1,rfl,hu1⟩,rfl,rfl⟩
  simp only [↓rA,rB,Nat.reduceAdd,Nat.reduceEqDiff,zF,gr,g4,hh]
  exact zY _ _ _ _ _ _ _ (Le.refl _) hu1
end Go.Proofs.YtohdpcjaoiebkaaGreatDoor
set_option linter.unusedSimpArgs false
set_option maxRecDepth 100000
set_option linter.defProp false
namespace Go.Proofs.YtohdpcjaoiebkaaGreatDoor
open Go.VL Go.Ar Go.Lo Go.Proofs.YtohdpcjaoiebkaaGreatDoor
theorem qC9 (c:Cat) (en:Str):Le (.agg (xz c++[qm en,qm es0,qm es0,nilS,vint 0])) (vSc c en tab0) :=
 yj (.cons (Le.refl _) (.cons (Le.refl _) (.cons (Le.refl _) (.cons (Le.refl _) (.cons (Le.refl _) (.cons (Le.refl _) (.cons (Le.refl _) (.cons (Le.nil 4) (.cons (Le.refl _) .nil)))))))))
theorem qDi:Ks tab0:=⟨by simp [big],fun f hf=>by cases hf⟩
def Yy:=(aI (aI (aI (aI Ty.c39 Ty.c75) (aI Ty.t126 (aI Ty.t128 Ty.t22))) (aI (aI Ty.t23 (aI Ty.t25 Ty.t27)) (aI Ty.t29 (aI Ty.t3 Ty.t35)))) (aI (aI (aI Ty.t36 Ty.t38) (aI Ty.t4 (aI Ty.t40 Ty.t43))) (aI (aI Ty.t45 (aI Ty.t60 Ty.t61)) (aI Ty.t63 (aI Ty.t9 Ty.t95)))))
theorem qlb (n:Nat) (c:Cat) (en:Str) (x:E) (hn:n≤1000000) (hk:Qw n c) (hf:kI x) (hb:qZ x≤big):UA Tryz.prog 40 [wT c,qm en,vE x]:=by
 have hs:=YO x hf hb
 have hq:qY x=0→UA Tryz.prog 75 [vSc c en tab0,vE x]:=fun h=>qrc n hn x false c en tab0 hf (xA h).2.2 hk qDi
 simp only [vE,qx x] at hs hq ⊢
 refine Ok.of_ex Ty.mixed Tryz.func40 rfl (by simp [Tryz.ntmps40]) (by kernel_rfl) fun F w0 I0=>?_
 simp only [↓rA,rB,qf,Nat.reduceLT]
 refine fun b3 h3=>?_;replace h3:=qn h3;try simp only [Nb] at h3
 simp only [↓rA,rB,qf,Nat.reduceEqDiff,Nat.reduceLT]
 refine fun b5 h5=>?_;replace h5:=qn h5;try simp only [Nb] at h5
 simp only [↓rA,rB,Yy]
 refine fun b6 h6=>?_;replace h6:=qn h6;try simp only [Nb] at h6
 have hh:=And.intro h3 (And.intro h5 h6)
 simp only [↓rA,rB,Nat.reduceAdd,Nat.reduceEqDiff,Yy,hh]
 refine qg _ hs ?_
 by_cases h0:qY x=0
 case neg =>
  simp only [↓rA,rB,qb,Nat.reduceAdd,Nat.reduceEqDiff,Yy,Tryz.results40,h0]
  exact zG _ _ _ _ _
 simp only [↓rA,rB,qb,Nat.reduceAdd,Nat.reduceEqDiff,Nat.reduceLeDiff,Yy,hh,h0]
 refine fun b9 h9=>?_;replace h9:=qn h9;try simp only [Nb] at h9
 have hh:=And.intro hh h9
 simp only [↓rA,rB,Nat.reduceAdd,Nat.reduceEqDiff,Yy,hh]
 refine qi [] _ (List.Perm.refl _) (Ok.le (.cons (qC9 c en) (.cons (Le.refl _) .nil)) (hq h0)) ?_
 rintro v bs rs ⟨⟨t1,n1,rfl,hu1⟩,rfl,rfl⟩
 simp only [↓rA,rB,Nat.reduceAdd,Nat.reduceEqDiff,Yy,Tryz.results40,hh]
 exact zY _ _ _ _ _ _ _ (Le.refl _) hu1
def Zn:=(aI (aI (aI (aI Ty.c37 Ty.c38) (aI Ty.c40 (aI Ty.c41 Ty.t126))) (aI (aI Ty.t22 (aI Ty.t23 Ty.t25)) (aI Ty.t27 (aI Ty.t29 Ty.t3)))) (aI (aI (aI Ty.t35 (aI Ty.t36 Ty.t38)) (aI Ty.t4 (aI Ty.t40 Ty.t43))) (aI (aI Ty.t45 (aI Ty.t60 Ty.t61)) (aI Ty.t63 (aI Ty.t9 Ty.t95)))))
theorem qcn (n:Nat) (c:Cat) (f:Ftr) (hn:n≤1000000) (hk:Qw n c) (hf:qdv f) (hb:qZ f.body≤big):OkI Tryz.prog 19 [wT c,.agg (uN f)]:=by
 have hq:=qlb n c f.entity f.body hn hk hf.2 hb
 simp only [vE,qx f.body,qW] at hq ⊢
 refine Ok.of_ex Ty.mixed Tryz.func19 rfl (by simp [Tryz.ntmps19]) (by kernel_rfl) fun F w0 I0=>?_
 simp only [↓rA,rB,qf,Nat.reduceLT]
 refine fun b2 h2=>?_;replace h2:=qn h2;try simp only [Nb] at h2
 simp only [↓rA,rB,qf,Nat.reduceEqDiff,Nat.reduceLT]
 refine fun b3 h3=>?_;replace h3:=qn h3;try simp only [Nb] at h3
 have hh:=And.intro h2 h3
 simp only [↓rA,rB,Nat.reduceAdd,Nat.reduceEqDiff,Zn]
 repeat' (first
  | (refine qe (fun hc=>?_) (fun hc=>?_) <;> (first | (subst hc;try simp only [↓rA,rB,qb,qf,Int.reduceEq,Int.reduceLE,Int.reduceLT,Int.reduceToNat,Nat.reduceAdd,Nat.reduceEqDiff,Nat.reduceLT,Nat.reduceLeDiff,Nat.reduceMul,Nat.reduceSub,reduceCtorEq,Zn,Tryz.results19,hh]) | (try simp only [↓rA,rB,Nat.reduceAdd,Nat.reduceEqDiff,Nat.reduceLeDiff,Zn,Tryz.results19,hh,hc])))
  | (refine qr (fun hc=>?_) (fun hc=>?_) <;> (first | (subst hc;try simp only [↓rA,rB,qb,qf,Int.reduceEq,Int.reduceLE,Int.reduceLT,Int.reduceToNat,Nat.reduceAdd,Nat.reduceEqDiff,Nat.reduceLT,Nat.reduceLeDiff,Nat.reduceMul,Nat.reduceSub,reduceCtorEq,Zn,Tryz.results19,hh]) | (try simp only [↓rA,rB,qb,qf,Int.reduceEq,Int.reduceLE,Int.reduceLT,Int.reduceToNat,Nat.reduceAdd,Nat.reduceEqDiff,Nat.reduceLT,Nat.reduceLeDiff,Nat.reduceMul,Nat.reduceSub,reduceCtorEq,Zn,Tryz.results19,hh,hc])))
  | (refine qq (fun hc=>?_) (fun hc=>?_) <;> (first | (subst hc;try simp only [↓rA,rB,qb,qf,Int.reduceEq,Int.reduceLE,Int.reduceLT,Int.reduceToNat,Nat.reduceAdd,Nat.reduceEqDiff,Nat.reduceLT,Nat.reduceLeDiff,Nat.reduceMul,Nat.reduceSub,reduceCtorEq,Zn,Tryz.results19,hh]) | (try simp only [↓rA,rB,Nat.reduceAdd,Nat.reduceEqDiff,Zn,Tryz.results19,hc])))
  | (refine qg _ (zJ _) ?_;try simp only [↓rA,rB,Nat.reduceEqDiff])
  | (refine qg _ (Zd _ _ _) ?_;try simp only [↓rA,rB])
  | exact ZN _ _ _
  | (refine qi [] _ (List.Perm.refl _) hq ?_;rintro v bs rs ⟨⟨t1,n1,rfl,hu1⟩,rfl,rfl⟩;try simp only [↓rA,rB,Nat.reduceEqDiff,Zn])
  | (refine fun b6 h6=>?_;replace h6:=qn h6;simp only [Nb] at h6;have hh:=And.intro hh h6;try simp only [↓rA,rB,Nat.reduceAdd,Nat.reduceEqDiff,Zn])
  | (refine qi [] _ (List.Perm.refl _) (Uo _ _ (by assumption)) ?_;rintro v bs rs ⟨⟨k1,rfl⟩,rfl,rfl⟩;try simp only [↓rA,rB,Tryz.results19]))
end Go.Proofs.YtohdpcjaoiebkaaGreatDoor
set_option linter.unusedSimpArgs false
set_option maxRecDepth 100000
set_option linter.defProp false
namespace Go.Proofs.YtohdpcjaoiebkaaGreatDoor
open Go.VL Go.Ar Go.Lo Go.Proofs.YtohdpcjaoiebkaaGreatDoor
def xT:=(aI (aI (aI Ty.c37 (aI Ty.c38 Ty.t126)) (aI Ty.t27 (aI Ty.t3 Ty.t36))) (aI (aI Ty.t4 (aI Ty.t43 Ty.t60)) (aI Ty.t61 (aI Ty.t63 Ty.t9))))
theorem qjn (t:Tab):OkI Tryz.prog 36 [.agg (Xu t)]:=by
 refine Ok.of_ex Ty.mixed Tryz.func36 rfl (by simp [Tryz.ntmps36]) (by kernel_rfl) fun F w0 I0=>?_
 simp only [↓rA,rB,qf,Nat.reduceLT]
 refine fun b1 h1=>?_;replace h1:=qn h1;try simp only [Nb] at h1
 simp only [↓zA,↓xm,↓kp,xy,qs,wh,List.toList_toArray,Tryz.results36]
 rw [z6]
 by_cases h8:(8:Int) < t.fields.length
 ·simp only [↓rA,rB,Nat.reduceAdd,Nat.reduceEqDiff,xT]
  repeat' (first
   | (refine qe (fun hc=>?_) (fun hc=>?_) <;> (first | (subst hc;try simp only [↓rA,rB,qb,qf,Int.reduceEq,Int.reduceLE,Int.reduceLT,Int.reduceToNat,Nat.reduceAdd,Nat.reduceEqDiff,Nat.reduceLT,Nat.reduceLeDiff,Nat.reduceMul,Nat.reduceSub,reduceCtorEq,xT,Tryz.results36,h1,h8,List.length_map]) | (try simp only [↓rA,rB,Nat.reduceAdd,Nat.reduceEqDiff,xT,h8,List.length_map,hc])))
   | (refine qr (fun hc=>?_) (fun hc=>?_) <;> (first | (subst hc;try simp only [↓rA,rB,qb,qf,Int.reduceEq,Int.reduceLE,Int.reduceLT,Int.reduceToNat,Nat.reduceAdd,Nat.reduceEqDiff,Nat.reduceLT,Nat.reduceLeDiff,Nat.reduceMul,Nat.reduceSub,reduceCtorEq,xT,Tryz.results36,h1,h8,List.length_map]) | (try simp only [↓rA,rB,qb,qf,Int.reduceEq,Int.reduceLE,Int.reduceLT,Int.reduceToNat,Nat.reduceAdd,Nat.reduceEqDiff,Nat.reduceLT,Nat.reduceLeDiff,Nat.reduceMul,Nat.reduceSub,reduceCtorEq,xT,Tryz.results36,h1,h8,List.length_map,hc])))
   | (refine qq (fun hc=>?_) (fun hc=>?_) <;> (first | (subst hc;try simp only [↓rA,rB,qb,qf,Int.reduceEq,Int.reduceLE,Int.reduceLT,Int.reduceToNat,Nat.reduceAdd,Nat.reduceEqDiff,Nat.reduceLT,Nat.reduceLeDiff,Nat.reduceMul,Nat.reduceSub,reduceCtorEq,xT,Tryz.results36,h1,h8,List.length_map]) | (try simp only [↓rA,rB,Nat.reduceAdd,Nat.reduceEqDiff,xT,hc])))
   | (refine qg _ (zJ _) ?_;try simp only [↓rA,rB,Nat.reduceEqDiff])
   | exact ZN _ _ _)
 have hl:t.fields.length≤8:=by omega
 rw [← z6]
 by_cases q1:qP t.name=true
 case neg =>
  have q1:qP t.name=false:=by simpa using q1
  simp only [↓rA,rB,Nat.reduceAdd,Nat.reduceEqDiff,xT]
  refine qg _ (zJ _) ?_
  simp only [↓rA,rB,Nat.reduceEqDiff,q1]
  exact ZN _ _ _
 by_cases q2:qP t.entity=true
 case neg =>
  have q2:qP t.entity=false:=by simpa using q2
  simp only [↓rA,rB,Nat.reduceAdd,Nat.reduceEqDiff,xT]
  refine qg _ (zJ _) ?_
  simp only [↓rA,rB,Nat.reduceAdd,Nat.reduceEqDiff,xT,q1]
  refine qg _ (zJ _) ?_
  simp only [↓rA,rB,Nat.reduceEqDiff,q2]
  exact ZN _ _ _
 by_cases q3:t.keep < 0
 ·simp only [↓rA,rB,Nat.reduceAdd,Nat.reduceEqDiff,xT]
  refine qg _ (zJ _) ?_
  simp only [↓rA,rB,Nat.reduceAdd,Nat.reduceEqDiff,xT,q1]
  refine qg _ (zJ _) ?_
  simp only [↓rA,rB,Nat.reduceAdd,Nat.reduceEqDiff,xT,q2,q3]
  exact ZN _ _ _
 by_cases q4:1099511627776 < t.keep
 ·simp only [↓rA,rB,Nat.reduceAdd,Nat.reduceEqDiff,xT]
  refine qg _ (zJ _) ?_
  simp only [↓rA,rB,Nat.reduceAdd,Nat.reduceEqDiff,xT,q1]
  refine qg _ (zJ _) ?_
  simp only [↓rA,rB,Nat.reduceAdd,Nat.reduceEqDiff,xT,q2,q3,q4]
  exact ZN _ _ _
 simp only [↓rA,rB,Nat.reduceAdd,Nat.reduceEqDiff,xT]
 refine qg _ (zJ _) ?_
 simp only [↓rA,rB,Nat.reduceAdd,Nat.reduceEqDiff,xT,q1]
 refine qg _ (zJ _) ?_
 simp only [↓rA,rB,Nat.reduceAdd,Nat.reduceEqDiff,xT,q2,q3,q4,h8,List.length_map]
 refine qB Ty.mixed (by kernel_rfl) t.fields.length (fun i S=>S.boxes=[(b1,.c (Xu t))]∧S.rows=[]∧S.σ 1=ptr b1∧S.σ 3=vint i) ⟨0,?_⟩ (fun i S hi ⟨gb,gr,g1,g3⟩=>?_) (fun S ⟨gb,gr,g1,g3⟩=>?_)
 ·simp only [rB,Nat.reduceEqDiff]
  try exact rfl
 ·have hwi:=qk (i:=i) (N:=t.fields.length) hi (by omega)
  simp only [↓rA,rB,Nat.reduceAdd,Nat.reduceEqDiff,xT,gb,g1,g3,Int.ofNat_lt,hi,List.length_map,qd _ _ _ hi]
  refine qg _ (zJ _) ?_
  simp only [↓rA,rB,gr]
  refine qe (fun hc=>?_) (fun hc=>?_)
  ·simp only [↓rA,rB,gr]
   exact ZN _ _ _
  simp only [↓rA,rB,gr]
  refine qB Ty.mixed (by kernel_rfl) i (fun j S=>S.boxes=[(b1,.c (Xu t))]∧S.rows=[]∧S.σ 1=ptr b1∧S.σ 3=vint i∧S.σ 4=vint j) ⟨0,?_⟩ (fun j S hj ⟨gb,gr,g1,g3,g4⟩=>?_) (fun S ⟨gb,gr,g1,g3,g4⟩=>?_)
  ·simp only [rB,Nat.reduceEqDiff,g1,g3]
   try exact rfl
  ·have hwj:=qk (i:=j) (N:=i) hj (by omega)
   have hjl:j < t.fields.length:=Nat.lt_trans hj hi
   simp only [↓rA,rB,Nat.reduceAdd,Nat.reduceEqDiff,xT,gb,g1,g3,g4,Int.ofNat_lt,hi,hj,hjl,List.length_map,qd _ _ _ hi,qd _ _ _ hjl]
   refine qe (fun hc=>?_) (fun hc=>?_)
   ·simp only [↓rA,rB,gb,gr]
    exact ZN _ _ _
   ·simp only [↓rA,rB,Nat.reduceEqDiff,gb,gr,g1,g3,g4,hwj]
    first | exact⟨0,rfl⟩ | exact⟨0,trivial⟩
  ·simp only [↓rA,rB,Nat.reduceAdd,Nat.reduceEqDiff,xT,gb,g1,g3,g4,Int.ofNat_lt,hi,Nat.lt_irrefl,List.length_map,qd _ _ _ hi]
   refine qg _ (Zd _ _ _) ?_
   simp only [↓rA,rB,gr]
   refine qe (fun hc=>?_) (fun hc=>?_)
   ·simp only [↓rA,rB,Nat.reduceEqDiff,gr]
    exact ZN _ _ _
   ·simp only [↓rA,rB,Nat.reduceEqDiff,gr,g1,g3,hwi]
    first | exact⟨0,rfl⟩ | exact⟨0,trivial⟩
 ·simp only [↓rA,rB,Nat.reduceAdd,Nat.reduceEqDiff,xT,gb,gr,g1,g3,Int.ofNat_lt,Nat.lt_irrefl,List.length_map]
  exact ZN _ _ _
def qxw:=(aI (aI Ty.t3 Ty.t4) (aI Ty.t69 Ty.t9))
theorem qvl (l:List Str) (s:Str) (hl:l.length≤1000000000):OkB Tryz.prog 78 [.list none 1 (l.map fun s=>[qm s]),qm s]:=by
 refine Ok.of_ex Ty.mixed Tryz.func78 rfl (by simp [Tryz.ntmps78]) (by kernel_rfl) fun F w0 I0=>?_
 simp only [↓rA,rB,Tryz.results78]
 refine qB Ty.mixed (by kernel_rfl) l.length (fun i S=>S.boxes=[]∧S.rows=[]∧S.σ 0=.list none 1 (l.map fun s=>[qm s])∧S.σ 1=qm s∧S.σ 5=vint i) ⟨0,?_⟩ (fun i S hi ⟨gb,gr,g0,g1,g5⟩=>?_) (fun S ⟨gb,gr,g0,g1,g5⟩=>?_)
 ·simp only [rB,Nat.reduceEqDiff,reduceCtorEq]
  try exact rfl
 ·have hwi:=qk (i:=i) (N:=l.length) hi (by omega)
  simp only [↓rA,rB,Nat.reduceEqDiff,reduceCtorEq,qxw,g0,g1,g5,Int.ofNat_lt,hi,List.length_map,qd _ _ _ hi]
  refine qe (fun hc=>?_) (fun hc=>?_)
  ·simp only [↓rA,rB,gb,gr]
   exact⟨_,[],[],Le.refl _,List.nil_sublist _,List.nil_sublist _,⟨true,rfl⟩,rfl,rfl⟩
  ·simp only [↓rA,rB,Nat.reduceEqDiff,reduceCtorEq,gb,gr,g0,g1,g5,hwi]
   first | exact⟨0,rfl⟩ | exact⟨0,trivial⟩
 ·simp only [↓rA,rB,Nat.reduceEqDiff,reduceCtorEq,qxw,gb,gr,g0,g5,Int.ofNat_lt,Nat.lt_irrefl,List.length_map]
  exact⟨_,[],[],Le.refl _,List.nil_sublist _,List.nil_sublist _,⟨false,rfl⟩,rfl,rfl⟩
end Go.Proofs.YtohdpcjaoiebkaaGreatDoor
set_option linter.unusedSimpArgs false
set_option maxRecDepth 100000
set_option linter.defProp false
namespace Go.Proofs.YtohdpcjaoiebkaaGreatDoor
open Go.VL Go.Ar Go.Lo Go.Proofs.YtohdpcjaoiebkaaGreatDoor
abbrev Xe (l:List Str):V:=.list none 1 (l.map fun s=>[qm s])
def XQ:=(aI (aI Ty.t3 Ty.t4) (aI Ty.t69 Ty.t9))
theorem Wo (l:List Str) (s:Str) (hl:l.length≤1000000000):Ok Tryz.prog 114 [Xe l,qm s] [] fun v bs rs=>(∃ l':List Str,l'.length≤l.length+1∧v=Xe l')∧bs=[]∧rs=[]:=by
 refine Ok.of_ex Ty.mixed Tryz.func114 rfl (by simp [Tryz.ntmps114]) (by kernel_rfl) fun F w0 I0=>?_
 simp only [↓rA,rB,Tryz.results114]
 refine jf Ty.mixed (by kernel_rfl) (fun j=>l.length - j) (fun j S=>j≤l.length∧S.boxes=[]∧S.rows=[]∧S.σ 0=Xe l∧S.σ 1=qm s∧S.σ 5=vint j) 0 ⟨0,?_⟩ fun j S ⟨hj,gb,gr,g0,g1,g5⟩=>?_
 ·simp only [rB,Nat.reduceEqDiff,reduceCtorEq]
  first | done | exact⟨Nat.zero_le _,rfl⟩
 ·by_cases hjl:j < l.length
  ·have hwj:=qk hjl (show l.length≤9223372036854775807 by omega)
   cases hc:Op.bytesLess l[j].data.toList s.data.toList
   ·by_cases he:l[j]=s
    ·have hc':Op.bytesLess s.data.toList s.data.toList=false:=he▸hc
     simp only [↓rA,rB,Nat.reduceEqDiff,reduceCtorEq,XQ,gb,gr,g0,g1,g5,Int.ofNat_lt,hjl,List.length_map,qd _ _ _ hjl,hc',he]
     exact⟨_,[],[],Le.refl _,List.nil_sublist _,List.nil_sublist _,⟨l,Nat.le_succ _,rfl⟩,rfl,rfl⟩
    ·simp only [↓rA,rB,Nat.reduceEqDiff,reduceCtorEq,XQ,g0,g1,g5,Int.ofNat_lt,hjl,List.length_map,qd _ _ _ hjl,hc,he]
     have hk:(j:Int)≤l.length:=by omega
     have q1:(List.take j (l.map fun s=>[qm s])).length=j:=by rw [List.length_take,List.length_map];omega
     have q2:(List.drop j (l.map fun s=>[qm s])).length=l.length - j:=by rw [List.length_drop,List.length_map]
     refine XB.l ?_
     simp only [↓rA,rB,Nat.reduceEqDiff,Nat.reduceLT,Nat.reduceLeDiff,Nat.reduceMul,reduceCtorEq,XQ,gr,g0,g1,g5,hj,List.length_map]
     intro y1
     refine⟨by rw [q1];omega,fun y2 y3=>xd ?_⟩
     simp only [↓rA,rB,Nat.reduceEqDiff,Nat.reduceLT,reduceCtorEq,XQ,g0,g5,hj,List.length_map,q1]
     refine⟨by omega,fun y4=>Zq ?_⟩
     simp only [↓rA,rB,gb,List.length_map,q1,q2,List.length_append]
     refine⟨by omega,fun y5=>⟨_,[],[],?_,List.nil_sublist _,List.nil_sublist _,⟨l.take j++(s::l.drop j),by simp;omega,rfl⟩,rfl,rfl⟩⟩
     rw [Xe,List.map_append,List.map_cons,List.map_take,List.map_drop]
     refine fun w I x hx=>?_
     have:=Le.list _ _ _ w I x hx
     rwa [List.append_assoc] at this
   ·simp only [↓rA,rB,Nat.reduceEqDiff,reduceCtorEq,XQ,gb,gr,g0,g1,g5,Int.ofNat_lt,hjl,List.length_map,qd _ _ _ hjl,hc,hwj]
    exact⟨j+1,by omega,0,by omega,rfl⟩
  ·simp only [↓rA,rB,Nat.reduceEqDiff,reduceCtorEq,XQ,g0,g5,Int.ofNat_lt,hjl,List.length_map]
   have hk:(j:Int)≤l.length:=by omega
   have q1:(List.take j (l.map fun s=>[qm s])).length=j:=by rw [List.length_take,List.length_map];omega
   have q2:(List.drop j (l.map fun s=>[qm s])).length=l.length - j:=by rw [List.length_drop,List.length_map]
   refine XB.l ?_
   simp only [↓rA,rB,Nat.reduceEqDiff,Nat.reduceLT,Nat.reduceLeDiff,Nat.reduceMul,reduceCtorEq,XQ,gr,g0,g1,g5,hj,List.length_map]
   intro y1
   refine⟨by rw [q1];omega,fun y2 y3=>xd ?_⟩
   simp only [↓rA,rB,Nat.reduceEqDiff,Nat.reduceLT,reduceCtorEq,XQ,g0,g5,hj,List.length_map,q1]
   refine⟨by omega,fun y4=>Zq ?_⟩
   simp only [↓rA,rB,gb,List.length_map,q1,q2,List.length_append]
   refine⟨by omega,fun y5=>⟨_,[],[],?_,List.nil_sublist _,List.nil_sublist _,⟨l.take j++(s::l.drop j),by simp;omega,rfl⟩,rfl,rfl⟩⟩
   rw [Xe,List.map_append,List.map_cons,List.map_take,List.map_drop]
   refine fun w I x hx=>?_
   have:=Le.list _ _ _ w I x hx
   rwa [List.append_assoc] at this
theorem vl {l:List E} {x:E} (h:x ∈ l):zj x≤sizeEs l:=by
 induction l with
 | nil=>cases h
 | cons a r ih =>
  simp only [sizeEs]
  rcases List.mem_cons.1 h with rfl | h
  ·omega
  ·have:=ih h;omega
def jo:=(aI (aI (aI Ty.c114 (aI Ty.c116 Ty.t126)) (aI Ty.t29 (aI Ty.t3 Ty.t35))) (aI (aI Ty.t36 (aI Ty.t38 Ty.t4)) (aI (aI Ty.t40 Ty.t69) (aI Ty.t87 Ty.t9))))
theorem qcu:∀ x:E,∀ (a b:List Str),kI x→a.length+zj x≤100000000→b.length+zj x≤100000000→Ok Tryz.prog 116 [vE x,Xe a,Xe b] [] fun v bs rs=>(∃ a' b':List Str,a'.length≤a.length+zj x∧b'.length≤b.length+zj x∧v=.tup [Xe a',Xe b'])∧bs=[]∧rs=[]:=by
 intro x
 induction x using E.ind with
 | h h l ih =>
 intro a b hf ha hb
 have hl:=hf.len
 have hfa:=hf.args
 simp only [E.args,big] at hl hfa
 rw [qR] at ha hb ⊢
 rw [vE,zq]
 refine Ok.of_ex Ty.mixed Tryz.func116 rfl (by simp [Tryz.ntmps116]) (by kernel_rfl) fun F w0 I0=>?_
 simp only [↓rA,rB,qf,Nat.reduceLT]
 refine fun b3 h3=>?_;replace h3:=qn h3;try simp only [Nb] at h3
 simp only [↓zA,↓xm,↓kp,xy,qs,wh,List.toList_toArray,Tryz.results116]
 rw [z6]
 refine kz (fun S=>(∃ a',a'.length≤a.length+1∧S.σ 1=Xe a')∧S.boxes=[(b3,.c (cH h (zD l)))]∧S.rows=[]∧S.σ 2=Xe b∧S.σ 3=ptr b3) ?_ ?_
 ·simp only [↓rA,rB,Nat.reduceAdd,Nat.reduceEqDiff,jo]
  repeat' (first
   | (refine qe (fun hc=>?_) (fun hc=>?_) <;> (first | (subst hc;try simp only [↓rA,rB,qb,qf,Int.reduceEq,Int.reduceLE,Int.reduceLT,Int.reduceToNat,Nat.reduceAdd,Nat.reduceEqDiff,Nat.reduceLT,Nat.reduceLeDiff,Nat.reduceMul,Nat.reduceSub,reduceCtorEq,jo,Tryz.results116,h3]) | (try simp only [↓rA,rB,Nat.reduceAdd,Nat.reduceEqDiff,jo,hc])))
   | (refine qr (fun hc=>?_) (fun hc=>?_) <;> (first | (subst hc;try simp only [↓rA,rB,qb,qf,Int.reduceEq,Int.reduceLE,Int.reduceLT,Int.reduceToNat,Nat.reduceAdd,Nat.reduceEqDiff,Nat.reduceLT,Nat.reduceLeDiff,Nat.reduceMul,Nat.reduceSub,reduceCtorEq,jo,Tryz.results116,h3]) | (try simp only [↓rA,rB,qb,qf,Int.reduceEq,Int.reduceLE,Int.reduceLT,Int.reduceToNat,Nat.reduceAdd,Nat.reduceEqDiff,Nat.reduceLT,Nat.reduceLeDiff,Nat.reduceMul,Nat.reduceSub,reduceCtorEq,jo,Tryz.results116,h3,hc])))
   | (refine qq (fun hc=>?_) (fun hc=>?_) <;> (first | (subst hc;try simp only [↓rA,rB,qb,qf,Int.reduceEq,Int.reduceLE,Int.reduceLT,Int.reduceToNat,Nat.reduceAdd,Nat.reduceEqDiff,Nat.reduceLT,Nat.reduceLeDiff,Nat.reduceMul,Nat.reduceSub,reduceCtorEq,jo,Tryz.results116,h3]) | (try simp only [↓rA,rB,Nat.reduceAdd,Nat.reduceEqDiff,jo,hc])))
   | exact⟨a,Nat.le_succ _,rfl⟩
   | (refine qi [] _ (List.Perm.refl _) (Wo a h.name (by omega)) ?_;rintro v bs rs ⟨⟨l',hl',rfl⟩,rfl,rfl⟩;try simp only [↓rA,rB,Nat.reduceEqDiff])
   | exact⟨_,by assumption,rfl⟩)
 rintro S ⟨⟨a',ha',g1⟩,gb,gr,g2,g3⟩
 rw [z6]
 refine kz (fun S=>(∃ b',b'.length≤b.length+1∧S.σ 2=Xe b')∧S.boxes=[(b3,.c (cH h (zD l)))]∧S.rows=[]∧S.σ 1=Xe a'∧S.σ 3=ptr b3) ?_ ?_
 ·simp only [↓rA,rB,Nat.reduceAdd,jo,gb,g3]
  repeat' (first
   | (refine qe (fun hc=>?_) (fun hc=>?_) <;> (first | (subst hc;try simp only [↓rA,rB,qb,qf,Int.reduceEq,Int.reduceLE,Int.reduceLT,Int.reduceToNat,Nat.reduceAdd,Nat.reduceEqDiff,Nat.reduceLT,Nat.reduceLeDiff,Nat.reduceMul,Nat.reduceSub,reduceCtorEq,jo,Tryz.results116,gb,gr,g1,g2,g3,h3]) | (try simp only [↓rA,rB,Nat.reduceAdd,Nat.reduceEqDiff,jo,gb,gr,g1,g2,g3,hc])))
   | (refine qr (fun hc=>?_) (fun hc=>?_) <;> (first | (subst hc;try simp only [↓rA,rB,qb,qf,Int.reduceEq,Int.reduceLE,Int.reduceLT,Int.reduceToNat,Nat.reduceAdd,Nat.reduceEqDiff,Nat.reduceLT,Nat.reduceLeDiff,Nat.reduceMul,Nat.reduceSub,reduceCtorEq,jo,Tryz.results116,gb,gr,g1,g2,g3,h3]) | (try simp only [↓rA,rB,qb,qf,Int.reduceEq,Int.reduceLE,Int.reduceLT,Int.reduceToNat,Nat.reduceAdd,Nat.reduceEqDiff,Nat.reduceLT,Nat.reduceLeDiff,Nat.reduceMul,Nat.reduceSub,reduceCtorEq,jo,Tryz.results116,gb,gr,g1,g2,g3,h3,hc])))
   | (refine qq (fun hc=>?_) (fun hc=>?_) <;> (first | (subst hc;try simp only [↓rA,rB,qb,qf,Int.reduceEq,Int.reduceLE,Int.reduceLT,Int.reduceToNat,Nat.reduceAdd,Nat.reduceEqDiff,Nat.reduceLT,Nat.reduceLeDiff,Nat.reduceMul,Nat.reduceSub,reduceCtorEq,jo,Tryz.results116,gb,gr,g1,g2,g3,h3]) | (try simp only [↓rA,rB,qb,qf,Int.reduceEq,Int.reduceLE,Int.reduceLT,Int.reduceToNat,Nat.reduceAdd,Nat.reduceEqDiff,Nat.reduceLT,Nat.reduceLeDiff,Nat.reduceMul,Nat.reduceSub,reduceCtorEq,jo,Tryz.results116,gb,gr,g1,g2,g3,h3,hc])))
   | exact⟨b,Nat.le_succ _,rfl⟩
   | (refine qi [] _ (List.Perm.refl _) (Wo b h.table (by omega)) ?_;rintro v bs rs ⟨⟨l',hl',rfl⟩,rfl,rfl⟩;try simp only [↓rA,rB,Nat.reduceEqDiff,gr,g1,g3])
   | exact⟨_,by assumption,rfl⟩)
 clear gb gr g1 g2 g3 S
 rintro S ⟨⟨b',hb',g2⟩,gb,gr,g1,g3⟩
 simp only [↓rA,rB]
 refine qB Ty.mixed (by kernel_rfl) l.length (fun i S=>(∃ a' b':List Str,a'.length≤a.length+1+sizeEs (l.take i)∧b'.length≤b.length+1+sizeEs (l.take i)∧S.σ 1=Xe a'∧S.σ 2=Xe b')∧S.boxes=[(b3,.c (cH h (zD l)))]∧S.rows=[]∧S.σ 3=ptr b3∧S.σ 8=vint i) ⟨0,?_⟩ (fun i S hi ⟨⟨a1,b1,ha1,hb1,g1,g2⟩,gb,gr,g3,g8⟩=>?_) (fun S ⟨⟨a1,b1,ha1,hb1,g1,g2⟩,gb,gr,g3,g8⟩=>?_)
 ·simp only [rB,Nat.reduceEqDiff,gb,gr,g1,g2,g3]
  exact⟨a',b',by omega,by omega,rfl,rfl⟩
 ·have hwi:=qk (i:=i) (N:=l.length) hi (by omega)
  have hx:=List.getElem_mem hi
  have hsz:sizeEs (l.take (i+1))=sizeEs (l.take i)+zj l[i]:=by
   rw [List.take_succ_eq_append_getElem hi,z8];simp only [sizeEs];omega
  have hle:sizeEs (l.take (i+1))≤sizeEs l:=by
   have:=z8 (l.take (i+1)) (l.drop (i+1))
   rw [List.take_append_drop] at this
   omega
  have hq:=ih l[i] hx a1 b1 (hfa _ hx) (by omega) (by omega)
  rw [vE,qx] at hq
  simp only [↓rA,rB,Nat.reduceAdd,Nat.reduceEqDiff,jo,gb,g1,g2,g3,g8,Int.ofNat_lt,hi,List.length_map,qd _ _ _ hi,qx]
  refine qi [] _ (List.Perm.refl _) hq ?_
  rintro v bs rs ⟨⟨a2,b2,ha2,hb2,rfl⟩,rfl,rfl⟩
  simp only [↓rA,rB,Nat.reduceEqDiff,gr,g3,g8,hwi]
  refine⟨0,⟨a2,b2,by omega,by omega,rfl,rfl⟩,?_⟩
  first | rfl | exact⟨rfl,rfl⟩
 ·rw [List.take_of_length_le (Nat.le_refl _)] at ha1 hb1
  simp only [↓rA,rB,Nat.reduceAdd,Nat.reduceEqDiff,jo,gb,gr,g1,g2,g3,g8,Int.ofNat_lt,Nat.lt_irrefl,List.length_map]
  exact⟨_,[],[],Le.refl _,List.nil_sublist _,List.nil_sublist _,⟨a1,b1,by omega,by omega,rfl⟩,rfl,rfl⟩
def qxv:=(aI (aI (aI (aI Ty.c114 Ty.t126) (aI Ty.t22 Ty.t23)) (aI (aI Ty.t25 Ty.t29) (aI Ty.t3 (aI Ty.t35 Ty.t36)))) (aI (aI (aI Ty.t38 Ty.t4) (aI Ty.t40 (aI Ty.t43 Ty.t45))) (aI (aI Ty.t60 Ty.t61) (aI Ty.t63 (aI Ty.t69 Ty.t9)))))
theorem qfi (c:Cat) (hl:c.features.length≤1000000):Ok Tryz.prog 76 [wT c] [] fun v bs rs=>(∃ l:List Str,l.length≤1000000∧v=Xe l)∧bs=[]∧rs=[]:=by
 refine Ok.of_ex Ty.mixed Tryz.func76 rfl (by simp [Tryz.ntmps76]) (by kernel_rfl) fun F w0 I0=>?_
 simp only [↓rA,rB,qf,Nat.reduceLT]
 refine fun b1 h1=>?_;replace h1:=qn h1;try simp only [Nb] at h1
 simp only [↓rA,rB,Tryz.results76]
 refine qB Ty.mixed (by kernel_rfl) c.features.length (fun i S=>(∃ (l:List Str) (u:V),l.length≤i∧Le u (Xe l)∧S.σ 3=u)∧S.boxes=[(b1,.c (xz c))]∧S.rows=[]∧S.σ 1=ptr b1∧S.σ 4=vint i) ⟨0,?_⟩ (fun i S hi ⟨⟨l,u,hli,hu,g3⟩,gb,gr,g1,g4⟩=>?_) (fun S ⟨⟨l,u,hli,hu,g3⟩,gb,gr,g1,g4⟩=>?_)
 ·simp only [rB,Nat.reduceEqDiff]
  exact⟨[],nilS,Nat.le_refl _,Le.nil 1,rfl⟩
 ·have hwi:=qk (i:=i) (N:=c.features.length) hi (by omega)
  simp only [↓rA,rB,Nat.reduceAdd,Nat.reduceEqDiff,qxv,gb,g1,g3,g4,Int.ofNat_lt,hi,List.length_map,qd _ _ _ hi,qW]
  refine qi [] _ (List.Perm.refl _) (Ok.le (.cons hu (.cons (Le.refl _) .nil)) (Wo l _ (by omega))) ?_
  rintro v bs rs ⟨⟨l',hl',rfl⟩,rfl,rfl⟩
  simp only [↓rA,rB,Nat.reduceEqDiff,gr,g1,g4,hwi]
  refine⟨0,⟨l',_,by omega,Le.refl _,rfl⟩,?_⟩
  first | rfl | exact⟨rfl,rfl⟩
 ·simp only [↓rA,rB,Nat.reduceAdd,Nat.reduceEqDiff,qxv,gb,gr,g1,g3,g4,Int.ofNat_lt,Nat.lt_irrefl,List.length_map]
  exact⟨_,[],[],hu,List.nil_sublist _,List.nil_sublist _,⟨l,by omega,rfl⟩,rfl,rfl⟩
end Go.Proofs.YtohdpcjaoiebkaaGreatDoor
set_option linter.unusedSimpArgs false
set_option maxRecDepth 100000
set_option linter.defProp false
namespace Go.Proofs.YtohdpcjaoiebkaaGreatDoor
open Go.VL Go.Ar Go.Lo Go.Proofs.YtohdpcjaoiebkaaGreatDoor
def zb (l:List Ftr) (s:Str):Ftr × Bool:=match l with
 | []=>(ftr0,false)
 | x::r=>if x.name=s then (x,true) else zb r s
theorem qlx {l:List Ftr} {s:Str}:(zb l s).2=true→(zb l s).1 ∈ l:=by
 induction l with
 | nil=>intro h;cases h
 | cons x r ih =>
  simp only [zb]
  split
  ·intro _;exact List.mem_cons_self
  ·intro h;exact List.mem_cons_of_mem _ (ih h)
theorem qrr {l:List Ftr} {s:Str}:(zb l s).2=false→(zb l s).1=ftr0:=by
 induction l with
 | nil=>intro _;rfl
 | cons x r ih =>
  simp only [zb]
  split
  ·intro h;cases h
  ·exact ih
def qh5:=(aI (aI (aI Ty.t126 (aI Ty.t23 Ty.t29)) (aI Ty.t3 (aI Ty.t35 Ty.t36))) (aI (aI Ty.t38 (aI Ty.t4 Ty.t40)) (aI Ty.t43 (aI Ty.t45 Ty.t9))))
theorem qrq (l:List Ftr) (s:Str) (hl:l.length≤1000000):zc Tryz.prog 146 [kA l,qm s] (.tup [.agg (uN (zb l s).1),qv (zb l s).2]):=by
 refine Ok.of_ex Ty.mixed Tryz.func146 rfl (by simp [Tryz.ntmps146]) (by kernel_rfl) fun F w0 I0=>?_
 simp only [↓rA,rB,qh5]
 refine fun b4 h4=>?_;replace h4:=qn h4;try simp only [Nb] at h4
 simp only [↓rA,rB,Tryz.results146]
 refine qB Ty.mixed (by kernel_rfl) l.length (fun i S=>zb (l.drop i) s=zb l s∧S.boxes=[(b4,.c zFt)]∧S.rows=[]∧S.σ 0=kA l∧S.σ 1=qm s∧S.σ 4=ptr b4∧S.σ 6=vint i) ⟨0,?_⟩ (fun i S hi ⟨hf,gb,gr,g0,g1,g4,g6⟩=>?_) (fun S ⟨hf,gb,gr,g0,g1,g4,g6⟩=>?_)
 ·simp only [rB,Nat.reduceEqDiff,reduceCtorEq]
  try exact rfl
 ·have hwi:=qk (i:=i) (N:=l.length) hi (by omega)
  rw [List.drop_eq_getElem_cons hi,zb] at hf
  simp only [↓rA,rB,Nat.reduceEqDiff,reduceCtorEq,qh5,g0,g1,g6,Int.ofNat_lt,hi,List.length_map,qd _ _ _ hi,qW l[i]]
  by_cases hc:l[i].name=s
  ·simp only [↓rA,rB,Nat.reduceAdd,Nat.reduceEqDiff,reduceCtorEq,qh5,gb,gr,g0,g4,g6,hc,Int.ofNat_lt,hi,List.length_map,qd _ _ _ hi,qW l[i]]
   rw [if_pos hc] at hf
   refine qpm (yV (.cons ?_ (.cons (by rw [← hf];exact Le.refl _) .nil)))
   rw [← hf]
   rw [qW,← hc]
   exact Le.refl _
  ·simp only [↓rA,rB,Nat.reduceEqDiff,reduceCtorEq,gb,gr,g0,g1,g4,g6,hwi,hc]
   rw [if_neg hc] at hf
   first | exact⟨0,hf,rfl⟩ | exact⟨0,hf⟩
 ·simp only [↓rA,rB,qb,Nat.reduceAdd,Nat.reduceEqDiff,reduceCtorEq,qh5,gb,gr,g0,g4,g6,Int.ofNat_lt,Nat.lt_irrefl,List.length_map]
  rw [List.drop_eq_nil_of_le (Nat.le_refl _),zb] at hf
  refine qpm (yV (.cons ?_ (.cons (by rw [← hf];exact Le.refl _) .nil)))
  rw [← hf]
  exact qAi
def qot:=(aI (aI (aI (aI Ty.c146 Ty.t126) (aI Ty.t22 Ty.t23)) (aI (aI Ty.t25 Ty.t29) (aI Ty.t3 (aI Ty.t35 Ty.t36)))) (aI (aI (aI Ty.t38 Ty.t4) (aI Ty.t40 (aI Ty.t43 Ty.t45))) (aI (aI Ty.t60 Ty.t61) (aI Ty.t63 (aI Ty.t89 Ty.t9)))))
theorem qcm (c:Cat) (s:Str) (hl:c.features.length≤1000000):zc Tryz.prog 115 [wT c,qm s] (.tup [.agg (uN (zb c.features s).1),qv (zb c.features s).2]):=by
 have hq:=qrq c.features s hl
 simp only [qW] at hq ⊢
 refine Ok.of_ex Ty.mixed Tryz.func115 rfl (by simp [Tryz.ntmps115]) (by kernel_rfl) fun F w0 I0=>?_
 simp only [↓rA,rB,qf,Nat.reduceLT]
 refine fun b2 h2=>?_;replace h2:=qn h2;try simp only [Nb] at h2
 simp only [↓rA,rB,qot]
 refine fun b4 h4=>?_;replace h4:=qn h4;try simp only [Nb] at h4
 have hh:=And.intro h2 h4
 simp only [↓rA,rB,Nat.reduceAdd,Nat.reduceEqDiff,qot,hh]
 refine qg _ hq ?_
 simp only [↓rA,rB,Nat.reduceAdd,Nat.reduceEqDiff,qot,Tryz.results115]
 exact qa rfl
def Zm:=(aI (aI (aI (aI Ty.c115 Ty.c116) (aI Ty.t126 (aI Ty.t22 Ty.t23))) (aI (aI Ty.t25 (aI Ty.t29 Ty.t3)) (aI Ty.t35 (aI Ty.t36 Ty.t38)))) (aI (aI (aI Ty.t4 Ty.t40) (aI Ty.t43 (aI Ty.t45 Ty.t60))) (aI (aI Ty.t61 (aI Ty.t63 Ty.t69)) (aI Ty.t87 (aI Ty.t89 Ty.t9)))))
theorem qks (n:Nat) (c:Cat) (s:Str) (hn:n≤1000000) (hk:Qw n c):Ok Tryz.prog 77 [wT c,qm s] [] fun v bs rs=>(∃ l:List Str,l.length≤100000000∧v=Xe l)∧bs=[]∧rs=[]:=by
 have hl:=Nat.le_trans hk.lf hn
 have hq:=fun s=>qcm c s hl
 have ht:kI (zb c.features s).1.body∧zj (zb c.features s).1.body≤1000000:=by
  cases e:(zb c.features s).2
  ·rw [qrr e];exact⟨qvt,by decide⟩
  ·have:=qlx e
   exact⟨(hk.ff _ this).1.2,hk.sf _ this⟩
 generalize hft:(zb c.features s).1=t at ht
 have hd:=qcu t.body [] [] ht.1 (by simp only [List.length_nil];omega) (by simp only [List.length_nil];omega)
 rw [vE,qx] at hd
 have hq1:=hq s
 rw [hft] at hq1
 simp only [qW] at hq hq1
 refine Ok.of_exM [(7,1)] Ty.mixed Tryz.func77 rfl (by simp [Tryz.ntmps77]) (by kernel_rfl) fun F w0 I0=>?_
 simp only [↓rA,rB,qf,Nat.reduceLT]
 refine fun b2 h2=>?_;replace h2:=qn h2;try simp only [Nb] at h2
 simp only [↓rA,rB,Nat.reduceAdd,Nat.reduceEqDiff,Zm]
 refine qg _ hq1 ?_
 simp only [↓rA,rB,Nat.reduceEqDiff,Zm]
 refine fun b5 h5=>?_;replace h5:=qn h5;try simp only [Nb] at h5
 have hh:=And.intro h2 h5
 simp only [↓rA,rB,Nat.reduceAdd,Nat.reduceEqDiff,Nat.reduceLeDiff,Zm]
 refine qi [] _ (List.Perm.refl _) (Ok.le (.cons (Le.refl _) (.cons (Le.nil 1) (.cons (Le.nil 1) .nil))) hd) ?_
 rintro v bs rs ⟨⟨a,b,ha,hb,rfl⟩,rfl,rfl⟩
 simp only [List.length_nil] at ha hb
 simp only [↓rA,rB,Nat.reduceEqDiff,Tryz.results77]
 refine zC.nilRow 9 1 9 (by simp only [rB,Nat.reduceEqDiff]) (by decide) ?_
 refine yr Ty.mixed (by kernel_rfl) a.length (fun i S=>∃ y,(∃ l:List Str,l.length≤i∧S.σ 9=.list (some y) 1 (l.map fun s=>[qm s]))∧S.rows=[⟨y,1,9⟩]∧S.boxes=[(b5,.c (cF t t.body.hd (zD t.body.args))),(b2,.c (xz c))]∧S.σ 2=ptr b2∧S.σ 5=ptr b5∧S.σ 7=Xe a∧S.σ 10=vint i) ⟨0,1,nilv,?_⟩ (fun i S hi ⟨y,⟨l,hli,g9⟩,gr,gb,g2,g5,g7,g10⟩=>?_) (fun S ⟨y,⟨l,hli,g9⟩,gr,gb,g2,g5,g7,g10⟩=>?_)
 ·simp only [rB,Nat.reduceEqDiff]
  exact⟨[],Nat.le_refl _,rfl⟩
 ·have hwi:=qk (i:=i) (N:=a.length) hi (by omega)
  simp only [↓rA,rB,Nat.reduceAdd,Nat.reduceEqDiff,Zm,gb,g2,g7,g10,hh,Int.ofNat_lt,hi,List.length_map,qd _ _ _ hi]
  refine qF _ (hq _).v ?_
  cases (zb c.features a[i]).2
  ·simp only [↓rA,rB,Nat.reduceEqDiff,Zm,gb,gr,List.length_map,qd _ _ _ hi]
   refine fun b11 h11=>?_;replace h11:=qn h11;try simp only [Nb] at h11
   have hh:=And.intro hh h11
   simp only [↓rA,rB,Nat.reduceAdd,Nat.reduceEqDiff,Zm,gb,gr,g2,g5,g7,g9,g10,hwi,List.length_map,qd _ _ _ hi]
   exact⟨1,1,y,⟨l,by omega,rfl⟩,rfl,rfl⟩
  ·simp only [↓rA,rB,Nat.reduceEqDiff,Zm,gb,gr,List.length_map,qd _ _ _ hi]
   refine fun b11 h11=>?_;replace h11:=qn h11;try simp only [Nb] at h11
   have hh:=And.intro hh h11
   simp only [↓rA,rB,Nat.reduceAdd,Nat.reduceEqDiff,Nat.reduceLT,Nat.reduceLeDiff,Nat.reduceMul,Zm,gb,gr,g7,g9,g10,Int.ofNat_lt,hi,List.length_map,qd _ _ _ hi]
   intro y1
   refine xd ?_
   simp only [↓rA,rB,Nat.reduceEqDiff,g2,g5,g7,g10,hwi,List.length_map,qd _ _ _ hi]
   refine⟨(by first | omega | (simp;omega)),fun y2=>?_⟩
   exact⟨1,1,y2,⟨l++[a[i]],by simp;omega,by simp⟩,rfl,rfl⟩
 ·simp only [↓rA,rB,Nat.reduceEqDiff,Zm,gb,gr,g7,g9,g10,Int.ofNat_lt,Nat.lt_irrefl,List.length_map]
  exact⟨_,[],[],Le.list _ _ _,List.nil_sublist _,List.nil_sublist _,⟨l,by omega,rfl⟩,rfl,rfl⟩
end Go.Proofs.YtohdpcjaoiebkaaGreatDoor
set_option linter.unusedSimpArgs false
set_option maxRecDepth 100000
set_option linter.defProp false
namespace Go.Proofs.YtohdpcjaoiebkaaGreatDoor
open Go.VL Go.Ar Go.Lo Go.Proofs.YtohdpcjaoiebkaaGreatDoor
abbrev lK (y:Option Value) (g:List Nat):V:=.list y 1 (g.map fun(x:Nat)=>[vint (x:Int)])
def Yx:=(aI (aI (aI (aI Ty.c76 Ty.c77) (aI Ty.c78 (aI Ty.t126 Ty.t22))) (aI (aI Ty.t23 (aI Ty.t25 Ty.t29)) (aI Ty.t3 (aI Ty.t35 Ty.t36)))) (aI (aI (aI Ty.t38 (aI Ty.t4 Ty.t40)) (aI Ty.t43 (aI Ty.t45 Ty.t56))) (aI (aI Ty.t60 (aI Ty.t61 Ty.t63)) (aI Ty.t69 (aI Ty.t9 Ty.t98)))))
theorem qf9 (n:Nat) (c:Cat) (hn:n≤1000000) (hk:Qw n c):Ok Tryz.prog 42 [wT c] [] fun v bs rs=>(∃ (l:List Str) (gs:List (List Nat)),l.length≤1000000∧gs.length=l.length∧(∀ g ∈ gs,g.length≤l.length∧∀ x ∈ g,x < l.length)∧v=.tup [Xe l,.list none 1 (gs.map fun g=>[lK none g])])∧bs=[]∧rs=[]:=by
 have hl:=Nat.le_trans hk.lf hn
 refine Ok.of_exM [(6,2)] Ty.mixed Tryz.func42 rfl (by simp [Tryz.ntmps42]) (by kernel_rfl) fun F w0 I0=>?_
 simp only [↓rA,rB,qf,Nat.reduceLT]
 refine fun b1 h1=>?_;replace h1:=qn h1;try simp only [Nb] at h1
 simp only [↓rA,rB,Nat.reduceAdd,Nat.reduceEqDiff,Yx]
 refine qi [] _ (List.Perm.refl _) (qfi c hl) ?_
 rintro v bs rs ⟨⟨l,hll,rfl⟩,rfl,rfl⟩
 simp only [↓rA,rB,Tryz.results42]
 refine zC.nilRow 5 1 56 (by simp only [rB,Nat.reduceEqDiff]) (by decide) ?_
 refine qw8 Ty.mixed (by kernel_rfl) l.length (fun i S=>(∃ (z:Value) (gs:List (List Nat)),gs.length=i∧(∀ g ∈ gs,g.length≤l.length∧∀ x ∈ g,x < l.length)∧S.σ 5=.list (some z) 1 (gs.map fun g=>[lK none g])∧S.rows=[⟨z,1,56⟩])∧S.boxes=[(b1,.c (xz c))]∧S.σ 1=ptr b1∧S.σ 4=Xe l∧S.σ 6=vint i) ⟨5,_,Le.refl _,_,_,List.Sublist.refl _,List.Sublist.refl _,?_⟩ (fun i S hi ⟨⟨z,gs,hg,hgs,g5,gr⟩,gb,g1,g4,g6⟩=>?_) (fun S ⟨⟨z,gs,hg,hgs,g5,gr⟩,gb,g1,g4,g6⟩=>?_)
 ·simp only [rB,Nat.reduceEqDiff]
  exact⟨nilv,[],rfl,(fun g hg=>absurd hg List.not_mem_nil),rfl,rfl⟩
 ·have hwi:=qk (i:=i) (N:=l.length) hi (by omega)
  simp only [↓rA,rB,Nat.reduceAdd,Nat.reduceEqDiff,reduceCtorEq,Yx,gb,g1,g4,g6,Int.ofNat_lt,hi,List.length_map,qd _ _ _ hi]
  refine wu (qks n c l[i] hn hk) ?_
  rintro v bs rs ⟨⟨a,ha,rfl⟩,rfl,rfl⟩
  refine⟨rfl,?_⟩
  simp only [↓rA,rB,reduceCtorEq,gr]
  refine zC.nilRow 8 1 3 (by simp only [rB,Nat.reduceEqDiff]) (by decide) ?_
  refine jz Ty.mixed (by kernel_rfl) l.length (fun j S=>(∃ (y:Value) (g:List Nat),g.length≤j∧(∀ x ∈ g,x < l.length)∧S.σ 8=lK (some y) g∧S.rows=[⟨y,1,3⟩,⟨z,1,56⟩])∧S.boxes=[(b1,.c (xz c))]∧S.σ 1=ptr b1∧S.σ 4=Xe l∧S.σ 5=.list (some z) 1 (gs.map fun g=>[lK none g])∧S.σ 6=vint i∧S.σ 7=Xe a∧S.σ 9=vint j) ⟨_,_,List.Sublist.refl _,List.Sublist.refl _,?_⟩ (fun j S hj ⟨⟨y,g,hgj,hgl,g8,gr⟩,gb,g1,g4,g5,g6,g7,g9⟩=>?_) (fun S ⟨⟨y,g,hgj,hgl,g8,gr⟩,gb,g1,g4,g5,g6,g7,g9⟩=>?_)
  ·simp only [rB,Nat.reduceEqDiff,gb,g1,g4,g5,g6]
   exact⟨nilv,[],by simp,by simp,rfl,rfl⟩
  ·have hwj:=qk (i:=j) (N:=l.length) hj (by omega)
   simp only [↓rA,rB,Nat.reduceEqDiff,Yx,gb,g4,g7,g9,Int.ofNat_lt,hj,List.length_map,qd _ _ _ hj]
   refine qi [] _ (List.Perm.refl _) (qvl a l[j] (by omega)) ?_
   rintro v bs rs ⟨⟨t,rfl⟩,rfl,rfl⟩
   cases t
   ·simp only [↓rA,rB,Nat.reduceEqDiff,gr,g9,hwj]
    refine⟨_,_,List.Sublist.refl _,List.Sublist.refl _,?_⟩
    simp only [rB,Nat.reduceEqDiff,g1,g4,g5,g6,g7,g8]
    exact⟨y,g,by omega,hgl,rfl,rfl⟩
   ·simp only [↓rA,rB,Nat.reduceEqDiff,Nat.reduceLT,Nat.reduceLeDiff,Nat.reduceMul,Yx,gr,g8,g9]
    intro y1
    refine xd ?_
    simp only [↓rA,rB,Nat.reduceEqDiff,gr,g9,hwj,List.length_map]
    refine⟨(by first | omega | (simp;omega)),fun y2=>?_⟩
    refine⟨_,[⟨y2,1,3⟩,⟨z,1,56⟩],List.Sublist.refl _,?_,?_⟩
    ·exact List.Sublist.cons_cons _ (List.Sublist.cons _ (List.Sublist.refl _))
    simp only [rB,Nat.reduceEqDiff,g1,g4,g5,g6,g7]
    refine⟨y2,g++[j],by simp;omega,fun x hx=>?_,by simp,rfl⟩
    rcases List.mem_append.1 hx with hx | hx
    ·exact hgl x hx
    ·rw [List.mem_singleton.1 hx];exact hj
  ·simp only [↓rA,rB,Nat.reduceEqDiff,Nat.reduceLT,Nat.reduceLeDiff,Nat.reduceMul,Yx,gr,g4,g5,g8,g9,Int.ofNat_lt,Nat.lt_irrefl,List.length_map]
   intro y1
   refine YD (l1:=[⟨y1,1,56⟩,⟨y,1,3⟩]) ?_
   simp only [↓rA,rB,Nat.reduceEqDiff,g6,hwi,List.length_map,hg]
   refine⟨(by first | omega | (simp;omega)),fun y2=>?_⟩
   refine⟨5,.list (some y2) 1 ((gs++[g]).map fun g=>[lK none g]),?_,_,[⟨y2,1,56⟩],List.Sublist.refl _,List.Sublist.cons_cons _ (List.nil_sublist _),?_⟩
   ·simp only [rB,Nat.reduceEqDiff]
    rw [List.map_append]
    exact Le.rows (LeR.append (LeR.same _) (.cons (.cons (Le.list _ _ _) .nil) .nil))
   simp only [rB,Nat.reduceEqDiff,gb,g1,g4]
   refine⟨y2,gs++[g],by simp [hg],fun x hx=>?_,rfl,rfl⟩
   rcases List.mem_append.1 hx with hx | hx
   ·exact hgs x hx
   ·rw [List.mem_singleton.1 hx];exact⟨hgj,hgl⟩
 ·simp only [↓rA,rB,Nat.reduceEqDiff,Yx,gb,gr,g4,g5,g6,Int.ofNat_lt,Nat.lt_irrefl,List.length_map]
  exact⟨_,[],[],yV (.cons (Le.refl _) (.cons (Le.list _ _ _) .nil)),List.nil_sublist _,List.nil_sublist _,⟨l,gs,hll,hg,hgs,rfl⟩,rfl,rfl⟩
end Go.Proofs.YtohdpcjaoiebkaaGreatDoor
set_option linter.unusedSimpArgs false
set_option maxRecDepth 100000
namespace Go.Lo
def w9 (gs:List (List Nat)) (t:Nat) (d:List Int) (i k:Nat):Int :=
 let x:=(gs.getD i []).getD k 0
 if x=t then 1 else d.getD x 0+1
def Qn (d:List Int):Nat:=match d with
 | []=>0
 | x::r=>x.toNat+Qn r
structure JF (gs:List (List Nat)) (t:Nat) (d:List Int):Prop where
 len:d.length=gs.length
 lo:∀ i,i < gs.length→1≤d.getD i 0∧d.getD i 0≤1000
 wit:∀ i,i < gs.length→d.getD i 0=1000∨∃ k,k < (gs.getD i []).length∧w9 gs t d i k≤d.getD i 0
def JB (gs:List (List Nat)) (t:Nat) (d:List Int) (i:Nat):Prop:=∀ k,k < (gs.getD i []).length→d.getD i 0≤w9 gs t d i k
theorem Qc {d:List Int} {i:Nat} {v:Int} (h:i < d.length):(d.set i v).getD i 0=v:=by
 simp [List.getD_eq_getElem?_getD,h]
theorem KD {d:List Int} {i j:Nat} {v:Int} (h:i ≠ j):(d.set i v).getD j 0=d.getD j 0:=by
 simp [List.getD_eq_getElem?_getD,List.getElem?_set_ne h]
theorem UY:∀ {d:List Int} {i:Nat} {v:Int},i < d.length→0≤v→v < d.getD i 0→Qn (d.set i v) < Qn d
 | x::r,0,v,_,h0,hv=>by
  simp only [List.set_cons_zero,Qn]
  have:v < x:=hv
  omega
 | x::r,i+1,v,hi,h0,hv=>by
  simp only [List.set_cons_succ,Qn]
  have:=UY (d:=r) (i:=i) (by simpa using hi) h0 (by simpa using hv)
  omega
theorem qc2 {gs:List (List Nat)} {t:Nat} {d:List Int} {i j k:Nat} {v:Int} (h:v≤d.getD i 0) (hi:i < d.length):w9 gs t (d.set i v) j k≤w9 gs t d j k:=by
 simp only [w9]
 split
 ·exact Int.le_refl _
 ·rename_i hx
  by_cases e:i=(gs.getD j []).getD k 0
  ·rw [← e,Qc hi];omega
  ·rw [KD e];exact Int.le_refl _
theorem JF.step {gs:List (List Nat)} {t:Nat} {d:List Int} (h:JF gs t d) {i k:Nat} (hi:i < gs.length) (hk:k < (gs.getD i []).length) (hr:∀ g ∈ gs,∀ x ∈ g,x < gs.length) (hv:w9 gs t d i k < d.getD i 0):JF gs t (d.set i (w9 gs t d i k))∧Qn (d.set i (w9 gs t d i k)) < Qn d:=by
 have hid:i < d.length:=by rw [h.len];exact hi
 have h1:1≤w9 gs t d i k:=by
  simp only [w9]
  split
  ·exact Int.le_refl _
  ·have hg:gs.getD i [] ∈ gs:=by
    rw [List.getD_eq_getElem?_getD,List.getElem?_eq_getElem hi];exact List.getElem_mem hi
   have hx:(gs.getD i []).getD k 0 < gs.length:=hr _ hg _ (by
    rw [List.getD_eq_getElem?_getD (l:=gs.getD i []),List.getElem?_eq_getElem hk];exact List.getElem_mem hk)
   have:=(h.lo _ hx).1
   omega
 refine⟨⟨by rw [List.length_set];exact h.len,fun j hj=>?_,fun j hj=>?_⟩,UY hid (by omega) hv⟩
 ·by_cases e:i=j
  ·subst e
   rw [Qc hid]
   have:=(h.lo i hi).2
   omega
  ·rw [KD e];exact h.lo j hj
 ·by_cases e:i=j
  ·subst e
   rw [Qc hid]
   exact .inr ⟨k,hk,qc2 (Int.le_of_lt hv) hid⟩
  ·rw [KD e]
   rcases h.wit j hj with h2 | ⟨k',hk',h2⟩
   ·exact .inl h2
   ·exact .inr ⟨k',hk',Int.le_trans (qc2 (Int.le_of_lt hv) hid) h2⟩
end Go.Lo
namespace Go.Proofs.YtohdpcjaoiebkaaGreatDoor
open Go.VL Go.Ar Go.Lo Go.Proofs.YtohdpcjaoiebkaaGreatDoor
abbrev lG (gs:List (List Nat)):V:=.list none 1 (gs.map fun g=>[lK none g])
end Go.Proofs.YtohdpcjaoiebkaaGreatDoor
set_option linter.unusedSimpArgs false
set_option maxRecDepth 100000
set_option linter.defProp false
namespace Go.Lo
theorem qEl {gs:List (List Nat)} {t:Nat} {d:List Int} (hl:d.length=gs.length) (h:∀ i,i < gs.length→d.getD i 0=1000):JF gs t d :=
 ⟨hl,fun i hi=>by rw [h i hi];decide,fun i hi=>.inl (h i hi)⟩
end Go.Lo
namespace Go.Proofs.YtohdpcjaoiebkaaGreatDoor
open Go.VL Go.Ar Go.Lo Go.Proofs.YtohdpcjaoiebkaaGreatDoor
theorem qat (n:Nat):(List.replicate n [vint 0]).flatten=(List.replicate n (0:Int)).map vint:=by
 induction n with
 | zero=>rfl
 | succ n ih=>simp only [List.replicate_succ,List.flatten_cons,ih,List.map_cons];rfl
theorem qyt {d:List Int} {x:Nat} (h:x < d.length):(d.map vint).drop (x * 1)=vint d[x]::(d.map vint).drop (x+1):=by
 rw [Nat.mul_one,List.drop_eq_getElem_cons (by simpa using h),List.getElem_map]
theorem qCv {d:List Int} {i:Nat} (h:i < d.length) (v:Int):(d.map vint).take (i * 1)++[vint v]++(d.map vint).drop (i * 1+1)=(d.set i v).map vint:=by
 obtain⟨A,B,hA,e1,e2⟩:=Zs h
 rw [e1,e2,qv9 (by omega)]
theorem Uf {d:List Int} {i:Nat} (h:i < d.length):d.getD i 0=d[i]:=by simp [List.getD_eq_getElem?_getD,h]
def QA:=(aI (aI Ty.t3 Ty.t4) (aI Ty.t56 Ty.t98))
set_option maxHeartbeats 1000000 in
theorem U1 (gs:List (List Nat)) (t:Nat) (hN:gs.length≤1000000) (hr:∀ g ∈ gs,∀ x ∈ g,x < gs.length) (hg:∀ g ∈ gs,g.length≤gs.length):Ok Tryz.prog 43 [lG gs,vint t] [] fun v bs rs =>
  (∃ (y:Option Value) (d:List Int),v=lI y d∧JF gs t d∧∀ i,i < gs.length→JB gs t d i)∧bs=[]∧rs=[]:=by
 refine Ok.freeze (Q:=fun v bs rs=>(∃ (b:Nat) (d:List Int),v=slI b gs.length gs.length∧bs=[(b,.c (d.map vint))]∧JF gs t d∧∀ i,i < gs.length→JB gs t d i)∧rs=[]) ?_ fun v bs rs h=>?_
 case refine_2 =>
  obtain⟨⟨b,d,rfl,rfl,h1,h2⟩,rfl⟩:=h
  refine .inr ⟨b,gs.length,gs.length,1,_,d.map fun x=>[vint x],[],_,List.Perm.refl _,?_,.here,⟨_,d,rfl,h1,h2⟩,rfl,rfl⟩
  have:=Xx (g:=b) (rest:=[]) h1.len (Nat.le_refl _)
  rwa [List.append_nil] at this
 refine Ok.of_ex Ty.mixed Tryz.func43 rfl (by simp [Tryz.ntmps43]) (by kernel_rfl) fun F w0 I0=>?_
 simp only [↓rA,rB,Nat.reduceLT,reduceCtorEq,QA,List.length_map,Int.toNat_natCast]
 refine⟨⟨by omega,by omega⟩,?_⟩
 refine fun b hb=>?_;replace hb:=qn hb;try simp only [Nb] at hb
 simp only [↓rA,rB,Tryz.results43,List.length_map]
 have hc0:(List.replicate gs.length (List.map V.lit [Value.int IntKind.i64 0])).flatten=(List.replicate gs.length (0:Int)).map vint:=qat _
 have hby:gs.length * 8≤140737488355328:=by omega
 refine qB Ty.mixed (by kernel_rfl) gs.length (fun i S=>(∃ es:List Int,es.length=gs.length∧(∀ j,j < i→es.getD j 0=1000)∧S.boxes=[(b,.c (es.map vint))])∧S.rows=[]∧S.σ 0=lG gs∧S.σ 1=vint t∧S.σ 5=slI b gs.length gs.length∧S.σ 6=vint i) ⟨0,?_⟩ (fun i S hi ⟨⟨es,he,hes,gb⟩,gr,g0,g1,g5,g6⟩=>?_) (fun S ⟨⟨es,he,hes,gb⟩,gr,g0,g1,g5,g6⟩=>?_)
 ·simp only [rB,Nat.reduceEqDiff,reduceCtorEq]
  exact⟨List.replicate gs.length 0,by simp,fun j hj=>absurd hj (Nat.not_lt_zero j),by rw [← qat]⟩
 ·have hwi:=qk (i:=i) (N:=gs.length) hi (by omega)
  have hie:i < es.length:=by omega
  obtain⟨A,B,hA,e1,e2⟩:=Zs hie
  have hA1:A.length=i * 1:=by omega
  rw [e1] at gb
  simp only [↓rA,rB,Nat.reduceEqDiff,reduceCtorEq,QA,gb,gr,g0,g1,g5,g6,hwi,Int.ofNat_lt,hi,List.length_map]
  refine⟨by rw [List.length_append,List.length_cons];omega,0,es.set i 1000,by rw [List.length_set];exact he,fun j hj=>?_,?_⟩
  ·by_cases e:i=j
   ·subst e;exact Qc hie
   ·rw [KD e];exact hes j (by omega)
  ·rw [List.drop_zero,e2,qv9 hA1]
 ·simp only [↓rA,rB,Nat.reduceEqDiff,reduceCtorEq,QA,g0,g6,Int.ofNat_lt,Nat.lt_irrefl,List.length_map]
  have hD:JF gs t es:=qEl he hes
  refine jf Ty.mixed (by kernel_rfl) (fun x:List Int × Bool=>2 * Qn x.1+bif x.2 then 1 else 0) (fun(x:List Int × Bool) S=>JF gs t x.1∧(x.2=false→∀ i,i < gs.length→JB gs t x.1 i)∧S.boxes=[(b,.c (x.1.map vint))]∧S.rows=[]∧S.σ 0=lG gs∧S.σ 1=vint t∧S.σ 5=slI b gs.length gs.length∧S.σ 7=qv x.2) (es,true) ⟨0,?_⟩ (fun⟨d,ch⟩ S ⟨hD,hF,gb,gr,g0,g1,g5,g7⟩=>?_)
  ·simp only [rB,Nat.reduceEqDiff,reduceCtorEq,gb,gr,g0,g1,g5]
   exact⟨hD,by simp⟩
  ·cases ch
   ·simp only [↓rA,rB,Nat.reduceEqDiff,gb,gr,g5,g7]
    exact⟨_,[_],[],Le.refl _,List.Sublist.refl _,List.nil_sublist _,⟨b,d,rfl,rfl,hD,hF rfl⟩,rfl⟩
   ·simp only [↓rA,rB,g7]
    refine qB Ty.mixed (by kernel_rfl) gs.length (fun i S=>∃ (d':List Int) (ch:Bool),JF gs t d'∧Qn d'≤Qn d∧(ch=true→Qn d' < Qn d)∧(ch=false→d'=d∧∀ j,j < i→JB gs t d j)∧S.boxes=[(b,.c (d'.map vint))]∧S.rows=[]∧S.σ 0=lG gs∧S.σ 1=vint t∧S.σ 5=slI b gs.length gs.length∧S.σ 7=qv ch∧S.σ 8=vint i) ⟨0,?_⟩ (fun i S hi ⟨d',ch,hD',hs1,hs2,hs3,gb,gr,g0,g1,g5,g7,g8⟩=>?_) (fun S ⟨d',ch,hD',hs1,hs2,hs3,gb,gr,g0,g1,g5,g7,g8⟩=>?_)
    ·simp only [rB,Nat.reduceEqDiff,reduceCtorEq,gb,gr,g0,g1,g5]
     exact⟨d,false,hD,Nat.le_refl _,(fun h=>by cases h),fun _=>⟨rfl,fun j hj=>absurd hj (Nat.not_lt_zero j)⟩,rfl,rfl⟩
    ·have hwi:=qk (i:=i) (N:=gs.length) hi (by omega)
     have hgi:gs.getD i []=gs[i]:=by simp [List.getD_eq_getElem?_getD,hi]
     have hgm:=List.getElem_mem hi
     have hgl:=hg _ hgm
     have hgx:=hr _ hgm
     generalize hgg:gs[i]=g at hgi hgl hgx
     simp only [↓rA,rB,Nat.reduceEqDiff,reduceCtorEq,QA,g0,g8,Int.ofNat_lt,hi,List.length_map]
     refine qB Ty.mixed (by kernel_rfl) g.length (fun k S=>∃ (d':List Int) (ch:Bool),JF gs t d'∧Qn d'≤Qn d∧(ch=true→Qn d' < Qn d)∧(ch=false→d'=d∧(∀ j,j < i→JB gs t d j)∧∀ k',k' < k→d.getD i 0≤w9 gs t d i k')∧S.boxes=[(b,.c (d'.map vint))]∧S.rows=[]∧S.σ 0=lG gs∧S.σ 1=vint t∧S.σ 5=slI b gs.length gs.length∧S.σ 7=qv ch∧S.σ 8=vint i∧S.σ 9=vint k) ⟨0,?_⟩ (fun k S hk ⟨d',ch,hD',hs1,hs2,hs3,gb,gr,g0,g1,g5,g7,g8,g9⟩=>?_) (fun S ⟨d',ch,hD',hs1,hs2,hs3,gb,gr,g0,g1,g5,g7,g8,g9⟩=>?_)
     ·simp only [rB,Nat.reduceEqDiff,reduceCtorEq,gb,gr,g0,g1,g5,g7,g8]
      exact⟨d',ch,hD',hs1,hs2,(fun h=>⟨(hs3 h).1,(hs3 h).2,fun k' hk'=>absurd hk' (Nat.not_lt_zero k')⟩),rfl,rfl⟩
     ·have hwk:=qk (i:=k) (N:=g.length) hk (by omega)
      have hxm:=List.getElem_mem hk
      have hx:=hgx _ hxm
      generalize hxg:g[k]=x at hx
      have hxd:x < d'.length:=by rw [hD'.len];exact hx
      have hid:i < d'.length:=by rw [hD'.len];exact hi
      have hcx:(gs.getD i []).getD k 0=x:=by rw [hgi,← hxg];simp [List.getD_eq_getElem?_getD,hk]
      have hlx:=hD'.lo x hx
      have hli:=hD'.lo i hi
      rw [Uf hxd] at hlx
      rw [Uf hid] at hli
      have hw1:IntKind.i64.wrap (d'[x]+1)=d'[x]+1:=zl (by omega) (by omega)
      have hgk:k < (gs.getD i []).length:=by rw [hgi];exact hk
      have hcand:w9 gs t d' i k=if x=t then 1 else d'[x]+1:=by
       simp only [w9];rw [hcx,Uf hxd]
      have fin0:¬ w9 gs t d' i k < d'[i]→ch=false→d'=d∧(∀ j,j < i→JB gs t d j)∧∀ k',k' < k+1→d.getD i 0≤w9 gs t d i k':=fun h hch=>by
       obtain⟨q1,q2,q3⟩:=hs3 hch
       refine⟨q1,q2,fun k' hk'=>?_⟩
       by_cases e:k'=k
       ·subst e
        rw [← q1,Uf hid];omega
       ·exact q3 k' (by omega)
      have F:=And.intro hw1 (And.intro (qyt hxd) (qyt hid))
      by_cases ht:x=t
      ·have htI:((x:Int)=(t:Int))=True:=eq_true (by omega)
       rw [if_pos ht] at hcand
       by_cases hlt:1 < d'[i]
       ·simp only [↓rA,rB,Nat.reduceEqDiff,reduceCtorEq,QA,gb,gr,g0,g1,g5,g8,g9,Int.ofNat_lt,hi,hk,hx,hgg,hxg,List.length_map,qd _ _ _ hi,qd _ _ _ hk,F,htI,hlt,hwk,hD'.len]
        have hst:=hD'.step hi hgk hr (by rw [hcand,Uf hid];exact hlt)
        rw [hcand] at hst
        refine⟨by omega,0,_,true,hst.1,by omega,(fun _=>by omega),(fun h=>by cases h),?_,rfl⟩
        rw [List.drop_zero,← qCv hid]
       ·simp only [↓rA,rB,Nat.reduceEqDiff,reduceCtorEq,QA,gb,gr,g0,g1,g5,g7,g8,g9,Int.ofNat_lt,hi,hk,hx,hgg,hxg,List.length_map,qd _ _ _ hi,qd _ _ _ hk,F,htI,hlt,hwk]
        exact⟨0,d',ch,hD',hs1,hs2,fin0 (by rw [hcand];exact hlt),rfl,rfl⟩
      ·have htI:((x:Int)=(t:Int))=False:=eq_false (by omega)
       rw [if_neg ht] at hcand
       by_cases hlt:d'[x]+1 < d'[i]
       ·simp only [↓rA,rB,Nat.reduceEqDiff,reduceCtorEq,QA,gb,gr,g0,g1,g5,g8,g9,Int.ofNat_lt,hi,hk,hx,hgg,hxg,List.length_map,qd _ _ _ hi,qd _ _ _ hk,F,htI,hlt,hwk,hD'.len]
        have hst:=hD'.step hi hgk hr (by rw [hcand,Uf hid];exact hlt)
        rw [hcand] at hst
        refine⟨by omega,0,_,true,hst.1,by omega,(fun _=>by omega),(fun h=>by cases h),?_,rfl⟩
        rw [List.drop_zero,← qCv hid]
       ·simp only [↓rA,rB,Nat.reduceEqDiff,reduceCtorEq,QA,gb,gr,g0,g1,g5,g7,g8,g9,Int.ofNat_lt,hi,hk,hx,hgg,hxg,List.length_map,qd _ _ _ hi,qd _ _ _ hk,F,htI,hlt,hwk]
        exact⟨0,d',ch,hD',hs1,hs2,fin0 (by rw [hcand];exact hlt),rfl,rfl⟩
     ·simp only [↓rA,rB,Nat.reduceEqDiff,reduceCtorEq,QA,gb,gr,g0,g1,g5,g7,g8,g9,hwi,hi,hgg,Int.ofNat_lt,Nat.lt_irrefl,List.length_map,qd _ _ _ hi]
      refine⟨0,d',ch,hD',hs1,hs2,fun h=>?_,rfl,rfl⟩
      obtain⟨q1,q2,q3⟩:=hs3 h
      refine⟨q1,fun j hj=>?_⟩
      by_cases e:j=i
      ·subst e
       exact fun k' hk'=>q3 k' (by rw [hgi] at hk';exact hk')
      ·exact q2 j (by omega)
    ·simp only [↓rA,rB,Nat.reduceEqDiff,reduceCtorEq,QA,gb,gr,g0,g1,g5,g7,g8,Int.ofNat_lt,Nat.lt_irrefl,List.length_map]
     refine⟨(d',ch),?_,0,hD',fun h=>?_,rfl,rfl⟩
     ·cases ch
      ·have:=(hs3 rfl).1
       subst this
       simp
      ·have:=hs2 rfl
       simp only [cond_true]
       omega
     ·obtain⟨q1,q2⟩:=hs3 h
      subst q1
      exact q2
end Go.Proofs.YtohdpcjaoiebkaaGreatDoor
set_option linter.unusedSimpArgs false
set_option maxRecDepth 100000
set_option linter.defProp false
namespace Go.Lo
theorem JF.le {gs:List (List Nat)} {t:Nat} {d d':List Int} (h:JF gs t d) (h':JF gs t d') (hf:∀ i,i < gs.length→JB gs t d' i) (hr:∀ g ∈ gs,∀ x ∈ g,x < gs.length):∀ (n:Nat) (i:Nat),i < gs.length→d.getD i 0≤n→d'.getD i 0≤d.getD i 0
 | 0,i,hi,hn=>by have:=(h.lo i hi).1;omega
 | n+1,i,hi,hn=>by
  rcases h.wit i hi with h1 | ⟨k,hk,h1⟩
  ·rw [h1];exact(h'.lo i hi).2
  ·have h2:=hf i hi k hk
   refine Int.le_trans h2 (Int.le_trans ?_ h1)
   simp only [w9] at h1 ⊢
   split
   ·exact Int.le_refl _
   ·rename_i hx
    rw [if_neg hx] at h1
    have hg:gs.getD i [] ∈ gs:=by
     rw [List.getD_eq_getElem?_getD,List.getElem?_eq_getElem hi];exact List.getElem_mem hi
    have hxl:(gs.getD i []).getD k 0 < gs.length:=hr _ hg _ (by
     rw [List.getD_eq_getElem?_getD (l:=gs.getD i []),List.getElem?_eq_getElem hk];exact List.getElem_mem hk)
    have:=JF.le h h' hf hr n _ hxl (by omega)
    omega
theorem JF.eq {gs:List (List Nat)} {t:Nat} {d d':List Int} (h:JF gs t d) (h':JF gs t d') (hf:∀ i,i < gs.length→JB gs t d i) (hf':∀ i,i < gs.length→JB gs t d' i) (hr:∀ g ∈ gs,∀ x ∈ g,x < gs.length) {i:Nat} (hi:i < gs.length):d.getD i 0=d'.getD i 0 :=
 Int.le_antisymm (JF.le h' h hf hr 1000 i hi (h'.lo i hi).2) (JF.le h h' hf' hr 1000 i hi (h.lo i hi).2)
theorem JF.next {gs:List (List Nat)} {t:Nat} {d:List Int} (h:JF gs t d) (hf:∀ i,i < gs.length→JB gs t d i) {i:Nat} (hi:i < gs.length) {m:Int} (hm:0 < m) (hm':m < 999) (hd:d.getD i 0=m+1):∃ k,k < (gs.getD i []).length∧d.getD ((gs.getD i []).getD k 0) 0=m:=by
 rcases h.wit i hi with h1 | ⟨k,hk,h1⟩
 ·omega
 ·have h2:=hf i hi k hk
  refine⟨k,hk,?_⟩
  simp only [w9] at h1 h2
  split at h1
  ·omega
  ·rename_i hx
   rw [if_neg hx] at h2
   omega
end Go.Lo
namespace Go.Proofs.YtohdpcjaoiebkaaGreatDoor
open Go.VL Go.Ar Go.Lo Go.Proofs.YtohdpcjaoiebkaaGreatDoor
def Zl:=(aI (aI (aI (aI Ty.c42 Ty.c43) (aI Ty.t126 (aI Ty.t22 Ty.t23))) (aI (aI Ty.t25 (aI Ty.t29 Ty.t3)) (aI Ty.t35 (aI Ty.t36 Ty.t38)))) (aI (aI (aI Ty.t4 (aI Ty.t40 Ty.t43)) (aI Ty.t45 (aI Ty.t56 Ty.t60))) (aI (aI Ty.t61 (aI Ty.t63 Ty.t69)) (aI Ty.t9 (aI Ty.t98 Ty.t99)))))
set_option maxHeartbeats 1000000 in
theorem qr8 (n:Nat) (c:Cat) (hn:n≤1000000) (hk:Qw n c):Ok Tryz.prog 20 [wT c] [] fun v bs rs=>(∃ l:List Str,l.length≤1001∧v=Xe l)∧bs=[]∧rs=[]:=by
 refine Ok.of_ex Ty.mixed Tryz.func20 rfl (by simp [Tryz.ntmps20]) (by kernel_rfl) fun F w0 I0=>?_
 simp only [↓rA,rB,qf,Nat.reduceLT]
 refine fun b1 h1=>?_;replace h1:=qn h1;try simp only [Nb] at h1
 simp only [↓rA,rB,Nat.reduceAdd,Nat.reduceEqDiff,Zl]
 refine qi [] _ (List.Perm.refl _) (qf9 n c hn hk) ?_
 rintro v bs rs ⟨⟨l,gs,hll,hgl,hgs,rfl⟩,rfl,rfl⟩
 have hr:∀ g ∈ gs,∀ x ∈ g,x < gs.length:=fun g hg x hx=>by rw [hgl];exact(hgs g hg).2 x hx
 have hg:∀ g ∈ gs,g.length≤gs.length:=fun g hg=>by rw [hgl];exact(hgs g hg).1
 have hN:gs.length≤1000000:=by omega
 clear hgs
 simp only [↓rA,rB,Nat.reduceEqDiff,Tryz.results20]
 refine qB Ty.mixed (by kernel_rfl) l.length (fun i S=>((S.σ 5=vint (-1)∧S.σ 6=vint 1000)∨∃ (a:Nat) (m:Int) (d:List Int),a < gs.length∧JF gs a d∧(∀ i,i < gs.length→JB gs a d i)∧d.getD a 0=m∧m < 1000∧S.σ 5=vint a∧S.σ 6=vint m)∧S.boxes=[(b1,.c (xz c))]∧S.rows=[]∧S.σ 3=Xe l∧S.σ 4=lG gs∧S.σ 7=vint i) ⟨0,?_⟩ (fun i S hi ⟨hbest,gb,gr,g3,g4,g7⟩=>?_) (fun S ⟨hbest,gb,gr,g3,g4,g7⟩=>?_)
 ·simp only [rB,Nat.reduceEqDiff]
  try exact .inl ⟨rfl,rfl⟩
 ·have hwi:=qk (i:=i) (N:=l.length) hi (by omega)
  have hig:i < gs.length:=by omega
  simp only [↓rA,rB,Nat.reduceEqDiff,Zl,gb,g3,g4,g7,Int.ofNat_lt,hi,List.length_map]
  refine qi [] _ (List.Perm.refl _) (U1 gs i hN hr hg) ?_
  rintro v bs rs ⟨⟨y,d,rfl,hD,hF⟩,rfl,rfl⟩
  have hid:i < d.length:=by rw [hD.len];exact hig
  have hb6:∃ m5 m6:Int,m6≤1000∧S.σ 5=vint m5∧S.σ 6=vint m6:=by
   rcases hbest with⟨q1,q2⟩ | ⟨a,m,d,_,_,_,_,hm,q1,q2⟩
   ·exact⟨_,_,by decide,q1,q2⟩
   ·exact⟨_,_,by omega,q1,q2⟩
  obtain⟨m5,m6,hm6,g5,g6⟩:=hb6
  rw [g5,g6] at hbest
  by_cases hlt:d[i] < m6
  ·simp only [↓rA,rB,Nat.reduceEqDiff,Zl,gr,g3,g4,g6,g7,Int.ofNat_lt,hid,List.length_map,qd _ _ _ hid,hlt,hwi]
   refine⟨0,.inr ⟨i,d[i],d,hig,hD,hF,Uf hid,by omega,rfl,rfl⟩,?_⟩
   rfl
  ·simp only [↓rA,rB,Nat.reduceEqDiff,Zl,gr,g3,g4,g5,g6,g7,Int.ofNat_lt,hid,List.length_map,qd _ _ _ hid,hlt,hwi]
   refine⟨0,hbest,?_⟩
   rfl
 ·rcases hbest with⟨g5,g6⟩ | ⟨a,m,d,ha,hD,hF,hm,hm1,g5,g6⟩
  ·simp only [↓rA,rB,Int.reduceLT,Nat.reduceEqDiff,Zl,gb,gr,g3,g5,g7,Int.ofNat_lt,Nat.lt_irrefl,List.length_map]
   exact⟨_,[],[],Le.nil 1,List.nil_sublist _,List.nil_sublist _,⟨[],by simp,rfl⟩,rfl,rfl⟩
  ·have ha0:¬ (a:Int) < 0:=by omega
   simp only [↓rA,rB,Nat.reduceEqDiff,Zl,gb,g3,g4,g5,g7,Int.ofNat_lt,Nat.lt_irrefl,List.length_map,ha0]
   refine qi [] _ (List.Perm.refl _) (U1 gs a hN hr hg) ?_
   rintro v bs rs ⟨⟨y,d',rfl,hD',hF'⟩,rfl,rfl⟩
   have hm':d'.getD a 0=m:=by rw [← hm];exact JF.eq hD' hD hF' hF hr ha
   have hal:a < l.length:=by omega
   have h1m:=(hD'.lo a ha).1
   rw [hm'] at h1m
   have hwm:IntKind.i64.wrap (m - 1)=(((m - 1).toNat:Nat):Int):=by rw [zl (by omega) (by omega)];omega
   simp only [↓rA,rB,Nat.reduceEqDiff,Nat.reduceLT,Nat.reduceLeDiff,Nat.reduceMul,Zl,gr,g3,g5,g6,Int.ofNat_lt,hal,List.length_map,qd _ _ _ hal,hwm]
   intro y1
   refine XE Ty.mixed (by kernel_rfl) (fun x:Nat × Nat=>x.1) (fun(x:Nat × Nat) S=>x.2 < gs.length∧x.1≤998∧(0 < x.1→d'.getD x.2 0=x.1+1)∧(∃ (z:Value) (w:List Str),w.length+x.1≤1000∧S.σ 10=.list (some z) 1 (w.map fun s=>[qm s])∧S.rows=[⟨z,1,9⟩])∧S.boxes=[(b1,.c (xz c))]∧S.σ 3=Xe l∧S.σ 4=lG gs∧S.σ 9=lI y d'∧S.σ 11=vint x.2∧S.σ 12=vint x.1) ((m - 1).toNat,a) ⟨_,_,List.Sublist.refl _,List.Sublist.refl _,?_⟩ (fun⟨q,a⟩ S ⟨ha,hq,hda,⟨z,w,hw,g10,gr⟩,gb,g3,g4,g9,g11,g12⟩=>?_)
   ·simp only [rB,Nat.reduceEqDiff,g3,g4]
    refine⟨ha,by omega,fun _=>by omega,y1,[l[a]],by simp;omega,rfl,rfl⟩
   ·simp only at ha hq hda hw g11 g12
    by_cases hq0:0 < q
    case neg =>
     have hq0':¬ (0:Int) < (q:Int):=by omega
     simp only [↓rA,rB,Nat.reduceEqDiff,gb,gr,g10,g12,hq0']
     exact⟨_,[],[],Le.list _ _ _,List.nil_sublist _,List.nil_sublist _,⟨w,by omega,rfl⟩,rfl,rfl⟩
    have hq0':(0:Int) < (q:Int):=by omega
    obtain⟨k0,hk0,hk1⟩:=hD'.next hF' ha (m:=(q:Int)) hq0' (by omega) (hda hq0)
    have hgi:gs.getD a []=gs[a]:=by simp [List.getD_eq_getElem?_getD,ha]
    have hgm:=List.getElem_mem ha
    have hgx:=hr _ hgm
    have hgl2:=hg _ hgm
    rw [hgi] at hk0 hk1
    generalize hgg:gs[a]=g at hgx hk0 hk1 hgl2
    simp only [↓rA,rB,g12,hq0']
    refine jf Ty.mixed (by kernel_rfl) (fun j:Nat=>k0 - j) (fun j S=>j≤k0∧S.σ 10=.list (some z) 1 (w.map fun s=>[qm s])∧S.rows=[⟨z,1,9⟩]∧S.boxes=[(b1,.c (xz c))]∧S.σ 3=Xe l∧S.σ 4=lG gs∧S.σ 9=lI y d'∧S.σ 11=vint a∧S.σ 12=vint q∧S.σ 13=vint j) 0 ⟨0,?_⟩ (fun j S ⟨hj,g10,gr,gb,g3,g4,g9,g11,g12,g13⟩=>?_)
    ·simp only [rB,Nat.reduceEqDiff,gb,gr,g3,g4,g9,g10,g11,g12]
     first | done | exact⟨Nat.zero_le _,rfl⟩
    ·have hjg:j < g.length:=by omega
     have hwj:=qk (i:=j) (N:=g.length) hjg (by omega)
     have hwq:IntKind.i64.wrap ((q:Int) - 1)=((q - 1:Nat):Int):=by rw [zl (by omega) (by omega)];omega
     have hx:=hgx _ (List.getElem_mem hjg)
     have hjx:g.getD j 0=g[j]:=by simp [List.getD_eq_getElem?_getD,hjg]
     generalize hxg:g[j]=x at hx hjx
     have hxd:x < d'.length:=by rw [hD'.len];exact hx
     have hxl:x < l.length:=by omega
     by_cases hc:d'[x]=(q:Int)
     ·simp only [↓rA,rB,Nat.reduceEqDiff,Nat.reduceLT,Nat.reduceLeDiff,Nat.reduceMul,Zl,gr,g3,g4,g9,g10,g11,g12,g13,Int.ofNat_lt,ha,hjg,hxd,hxl,hgg,hxg,List.length_map,qd _ _ _ ha,qd _ _ _ hjg,qd _ _ _ hxd,qd _ _ _ hxl,hc]
      intro y1
      refine xd ?_
      simp only [↓rA,rB,Nat.reduceEqDiff,g12,hwq,List.length_map]
      refine⟨(by first | omega | (simp;omega)),fun y2=>?_⟩
      refine⟨(q - 1,x),by omega,_,[⟨y2,1,9⟩],List.Sublist.refl _,List.Sublist.cons_cons _ (List.nil_sublist _),?_⟩
      simp only [rB,Nat.reduceEqDiff,gb,g3,g4,g9]
      refine⟨hx,by omega,fun h=>?_,y2,w++[l[x]],by simp;omega,by simp,rfl⟩
      ·rw [Uf hxd,hc];omega
     ·simp only [↓rA,rB,Nat.reduceEqDiff,Zl,gb,gr,g3,g4,g9,g10,g11,g12,g13,Int.ofNat_lt,ha,hjg,hxd,hgg,hxg,List.length_map,qd _ _ _ ha,qd _ _ _ hjg,qd _ _ _ hxd,hc,hwj]
      have hjk:j ≠ k0:=fun e=>by
       subst e
       rw [hjx,Uf hxd] at hk1
       exact hc hk1
      exact⟨j+1,by omega,0,by omega,rfl,rfl⟩
end Go.Proofs.YtohdpcjaoiebkaaGreatDoor
set_option linter.unusedSimpArgs false
set_option maxRecDepth 100000
set_option linter.defProp false
namespace Go.Proofs.YtohdpcjaoiebkaaGreatDoor
open Go.VL Go.Ar Go.Lo Go.Proofs.YtohdpcjaoiebkaaGreatDoor
theorem Yj (m:Nat) (h:m≤100000000):IntKind.i64.wrap (((m+1:Nat):Int) - 1)=(m:Int):=by
 rw [zl (by omega) (by omega)];omega
def qos:=(aI (aI (aI (aI Ty.c36 Ty.t126) (aI Ty.t22 Ty.t23)) (aI (aI Ty.t25 Ty.t27) (aI Ty.t29 (aI Ty.t3 Ty.t35)))) (aI (aI (aI Ty.t36 Ty.t38) (aI Ty.t4 (aI Ty.t40 Ty.t43))) (aI (aI Ty.t45 Ty.t60) (aI Ty.t61 (aI Ty.t63 Ty.t9)))))
theorem UW (c:Cat) (hl:c.tables.length≤1000000):OkI Tryz.prog 16 [wT c]:=by
 refine Ok.of_ex Ty.mixed Tryz.func16 rfl (by simp [Tryz.ntmps16]) (by kernel_rfl) fun F w0 I0=>?_
 simp only [↓rA,rB,qf,Nat.reduceLT]
 refine fun b1 h1=>?_;replace h1:=qn h1;try simp only [Nb] at h1
 simp only [↓rA,rB,Tryz.results16]
 refine qB Ty.mixed (by kernel_rfl) c.tables.length (fun i S=>S.boxes=[(b1,.c (xz c))]∧S.rows=[]∧S.σ 1=ptr b1∧S.σ 3=vint i) ⟨0,?_⟩ (fun i S hi ⟨gb,gr,g1,g3⟩=>?_) (fun S ⟨gb,gr,g1,g3⟩=>?_)
 ·simp only [rB,Nat.reduceEqDiff]
  try exact rfl
 ·have hwi:=qk (i:=i) (N:=c.tables.length) hi (by omega)
  simp only [↓rA,rB,Nat.reduceAdd,Nat.reduceEqDiff,qos,gb,g1,g3,Int.ofNat_lt,hi,List.length_map,qd _ _ _ hi]
  refine qi [] _ (List.Perm.refl _) (qjn _) ?_
  rintro v bs rs ⟨⟨k,rfl⟩,rfl,rfl⟩
  by_cases hk:k=0
  case neg =>
   simp only [↓rA,rB,Nat.reduceEqDiff,gr,hk]
   exact ZN _ _ _
  rcases i with _ | m
  ·simp only [↓rA,rB,Int.reduceLT,Int.reduceToNat,Nat.reduceAdd,Nat.reduceEqDiff,gr,g1,g3,hk]
   exact⟨0,rfl,rfl⟩
  ·have hm:m < c.tables.length:=by omega
   have hwp:=Yj m (by omega)
   have hp:(0:Int) < ((m+1:Nat):Int):=by omega
   simp only [↓rA,rB,Nat.reduceAdd,Nat.reduceEqDiff,qos,gr,g1,g3,hk,hwp,hp,Int.ofNat_lt,hi,hm,List.length_map,qd _ _ _ hi,qd _ _ _ hm]
   refine qe (fun hc=>?_) (fun hc=>?_)
   ·simp only [↓rA,rB,gr]
    exact ZN _ _ _
   ·simp only [↓rA,rB,Nat.reduceEqDiff,gr,g1,g3,hwi]
    first | exact⟨0,rfl⟩ | exact⟨0,trivial⟩
 ·simp only [↓rA,rB,Nat.reduceAdd,Nat.reduceEqDiff,qos,gb,gr,g1,g3,Int.ofNat_lt,Nat.lt_irrefl,List.length_map]
  exact ZN _ _ _
def qCs:=(aI (aI (aI (aI Ty.t126 Ty.t22) (aI Ty.t23 Ty.t25)) (aI (aI Ty.t29 Ty.t3) (aI Ty.t35 Ty.t36))) (aI (aI (aI Ty.t38 Ty.t40) (aI Ty.t43 Ty.t45)) (aI (aI Ty.t60 Ty.t61) (aI Ty.t63 Ty.t9))))
theorem UG (n:Nat) (c:Cat) (hn:n≤1000000) (hk:Qw n c):zc Tryz.prog 17 [wT c] (kA (c.features++c.drafts++c.past)):=by
 have h1:=Nat.le_trans hk.lf hn
 have h2:=Nat.le_trans hk.ld hn
 have h3:=Nat.le_trans hk.lp hn
 refine Ok.of_ex Ty.mixed Tryz.func17 rfl (by simp [Tryz.ntmps17]) (by kernel_rfl) fun F w0 I0=>?_
 simp only [↓rA,rB,qf,Nat.reduceLT]
 refine fun b1 hb=>?_;replace hb:=qn hb;try simp only [Nb] at hb
 simp only [↓rA,rB]
 refine XB.l ?_
 simp only [↓rA,rB,Nat.reduceAdd,Nat.reduceEqDiff,Nat.reduceLT,Nat.reduceMul,qCs,Tryz.results17]
 intro y1
 refine⟨by simp only [List.length_map];omega,fun y2=>⟨by simp only [List.length_map];omega,fun y3=>⟨by simp only [List.length_append,List.length_map];omega,fun y4=>⟨_,[],[],?_,List.nil_sublist _,List.nil_sublist _,rfl,rfl,rfl⟩⟩⟩⟩
 rw [kA,List.map_append,List.map_append]
 exact Le.list _ _ _
theorem ZM {p:Prop} (n:Int) (h:n=0→p) (X:List (Nat × B)) (Y:List Row):∃ v bs' rs',Le (vint n) v∧bs'.Sublist X∧rs'.Sublist Y∧(∃ k:Int,v=vint k∧(k=0→p))∧bs'=[]∧rs'=[] :=
 ⟨_,[],[],Le.refl _,List.nil_sublist _,List.nil_sublist _,⟨n,rfl,h⟩,rfl,rfl⟩
def K0:=(aI (aI (aI Ty.c37 (aI Ty.c38 Ty.c39)) (aI (aI Ty.t126 Ty.t27) (aI Ty.t29 Ty.t3))) (aI (aI (aI Ty.t35 Ty.t36) (aI Ty.t38 Ty.t4)) (aI (aI Ty.t40 Ty.t43) (aI Ty.t45 Ty.t9))))
theorem qpv (f:Ftr) (hf:qdv f) (hb:qZ f.body≤big):Ok Tryz.prog 18 [.agg (uN f)] [] fun v bs rs=>(∃ k:Int,v=vint k∧(k=0→qY f.body=0))∧bs=[]∧rs=[]:=by
 have hs:=YO f.body hf.2 hb
 simp only [vE,qx f.body,qW] at hs ⊢
 refine Ok.of_ex Ty.mixed Tryz.func18 rfl (by simp [Tryz.ntmps18]) (by kernel_rfl) fun F w0 I0=>?_
 simp only [↓rA,rB,qf,Nat.reduceLT]
 refine fun b1 h1=>?_;replace h1:=qn h1;try simp only [Nb] at h1
 simp only [↓rA,rB,Nat.reduceAdd,Nat.reduceEqDiff,K0]
 repeat' (first
  | (refine qe (fun hc=>?_) (fun hc=>?_) <;> (first | (subst hc;try simp only [↓rA,rB,qb,qf,Int.reduceEq,Int.reduceLE,Int.reduceLT,Int.reduceToNat,Nat.reduceAdd,Nat.reduceEqDiff,Nat.reduceLT,Nat.reduceLeDiff,Nat.reduceMul,Nat.reduceSub,reduceCtorEq,K0,Tryz.results18,h1]) | (try simp only [↓rA,rB,Nat.reduceAdd,Nat.reduceEqDiff,Nat.reduceLeDiff,K0,Tryz.results18,hc])))
  | (refine qr (fun hc=>?_) (fun hc=>?_) <;> (first | (subst hc;try simp only [↓rA,rB,qb,qf,Int.reduceEq,Int.reduceLE,Int.reduceLT,Int.reduceToNat,Nat.reduceAdd,Nat.reduceEqDiff,Nat.reduceLT,Nat.reduceLeDiff,Nat.reduceMul,Nat.reduceSub,reduceCtorEq,K0,Tryz.results18,h1]) | (try simp only [↓rA,rB,Nat.reduceAdd,Nat.reduceEqDiff,K0,Tryz.results18,hc])))
  | (refine qq (fun hc=>?_) (fun hc=>?_) <;> (first | (subst hc;try simp only [↓rA,rB,qb,qf,Int.reduceEq,Int.reduceLE,Int.reduceLT,Int.reduceToNat,Nat.reduceAdd,Nat.reduceEqDiff,Nat.reduceLT,Nat.reduceLeDiff,Nat.reduceMul,Nat.reduceSub,reduceCtorEq,K0,Tryz.results18,h1]) | (try simp only [↓rA,rB,Nat.reduceAdd,Nat.reduceEqDiff,K0,Tryz.results18,hc])))
  | (refine qg _ (zJ _) ?_;try simp only [↓rA,rB,Nat.reduceEqDiff])
  | (refine qg _ (Zd _ _ _) ?_;try simp only [↓rA,rB])
  | (refine qg _ (hs) ?_;try simp only [↓rA,rB,Tryz.results18])
  | exact ZM _ (fun h=>h) _ _
  | exact ZM _ (fun h=>absurd h (by decide)) _ _
  | exact ZM _ (fun h=>by simp_all) _ _)
def qy7 (c:Cat):Prop:=c.features.length≤32∧c.drafts.length≤32∧∀ f ∈ c.features++c.drafts++c.past,qY f.body=0
def xJ:=(aI (aI (aI (aI Ty.c16 (aI Ty.c17 Ty.c18)) (aI Ty.c19 (aI Ty.c20 Ty.t126))) (aI (aI Ty.t22 (aI Ty.t23 Ty.t25)) (aI Ty.t27 (aI Ty.t29 Ty.t3)))) (aI (aI (aI Ty.t35 (aI Ty.t36 Ty.t38)) (aI Ty.t4 (aI Ty.t40 Ty.t43))) (aI (aI Ty.t45 (aI Ty.t60 Ty.t61)) (aI Ty.t63 (aI Ty.t69 Ty.t9)))))
set_option maxHeartbeats 2000000 in
theorem qgp (n:Nat) (c:Cat) (hn:n≤1000000) (hk:Qw n c):Ok Tryz.prog 5 [wT c] [] fun v bs rs=>(∃ k:Int,v=vint k∧(k=0→qy7 c))∧bs=[]∧rs=[]:=by
 have h1:=Nat.le_trans hk.lf hn
 have h2:=Nat.le_trans hk.ld hn
 have h3:=Nat.le_trans hk.lp hn
 have h4:=Nat.le_trans hk.lt hn
 refine Ok.of_exM [(25,2)] Ty.mixed Tryz.func5 rfl (by simp [Tryz.ntmps5]) (by kernel_rfl) fun F w0 I0=>?_
 simp only [↓rA,rB,qf,Nat.reduceLT]
 refine fun b1 hb=>?_;replace hb:=qn hb;try simp only [Nb] at hb
 simp only [↓zA,↓xm,↓kp,xy,qs,wh,List.toList_toArray,Tryz.results5]
 rw [z6]
 by_cases q1:(16:Int) < c.tables.length
 ·simp only [↓rA,rB,Nat.reduceAdd,Nat.reduceEqDiff,xJ,List.length_map,q1]
  exact ZM _ (fun h=>absurd h (by decide)) _ _
 by_cases q2:(32:Int) < c.features.length
 ·simp only [↓rA,rB,Nat.reduceAdd,Nat.reduceEqDiff,xJ,List.length_map,q1,q2]
  exact ZM _ (fun h=>absurd h (by decide)) _ _
 by_cases q3:(32:Int) < c.drafts.length
 ·simp only [↓rA,rB,Nat.reduceAdd,Nat.reduceEqDiff,xJ,List.length_map,q1,q2,q3]
  exact ZM _ (fun h=>absurd h (by decide)) _ _
 by_cases q4:(32:Int) < c.past.length
 ·simp only [↓rA,rB,Nat.reduceAdd,Nat.reduceEqDiff,xJ,List.length_map,q1,q2,q3,q4]
  exact ZM _ (fun h=>absurd h (by decide)) _ _
 simp only [↓rA,rB,Nat.reduceAdd,Nat.reduceEqDiff,xJ,List.length_map,q1,q2,q3,q4]
 refine qi [] _ (List.Perm.refl _) (UW c h4) ?_
 rintro v bs rs ⟨⟨k,rfl⟩,rfl,rfl⟩
 by_cases hk0:k=0
 case neg =>
  simp only [↓rA,rB,Nat.reduceEqDiff,hk0]
  exact ZM _ (fun h=>absurd h hk0) _ _
 simp only [↓rA,rB,Nat.reduceAdd,Nat.reduceEqDiff,xJ,hk0]
 refine qg _ (UG n c hn hk) ?_
 have hvf:∀ f ∈ c.features++c.drafts++c.past,qdv f∧qZ f.body≤big:=fun f hf=>by
  rcases List.mem_append.1 hf with hf | hf
  ·rcases List.mem_append.1 hf with hf | hf
   ·exact hk.ff f hf
   ·exact hk.fd f hf
  ·exact hk.fp f hf
 have hvl:(c.features++c.drafts++c.past).length≤96:=by
  simp only [List.length_append];omega
 generalize hvs:c.features++c.drafts++c.past=vs at hvf hvl
 have hw5:IntKind.i64.wrap ((c.features.length:Int)+c.drafts.length)=(c.features.length:Int)+c.drafts.length:=zl (by omega) (by omega)
 simp only [↓rA,rB,Nat.reduceEqDiff,xJ,List.length_map,hw5]
 refine qB Ty.mixed (by kernel_rfl) vs.length (fun i S=>(∀ f ∈ vs.take i,qY f.body=0)∧S.boxes=[(b1,.c (xz c))]∧S.rows=[]∧S.σ 1=ptr b1∧S.σ 4=kA vs∧S.σ 5=vint ((c.features.length:Int)+c.drafts.length)∧S.σ 6=vint i) ⟨0,?_⟩ (fun i S hi ⟨hsh,gb,gr,g1,g4,g5,g6⟩=>?_) (fun S ⟨hsh,gb,gr,g1,g4,g5,g6⟩=>?_)
 ·simp only [rB,Nat.reduceEqDiff]
  exact fun f hf=>by cases hf
 ·have hwi:=qk (i:=i) (N:=vs.length) hi (by omega)
  have hq:=qpv vs[i] (hvf _ (List.getElem_mem hi)).1 (hvf _ (List.getElem_mem hi)).2
  rw [qW] at hq
  simp only [↓rA,rB,Nat.reduceAdd,Nat.reduceEqDiff,xJ,gb,g4,g6,Int.ofNat_lt,hi,List.length_map,qd _ _ _ hi,qW vs[i]]
  refine qi [] _ (List.Perm.refl _) hq ?_
  rintro v bs rs ⟨⟨k,rfl,hkk⟩,rfl,rfl⟩
  by_cases hk0:k=0
  case neg =>
   simp only [↓rA,rB,Nat.reduceEqDiff,gr,hk0]
   exact ZM _ (fun h=>absurd h hk0) _ _
  simp only [↓zA,↓xm,↓kp,xy,qct,Kc,W9,qs,uz,qaw,uK,List.nil_append,List.append_nil,Int.toNat_natCast,gr,hk0]
  have hsh':∀ f ∈ vs.take (i+1),qY f.body=0:=fun f hf=>by
   rw [List.take_succ_eq_append_getElem hi,List.mem_append,List.mem_singleton] at hf
   rcases hf with hf | rfl
   ·exact hsh f hf
   ·exact hkk hk0
  clear hsh
  rw [z6,z6]
  simp only [↓qjd,↓qje,↓jI,↓zA,↓xm,↓qi6,↓qdr,xy,qs,uz,uK,wh,xW,qba,qdc,kD,eq_self,if_true,decide_true,Bool.not_true]
  rw [z6]
  refine kz (fun S=>S.boxes=[(b1,.c (xz c))]∧S.rows=[]∧S.σ 1=ptr b1∧S.σ 4=kA vs∧S.σ 5=vint ((c.features.length:Int)+c.drafts.length)∧S.σ 6=vint i∧∃ t:Bool,(t=false→0 < i)∧S.σ 7=qv t) ?_ ?_
  ·rcases i with _ | m
   ·simp only [↓rA,rB,Nat.reduceAdd,Nat.reduceEqDiff,Nat.reduceLT,g1,g4,g5,g6,List.length_map]
    exact⟨true,(fun h=>by cases h),rfl⟩
   ·have e0:¬ ((m+1:Nat):Int)=0:=by omega
    simp only [↓rA,rB,Nat.reduceAdd,Nat.reduceEqDiff,xJ,g1,g6,List.length_map,e0]
    repeat' (first
     | (refine qe (fun hc=>?_) (fun hc=>?_) <;> (first | (subst hc;try simp only [↓rA,rB,qb,qf,Int.reduceEq,Int.reduceLE,Int.reduceLT,Int.reduceToNat,Nat.reduceAdd,Nat.reduceEqDiff,Nat.reduceLT,Nat.reduceLeDiff,Nat.reduceMul,Nat.reduceSub,reduceCtorEq,xJ,Tryz.results5,gb,gr,g1,g4,g5,g6,hb,List.length_map,e0]) | (try simp only [↓rA,rB,qb,qf,Int.reduceEq,Int.reduceLE,Int.reduceLT,Int.reduceToNat,Nat.reduceAdd,Nat.reduceEqDiff,Nat.reduceLT,Nat.reduceLeDiff,Nat.reduceMul,Nat.reduceSub,reduceCtorEq,xJ,Tryz.results5,gb,gr,g1,g4,g5,g6,hb,List.length_map,e0,hc])))
     | (refine qr (fun hc=>?_) (fun hc=>?_) <;> (first | (subst hc;try simp only [↓rA,rB,qb,qf,Int.reduceEq,Int.reduceLE,Int.reduceLT,Int.reduceToNat,Nat.reduceAdd,Nat.reduceEqDiff,Nat.reduceLT,Nat.reduceLeDiff,Nat.reduceMul,Nat.reduceSub,reduceCtorEq,xJ,Tryz.results5,gb,gr,g1,g4,g5,g6,hb,List.length_map,e0]) | (try simp only [↓rA,rB,qb,qf,Int.reduceEq,Int.reduceLE,Int.reduceLT,Int.reduceToNat,Nat.reduceAdd,Nat.reduceEqDiff,Nat.reduceLT,Nat.reduceLeDiff,Nat.reduceMul,Nat.reduceSub,reduceCtorEq,xJ,Tryz.results5,gb,gr,g1,g4,g5,g6,hb,List.length_map,e0,hc])))
     | (refine qq (fun hc=>?_) (fun hc=>?_) <;> (first | (subst hc;try simp only [↓rA,rB,qb,qf,Int.reduceEq,Int.reduceLE,Int.reduceLT,Int.reduceToNat,Nat.reduceAdd,Nat.reduceEqDiff,Nat.reduceLT,Nat.reduceLeDiff,Nat.reduceMul,Nat.reduceSub,reduceCtorEq,xJ,Tryz.results5,gb,gr,g1,g4,g5,g6,hb,List.length_map,e0]) | (try simp only [↓rA,rB,Nat.reduceEqDiff,g1,g4,g5,g6,List.length_map,hc])))
     | exact⟨_,fun _=>Nat.succ_pos _,rfl⟩)
  rintro S ⟨gb,gr,g1,g4,g5,g6,t,ht,g7⟩
  rw [z6]
  refine kz (fun S=>S.boxes=[(b1,.c (xz c))]∧S.rows=[]∧S.σ 1=ptr b1∧S.σ 4=kA vs∧S.σ 5=vint ((c.features.length:Int)+c.drafts.length)∧S.σ 6=vint i) ?_ ?_
  ·cases t
   ·obtain⟨m,rfl⟩:∃ m,i=m+1:=⟨i - 1,by have:=ht rfl;omega⟩
    have hm:m < vs.length:=by omega
    have hwp:=Yj m (by omega)
    have c1:=qW vs[m+1]
    have c2:=qW vs[m]
    cases hcA:Op.bytesLess vs[m+1].name.data.toList vs[m].name.data.toList <;> by_cases hcB:(((m+1:Nat):Int) < (c.features.length:Int)+c.drafts.length) <;> cases hcC:decide (vs[m+1].name=vs[m].name) <;> simp only [↓rA,rB,Nat.reduceEqDiff,xJ,gb,gr,g1,g4,g5,g6,g7,hwp,Int.ofNat_lt,hi,hm,List.length_map,qd _ _ _ hi,qd _ _ _ hm,c1,c2,hcA,hcB,hcC]
    all_goals exact ZM _ (fun h=>absurd h (by decide)) _ _
   ·simp only [↓rA,rB,Nat.reduceEqDiff,gb,gr,g1,g4,g5,g6,g7]
  rintro S ⟨gb,gr,g1,g4,g5,g6⟩
  simp only [↓rA,rB]
  refine qB Ty.mixed (by kernel_rfl) i (fun j S=>S.boxes=[(b1,.c (xz c))]∧S.rows=[]∧S.σ 1=ptr b1∧S.σ 4=kA vs∧S.σ 5=vint ((c.features.length:Int)+c.drafts.length)∧S.σ 6=vint i∧S.σ 8=vint j) ⟨0,?_⟩ (fun j S hj ⟨gb,gr,g1,g4,g5,g6,g8⟩=>?_) (fun S ⟨gb,gr,g1,g4,g5,g6,g8⟩=>?_)
  ·simp only [rB,Nat.reduceEqDiff,gb,gr,g1,g4,g5,g6]
   try exact rfl
  ·have hwj:=qk (i:=j) (N:=i) hj (by omega)
   have hjl:j < vs.length:=Nat.lt_trans hj hi
   have c1:=qW vs[i]
   have c2:=qW vs[j]
   simp only [↓rA,rB,Nat.reduceEqDiff,xJ,g4,g6,g8,Int.ofNat_lt,hi,hj,hjl,List.length_map,qd _ _ _ hi,qd _ _ _ hjl,c1,c2]
   repeat' (first
    | (refine qe (fun hc=>?_) (fun hc=>?_) <;> (first | (subst hc;try simp only [↓rA,rB,qb,qf,Int.reduceEq,Int.reduceLE,Int.reduceLT,Int.reduceToNat,Nat.reduceAdd,Nat.reduceEqDiff,Nat.reduceLT,Nat.reduceLeDiff,Nat.reduceMul,Nat.reduceSub,reduceCtorEq,xJ,Tryz.results5,gb,gr,g1,g4,g5,g6,hb,g8,hwj,Int.ofNat_lt,hi,hj,hjl,List.length_map,qd _ _ _ hi,qd _ _ _ hjl,c1,c2]) | (try simp only [↓rA,rB,Nat.reduceEqDiff,gb,gr,g1,g4,g5,g6,g8,hwj,qd _ _ _ hi,qd _ _ _ hjl,c1,c2,hc])))
    | (refine qr (fun hc=>?_) (fun hc=>?_) <;> (first | (subst hc;try simp only [↓rA,rB,qb,qf,Int.reduceEq,Int.reduceLE,Int.reduceLT,Int.reduceToNat,Nat.reduceAdd,Nat.reduceEqDiff,Nat.reduceLT,Nat.reduceLeDiff,Nat.reduceMul,Nat.reduceSub,reduceCtorEq,xJ,Tryz.results5,gb,gr,g1,g4,g5,g6,hb,g8,hwj,Int.ofNat_lt,hi,hj,hjl,List.length_map,qd _ _ _ hi,qd _ _ _ hjl,c1,c2]) | (try simp only [↓rA,rB,Nat.reduceEqDiff,xJ,gb,gr,g1,g4,g5,g6,g8,hwj,Int.ofNat_lt,hi,hjl,List.length_map,qd _ _ _ hi,qd _ _ _ hjl,c1,c2,hc])))
    | (refine qq (fun hc=>?_) (fun hc=>?_) <;> (first | (subst hc;try simp only [↓rA,rB,qb,qf,Int.reduceEq,Int.reduceLE,Int.reduceLT,Int.reduceToNat,Nat.reduceAdd,Nat.reduceEqDiff,Nat.reduceLT,Nat.reduceLeDiff,Nat.reduceMul,Nat.reduceSub,reduceCtorEq,xJ,Tryz.results5,gb,gr,g1,g4,g5,g6,hb,g8,hwj,Int.ofNat_lt,hi,hj,hjl,List.length_map,qd _ _ _ hi,qd _ _ _ hjl,c1,c2]) | (try simp only [↓rA,rB,qb,qf,Int.reduceEq,Int.reduceLE,Int.reduceLT,Int.reduceToNat,Nat.reduceAdd,Nat.reduceEqDiff,Nat.reduceLT,Nat.reduceLeDiff,Nat.reduceMul,Nat.reduceSub,reduceCtorEq,xJ,Tryz.results5,gb,gr,g1,g4,g5,g6,hb,g8,hwj,Int.ofNat_lt,hi,hj,hjl,List.length_map,qd _ _ _ hi,qd _ _ _ hjl,c1,c2,hc])))
    | exact ZM _ (fun h=>absurd h (by decide)) _ _
    | exact⟨0,rfl⟩
    | exact⟨0,trivial⟩
    | exact⟨0,rfl,rfl⟩)
  ·simp only [↓rA,rB,Nat.reduceEqDiff,gb,gr,g1,g4,g5,g6,g8,hwi,Int.ofNat_lt,Nat.lt_irrefl]
   first | exact⟨0,hsh',rfl⟩ | exact⟨0,hsh',trivial⟩ | exact⟨0,hsh',rfl,rfl⟩
 ·simp only [↓rA,rB,Nat.reduceEqDiff,xJ,g4,g6,Int.ofNat_lt,Nat.lt_irrefl,List.length_map]
  refine qB Ty.mixed (by kernel_rfl) c.features.length (fun i S=>S.boxes=[(b1,.c (xz c))]∧S.rows=[]∧S.σ 1=ptr b1∧S.σ 9=vint i) ⟨0,?_⟩ (fun i S hi ⟨gb,gr,g1,g9⟩=>?_) (fun S ⟨gb,gr,g1,g9⟩=>?_)
  ·simp only [rB,Nat.reduceEqDiff,gb,gr,g1]
   try exact rfl
  ·have hwi:=qk (i:=i) (N:=c.features.length) hi (by omega)
   have hff:=hk.ff _ (List.getElem_mem hi)
   have hq:=qcn n c c.features[i] hn hk hff.1 hff.2
   rw [qW] at hq
   simp only [↓rA,rB,Nat.reduceAdd,Nat.reduceEqDiff,reduceCtorEq,xJ,gb,g1,g9,Int.ofNat_lt,hi,List.length_map,qd _ _ _ hi,qW c.features[i]]
   refine wu hq ?_
   rintro v bs rs ⟨⟨k,rfl⟩,rfl,rfl⟩
   refine⟨rfl,?_⟩
   by_cases hk0:k=0
   case neg =>
    simp only [↓rA,rB,Nat.reduceEqDiff,reduceCtorEq,gb,gr,hk0]
    exact ZM _ (fun h=>absurd h hk0) _ _
   simp only [↓rA,rB,Nat.reduceEqDiff,reduceCtorEq,gb,gr,g1,g9,hk0,hwi]
   first | exact⟨0,rfl⟩ | exact⟨0,trivial⟩ | exact⟨0,rfl,rfl⟩
  ·simp only [↓rA,rB,Nat.reduceAdd,Nat.reduceEqDiff,xJ,gb,g1,g9,Int.ofNat_lt,Nat.lt_irrefl,List.length_map]
   refine qi [] _ (List.Perm.refl _) (qr8 n c hn hk) ?_
   rintro v bs rs ⟨⟨l,hl,rfl⟩,rfl,rfl⟩
   simp only [↓rA,rB,xJ,gr,List.length_map]
   rw [List.take_length] at hsh
   subst hvs
   refine qe (fun hc=>?_) (fun hc=>?_)
   ·simp only [↓rA,rB,gr]
    exact ZM _ (fun h=>absurd h (by decide)) _ _
   ·simp only [↓rA,rB,gr]
    exact ZM _ (fun _=>⟨by omega,by omega,hsh⟩) _ _
end Go.Proofs.YtohdpcjaoiebkaaGreatDoor
set_option linter.unusedSimpArgs false
set_option maxRecDepth 100000
namespace Go.VL
open Go.RowKit Go.Sort Go.Shelf Go.Lib Go.Proofs
theorem Ok.growNil {P:Program} {ρ:Ren} (L:Lays8.n4 P ρ) (k by_:Nat) (zs:List Value) (hk:qV P (ρ.t 25)=some k) (hz:z7 P (ρ.t 25)=some zs) (hy:xk P (ρ.t 25)=some by_) (hs0:0 < k) (hzl:zs.length=k) (n:Nat) (hn:0 < n) (hbig:n * by_≤140737488355328) (hn9:n≤1000000000) :
  Ok P (ρ.f 4) [.lit (.slice none 0 0),.lit (.int .i64 n)] [] fun v bs rs=>∃ y,v=.list (some y) k []∧bs=[]∧rs=[⟨y,k,ρ.t 25⟩]:=by
 obtain⟨i0,hi0,rfl⟩:=Option.map_eq_some_iff.1 (yD hk)
 have hz':=Zc hz
 rw [hi0,Option.bind_some] at hz'
 obtain⟨z,hz0,rfl⟩:=Option.map_eq_some_iff.1 hz'
 unfold xk at hy
 rw [hi0,Option.map_some] at hy
 obtain rfl:=Option.some.inj hy
 have hzs:z.cells.size=i0.size:=by rw [← hzl,Array.length_toList]
 intro w I xs hr hH
 obtain rfl:xs=[.slice none 0 0,.int .i64 n]:=by
  match xs,hr with
  | [x,y],hr=>simp only [V.reps,V.rep,and_true] at hr;rw [hr.1,hr.2]
  | [],hr=>simp [V.reps] at hr
  | [_],hr=>simp [V.reps] at hr
  | _::_::_::_,hr=>simp [V.reps] at hr
 refine(Any8.slices_Grow_grow L i0 z hi0 hz0 hs0 none 0 0 n [] w (Nat.le_refl _) (by omega) (by rw [Nat.zero_add];exact hbig) (by omega) (by simp) (fun _=>rfl) (fun a h=>by cases h)).mono fun e w' ⟨he,hw⟩=>?_
 rw [Nat.zero_add] at he hw
 have hg:=grownCap_ge w n 0 (ρ.t 25)
 have hm:=grownCap_le_maxLen w n 0 (ρ.t 25) (by unfold maxLen;omega)
 generalize grownCap w n 0 (ρ.t 25)=G at he hw hg hm
 generalize hO:(#[]++Builtin.zeroCells z.cells (n - 0)++Builtin.zeroCells z.cells (G - n):Array Value)=cur at hw
 have hsz:cur.size=G * i0.size:=by
  rw [← hO]
  simp only [Array.size_append,size_zeroCells,hzs]
  rw [show (#[]:Array Value).size=0 from rfl,Nat.sub_zero,Nat.zero_add,← Nat.add_mul]
  congr 1;omega
 have hK:qJ (fun b=>b < w.heap.size) w I w' I:=by
  rw [hw]
  exact(qJ.drew _ w I).trans (qJ.new (w:=w.drew) _ hH.inn)
 have hself:w'.heap[w.heap.size]? = some (.cells cur (ρ.t 25) (0,0)):=by rw [hw];exact jV w.drew _
 have hnI:∀ o,¬ I w.heap.size o:=fun o h=>Nat.lt_irrefl _ (hH.inn _ _ h)
 refine⟨_,_,[],[⟨.slice (some ⟨w.heap.size,0,none⟩) 0 G,i0.size,ρ.t 25⟩],I,he,?_,hK.mono fun b' hb'=>hb'.1,⟨by simp,fun r hr'=>?_,(by show ([w.heap.size]:List Nat).Nodup;simp),fun b' o hi=>Nat.lt_of_lt_of_le (hH.inn b' o hi) hK.size,hH.glob.mono hK.stays⟩,fun b' hb' h=>?_,_,rfl,rfl,rfl⟩
 ·simp only [V.rep]
  exact⟨fun y hy=>(Option.some.inj hy),_,_,rfl,Nat.zero_le _,.inl trivial⟩
 ·rw [List.mem_singleton.1 hr']
  exact⟨hs0,⟨ρ.t 25,[],by simp [JR],.inr ⟨_,_,cur,rfl,Nat.zero_le _,hself,Nat.zero_le _,hm,hsz,by simp [JR]⟩⟩,fun g hg' o _=>by
   simp [Value.ownBlock] at hg'
   rw [← hg'];exact hnI o⟩
 ·have h2:b' ∈ [w.heap.size]:=hb'
  rw [List.mem_singleton] at h2
  rw [h2] at h
  exact Nat.lt_irrefl _ h.1
end Go.VL
namespace Go.Proofs.YtohdpcjaoiebkaaGreatDoor
open Go.VL Go.Ar Go.Lo Go.Pr Go.Proofs.YtohdpcjaoiebkaaGreatDoor Go.Shelf
theorem qvo (n:Nat) (hn:0 < n) (h9:n≤1000):Ok Tryz.prog 44 [nilS,vint n] [] fun v bs rs=>∃ y,v=.list (some y) 18 []∧bs=[]∧rs=[⟨y,18,45⟩]:=by
 exact Ok.growNil Tryz.growF 18 _ _ Ty.sz45 Ty.zr45 Ty.by45 (by decide) (by rfl) n hn (by omega) (by omega)
end Go.Proofs.YtohdpcjaoiebkaaGreatDoor
set_option linter.unusedSimpArgs false
set_option maxRecDepth 100000
set_option linter.defProp false
namespace Go.Proofs.YtohdpcjaoiebkaaGreatDoor
open Go.VL Go.Ar Go.Lo Go.Pr Go.Proofs.YtohdpcjaoiebkaaGreatDoor Go.Shelf
def qB6:=(aI (aI (aI Ty.t126 (aI Ty.t20 Ty.t23)) (aI Ty.t29 (aI Ty.t3 Ty.t35))) (aI (aI Ty.t36 (aI Ty.t38 Ty.t4)) (aI (aI Ty.t40 Ty.t43) (aI Ty.t45 Ty.t9))))
theorem qrg:zc Tryz.prog 44 [nilS,vint 0] nilS:=by
 refine Ok.of_ex Ty.mixed Tryz.func44 rfl (by simp [Tryz.ntmps44]) (by kernel_rfl) fun F w0 I0=>?_
 simp only [↓rA,rB,simprocAttr,qB6]
 exact qa rfl
theorem Vf {α:Type} (L:List (List α)) (i:Nat) (h:i < L.length):(L.take (i+1)).flatten=(L.take i).flatten++L[i]:=by
 rw [List.take_succ_eq_append_getElem h,List.flatten_append];simp
theorem V9 {α:Type} (L:List (List α)) (i:Nat):(L.take i).flatten.length≤L.flatten.length:=by
 have:L.flatten=(L.take i).flatten++(L.drop i).flatten:=by rw [← List.flatten_append,List.take_append_drop]
 rw [this,List.length_append];omega
def Yu:=(aI (aI (aI Ty.c44 (aI Ty.t102 Ty.t126)) (aI (aI Ty.t20 Ty.t23) (aI Ty.t29 Ty.t3))) (aI (aI (aI Ty.t35 Ty.t36) (aI Ty.t38 Ty.t4)) (aI (aI Ty.t40 Ty.t43) (aI Ty.t45 Ty.t9))))
theorem qmj (own:Option Value) (L:List (List Ftr)) (hL:L.length≤1000) (hl:L.flatten.length≤1000):zc Tryz.prog 21 [.list own 1 (L.map fun l=>[kA l])] (kA L.flatten):=by
 refine Ok.of_ex Ty.mixed Tryz.func21 rfl (by simp [Tryz.ntmps21]) (by kernel_rfl) fun F w0 I0=>?_
 simp only [↓rA,rB,simprocAttr,Yu,Tryz.results21]
 refine qB Ty.mixed (by kernel_rfl) L.length (fun i S=>S.boxes=[]∧S.rows=[]∧S.σ 0=.list own 1 (L.map fun l=>[kA l])∧S.σ 3=vint (L.take i).flatten.length∧S.σ 9=.list own 1 (L.map fun l=>[kA l])∧S.σ 10=vint L.length∧S.σ 11=vint i) ⟨0,?_⟩ (fun i S hi ⟨gb,gr,g0,g3,g9,g10,g11⟩=>?_) (fun S ⟨gb,gr,g0,g3,g9,g10,g11⟩=>?_)
 ·simp only [rB,simprocAttr,List.length_map]
  try exact rfl
 ·have hwi:=qk (i:=i) (N:=L.length) hi (by omega)
  have h1:=V9 L i
  have h2:=V9 L (i+1)
  have h3:=Vf L i hi
  have hw:IntKind.i64.wrap (((L.take i).flatten.length:Nat)+(L[i].length:Nat))=(((L.take (i+1)).flatten.length:Nat):Int):=by
   rw [h3,List.length_append] at h2 ⊢
   rw [zl (by omega) (by omega)];omega
  have hp:¬ (((L.take (i+1)).flatten.length:Nat):Int) < 0:=by omega
  simp only [↓rA,rB,simprocAttr,Yu,gb,gr,g0,g3,g9,g10,g11,Int.ofNat_lt,hi,List.length_map,qd _ _ _ hi,hw,hp,hwi]
  exact⟨0,trivial⟩
 rw [List.take_length] at g3
 simp only [↓rA,rB,simprocAttr,Yu,gb,g3,g10,g11,Int.ofNat_lt,Nat.lt_irrefl]
 rcases Nat.eq_zero_or_pos L.flatten.length with hz | hz
 case' inl =>
  rw [hz]
  refine qg _ qrg ?_
  simp only [↓rA,rB,simprocAttr,Yu,gr,g0]
  refine zC.nilRow 6 18 45 (by simp only [rB,simprocAttr]) (by decide) ?_
  obtain⟨y,hy⟩:∃ y:Value,y=nilv:=⟨_,rfl⟩
 case' inr =>
  refine qi [] _ (List.Perm.refl _) (qvo _ hz hl) ?_
  rintro v bs rs ⟨y,rfl,rfl,rfl⟩
  simp only [↓rA,rB,simprocAttr,Yu,gr,g0]
  have hy:=trivial
 all_goals
  refine yr Ty.mixed (by kernel_rfl) L.length (fun i S=>∃ y,S.boxes=[]∧S.rows=[⟨y,18,45⟩]∧S.σ 6=.list (some y) 18 ((L.take i).flatten.map uN)∧S.σ 25=.list own 1 (L.map fun l=>[kA l])∧S.σ 26=vint L.length∧S.σ 27=vint i) ⟨0,1,y,?_⟩ (fun i S hi ⟨y,gb,gr,g6,g25,g26,g27⟩=>?_) (fun S ⟨y,gb,gr,g6,g25,g26,g27⟩=>?_)
  ·simp only [rB,simprocAttr,List.length_map,hy]
   exact rfl
  ·have hwi:=qk (i:=i) (N:=L.length) hi (by omega)
   have h1:=V9 L (i+1)
   have h3:=Vf L i hi
   rw [h3,List.length_append] at h1
   simp only [↓rA,rB,simprocAttr,Yu,gb,gr,g6,g25,g26,g27,Int.ofNat_lt,hi,List.length_map,qd _ _ _ hi,hwi]
   refine⟨by omega,fun y2=>⟨0,1,y2,rfl,?_⟩⟩
   rw [h3,List.map_append]
  ·rw [List.take_length] at g6
   simp only [↓rA,rB,simprocAttr,gb,gr,g6,g26,g27,Int.ofNat_lt,Nat.lt_irrefl]
   exact⟨_,[],[],Le.list _ _ _,List.nil_sublist _,List.nil_sublist _,rfl,rfl,rfl⟩
end Go.Proofs.YtohdpcjaoiebkaaGreatDoor
namespace Go.Proofs
open Go.Shelf
def Tryz.sortS_ren:Go.Shelf.Ren:=⟨fun | 54=>24 | 64=>46 | 65=>45 | 78=>88 | 79=>89 | 80=>79 | 81=>80 | 82=>81 | 83=>82 | 84=>83 | 85=>84 | 61=>85 | 86=>86 | 87=>87 | 93=>117 | 89=>118 | 90=>119 | 94=>120 | 95=>121 | 69=>122 | 97=>147 | n=>n,fun | 25=>69 | 26=>9 | 3=>3 | 51=>106 | 0=>0 | 67=>141 | 69=>143 | 4=>4 | 61=>133 | 60=>132 | 44=>138 | 5=>5 | 9=>9 | 75=>163 | 79=>167 | 83=>183 | 84=>184 | n=>n,fun | n=>n⟩
theorem Tryz.sortS:Go.Proofs.SlLaysN.n54 Tryz.prog Tryz.sortS_ren:={
 mixed:=by kernel_rfl
 f54:=⟨Tryz.f24.name,by decide,Tryz.func24.trans (congrArg some (by kernel_rfl))⟩
 f61:=⟨Tryz.f85.name,by decide,Tryz.func85.trans (congrArg some (by kernel_rfl))⟩
 f64:=Tryz.func46.trans (congrArg some (by kernel_rfl))
 f65:=⟨Tryz.f45.name,by decide,Tryz.func45.trans (congrArg some (by kernel_rfl))⟩
 f69:=⟨Tryz.f122.name,by decide,Tryz.func122.trans (congrArg some (by kernel_rfl))⟩
 f78:=Tryz.func88.trans (congrArg some (by kernel_rfl))
 f79:=Tryz.func89.trans (congrArg some (by kernel_rfl))
 f80:=⟨Tryz.f79.name,by decide,Tryz.func79.trans (congrArg some (by kernel_rfl))⟩
 f81:=⟨Tryz.f80.name,by decide,Tryz.func80.trans (congrArg some (by kernel_rfl))⟩
 f82:=⟨Tryz.f81.name,by decide,Tryz.func81.trans (congrArg some (by kernel_rfl))⟩
 f83:=⟨Tryz.f82.name,by decide,Tryz.func82.trans (congrArg some (by kernel_rfl))⟩
 f84:=⟨Tryz.f83.name,by decide,Tryz.func83.trans (congrArg some (by kernel_rfl))⟩
 f85:=⟨Tryz.f84.name,by decide,Tryz.func84.trans (congrArg some (by kernel_rfl))⟩
 f86:=⟨Tryz.f86.name,by decide,Tryz.func86.trans (congrArg some (by kernel_rfl))⟩
 f87:=⟨Tryz.f87.name,by decide,Tryz.func87.trans (congrArg some (by kernel_rfl))⟩
 f89:=Tryz.func118.trans (congrArg some (by kernel_rfl))
 f90:=Tryz.func119.trans (congrArg some (by kernel_rfl))
 f93:=⟨Tryz.f117.name,by decide,Tryz.func117.trans (congrArg some (by kernel_rfl))⟩
 f94:=⟨Tryz.f120.name,by decide,Tryz.func120.trans (congrArg some (by kernel_rfl))⟩
 f95:=⟨Tryz.f121.name,by decide,Tryz.func121.trans (congrArg some (by kernel_rfl))⟩
 f97:=⟨Tryz.f147.name,by decide,Tryz.func147.trans (congrArg some (by kernel_rfl))⟩
 t0:=Tryz.underlying0
 a0:=Tryz.isAgg0
 z0:=Tryz.sizeOf0
 v0:=Tryz.zeroValue0
 t3:=Tryz.underlying3
 a3:=Tryz.isAgg3
 z3:=Tryz.sizeOf3
 v3:=Tryz.zeroValue3
 t4:=Tryz.underlying4
 a4:=Tryz.isAgg4
 z4:=Tryz.sizeOf4
 v4:=Tryz.zeroValue4
 t5:=Tryz.underlying5
 a5:=Tryz.isAgg5
 z5:=Tryz.sizeOf5
 v5:=Tryz.zeroValue5
 t9:=Tryz.underlying9
 a9:=Tryz.isAgg9
 z9:=Tryz.sizeOf9
 v9:=Tryz.zeroValue9
 t25:=Tryz.underlying69
 a25:=Tryz.isAgg69
 z25:=Tryz.sizeOf69
 v25:=Tryz.zeroValue69
 t26:=Tryz.underlying9
 a26:=Tryz.isAgg9
 z26:=Tryz.sizeOf9
 v26:=Tryz.zeroValue9
 t44:=Tryz.underlying138
 a44:=Tryz.isAgg138
 z44:=Tryz.sizeOf138
 v44:=Tryz.zeroValue138
 t51:=Tryz.underlying106
 a51:=Tryz.isAgg106
 z51:=Tryz.sizeOf106
 v51:=Tryz.zeroValue106
 t60:=Tryz.underlying132
 a60:=Tryz.isAgg132
 z60:=Tryz.sizeOf132
 v60:=Tryz.zeroValue132
 t61:=Tryz.underlying133
 a61:=Tryz.isAgg133
 z61:=Tryz.sizeOf133
 v61:=Tryz.zeroValue133
 t67:=Tryz.underlying141
 a67:=Tryz.isAgg141
 z67:=Tryz.sizeOf141
 v67:=Tryz.zeroValue141
 t69:=Tryz.underlying143
 a69:=Tryz.isAgg143
 z69:=Tryz.sizeOf143
 v69:=Tryz.zeroValue143
 t75:=Tryz.underlying163
 a75:=Tryz.isAgg163
 z75:=Tryz.sizeOf163
 v75:=Tryz.zeroValue163
 t79:=Tryz.underlying167
 a79:=Tryz.isAgg167
 z79:=Tryz.sizeOf167
 v79:=Tryz.zeroValue167
 t83:=Tryz.underlying183
 a83:=Tryz.isAgg183
 z83:=Tryz.sizeOf183
 v83:=Tryz.zeroValue183
 t84:=Tryz.underlying184
 a84:=Tryz.isAgg184
 z84:=Tryz.sizeOf184
 v84:=Tryz.zeroValue184 }
end Go.Proofs
set_option linter.unusedSimpArgs false
set_option maxRecDepth 100000
namespace Go.VL
open Go.RowKit Go.Sort Go.Shelf Go.Lib Go.Proofs
theorem JV {α:Type} {enc:α→Value} (d:Array α) (arr:Array Value) (h:∀ j (hj:j < d.size),arr[j]? = some (enc d[j])) [Inhabited α]:putCells enc 0 d arr=arr:=by
 refine Array.ext (by simp [putCells]) fun t h1 h2=>?_
 simp only [putCells,Array.getElem_mapIdx,Nat.zero_add,Nat.zero_le,true_and,Nat.sub_zero]
 by_cases hF:t < d.size
 ·rw [if_pos hF,getElem!_pos d t hF]
  have:=h t hF
  rw [Array.getElem?_eq_getElem h2] at this
  exact(Option.some.inj this).symm
 ·rw [if_neg hF]
theorem J2 {w:World} {b:Nat} {f:Array Value→Array Value} {arr:Array Value} {te:TypeId} {s:Nat × Nat} (hb:w.heap[b]? = some (.cells arr te s)) (hf:f arr=arr):mapBlock w b f=w:=by
 have hh:(mapBlock w b f).heap=w.heap:=by
  apply Array.ext_getElem?
  intro i
  unfold mapBlock
  simp only []
  rw [Array.getElem?_modify]
  by_cases e:b=i
  ·subst e
   rw [if_pos rfl,hb]
   simp [hf,onCells]
  ·rw [if_neg e]
 unfold mapBlock at hh ⊢
 simp only [] at hh
 rw [hh]
theorem qf8 {F:Nat→Prop} {w:World} {I:Cells} (n:Nat) (os:Array Obj) (hF:∀ b',F b'→b' < w.heap.size) (hin:∀ b' o,I b' o→b' < w.heap.size):qJ F w I (grow (Go.Sort.ahead w n) os) I:=by
 have hx:∀ b',b' < w.heap.size→(grow (Go.Sort.ahead w n) os).heap[b']? = w.heap[b']? := fun b' h=>by
  unfold grow Go.Sort.ahead
  simp only []
  rw [Array.getElem?_append_left h]
 refine⟨rfl,rfl,rfl,?_,fun b' hb'=>hx b' (hF b' hb'),⟨fun b' o hi=>⟨hi,by simp only [World.cell?, hx b' (hin b' o hi)]⟩,fun b' x h=>by rw [hx b' (Array.getElem?_eq_some_iff.1 h).1];exact h⟩,fun _ _ _ h=>h,?_⟩
 ·unfold grow Go.Sort.ahead
  simp
 ·unfold grow Go.Sort.ahead
  simp
theorem Ok.sortStr1 {P:Program} {ρ:Ren} (L:SlLaysN.n54 P ρ) (k:ByteArray) (rest:List V) (b cap:Nat) :
  Ok P (ρ.f 54) [.lit (.slice (some ⟨b,0,none⟩) 1 cap)] [(b,.c (.lit (.string k)::rest))] fun v bs rs=>v=.tup []∧bs=[(b,.c (.lit (.string k)::rest))]∧rs=[]:=by
 intro w I xs hr hH
 obtain rfl:xs=[.slice (some ⟨b,0,none⟩) 1 cap]:=by
  match xs,hr with
  | [x],hr=>simp only [V.reps,V.rep,and_true] at hr;rw [hr]
  | [],hr=>simp [V.reps] at hr
  | _::_::_,hr=>simp [V.reps] at hr
 obtain⟨arr,te,q1,q2,q3,q4⟩:=hH.bx _ (List.mem_singleton.2 rfl)
 have hblk:b < w.heap.size:=(Array.getElem?_eq_some_iff.1 q1).1
 have h0:arr[0]? = some (.string k):=by
  cases ha:arr.toList with
  | nil=>rw [ha] at q3;simp [V.reps] at q3
  | cons x r =>
   rw [ha] at q3
   simp only [V.reps,V.rep] at q3
   rw [← Array.getElem?_toList,ha]
   simp [q3.1]
 have he:encStr k.data.toList=.string k:=by
  unfold encStr
  congr 1
 have hv:∀ j (hj:j < ([k.data.toList]:List (List UInt8)).toArray.size),arr[j]? = some (encStr ([k.data.toList]:List (List UInt8)).toArray[j]):=by
  intro j hj
  have:j=0:=by simpa using hj
  subst this
  simpa [he] using h0
 have hHo:Holds encStr w b 0 ([k.data.toList]:List (List UInt8)).toArray:=by
  intro j hj
  have h:=hv j hj
  rw [getElem!_pos _ j hj]
  constructor
  ·simp only [World.cell?, q1,Nat.zero_add];simpa using h
  ·have hlt:=(Array.getElem?_eq_some_iff.1 h).1
   simp [World.frozen?, q1]
 refine(AnyG.slices_Sort_string L b 0 cap [k.data.toList] w hHo hblk (by simp)).mono fun e w' ⟨he',n,os,hw⟩=>?_
 have hm:([k.data.toList]:List (List UInt8)).mergeSort (fun x y=>decide (x≤y))=[k.data.toList]:=by simp []
 rw [hm] at hw
 have hp:putRow encStr (Go.Sort.ahead w n) b 0 ([k.data.toList]:List (List UInt8)).toArray=Go.Sort.ahead w n:=by
  unfold putRow
  exact J2 (arr:=arr) (te:=te.1) (s:=(0,0)) q1 (JV _ _ hv)
 rw [hp] at hw
 subst hw
 have hK:qJ (fun b'=>b' < w.heap.size) w I (grow (Go.Sort.ahead w n) os) I:=qf8 n os (fun _ h=>h) hH.inn
 refine⟨.tuple #[],.tup [],[(b,.c (.lit (.string k)::rest))],[],I,he',by simp only [V.rep];exact⟨#[],rfl,by simp [V.reps]⟩,hK.mono fun b' hb'=>hb'.1,⟨fun p hp'=>?_,by simp,by simp [qA],fun b' o hi=>Nat.lt_of_lt_of_le (hH.inn b' o hi) hK.size,hH.glob.mono hK.stays⟩,fun b' hb' h=>h.2 (by simpa [qA] using hb'),rfl,rfl,rfl⟩
 rw [List.mem_singleton.1 hp']
 refine⟨arr,te,?_,q2,V.reps_mono hK.stays _ _ q3,q4⟩
 rw [hK.block b hblk];exact q1
theorem Ok.sortStrNil {P:Program} {ρ:Ren} (L:SlLaysN.n54 P ρ) (cap:Nat):zc P (ρ.f 54) [.lit (.slice none 0 cap)] (.tup []):=by
 intro w I xs hr hH
 obtain rfl:xs=[.slice none 0 cap]:=by
  match xs,hr with
  | [x],hr=>simp only [V.reps,V.rep,and_true] at hr;rw [hr]
  | [],hr=>simp [V.reps] at hr
  | _::_::_,hr=>simp [V.reps] at hr
 refine(AnyG.slices_Sort_string_none L none cap w).mono fun e w' ⟨he,hw⟩=>?_
 subst hw
 exact⟨_,.tup [],[],[],I,he,by simp only [V.rep];exact⟨#[],rfl,by simp [V.reps]⟩,qJ.refl _ _ _,hH,by simp [qA],rfl,rfl,rfl⟩
end Go.VL
namespace Go.Proofs.YtohdpcjaoiebkaaGreatDoor
open Go.VL Go.Ar Go.Lo Go.Proofs.YtohdpcjaoiebkaaGreatDoor
theorem qo9 (k:Str) (rest:List V) (b cap:Nat):Ok Tryz.prog 24 [.lit (.slice (some ⟨b,0,none⟩) 1 cap)] [(b,.c (qm k::rest))] fun v bs rs=>v=.tup []∧bs=[(b,.c (qm k::rest))]∧rs=[]:=Ok.sortStr1 Tryz.sortS k rest b cap
theorem qaa:zc Tryz.prog 24 [nilS] (.tup []):=Ok.sortStrNil Tryz.sortS 0
end Go.Proofs.YtohdpcjaoiebkaaGreatDoor
set_option linter.unusedSimpArgs false
set_option maxRecDepth 100000
namespace Go.VL
open Go.RowKit Go.Sort Go.Shelf Go.Lib Go.Proofs
abbrev vS (s:ByteArray):V:=.lit (.string s)
def wW (ss:List ByteArray):List ByteArray:=((ss.map (·.data.toList)).mergeSort fun x y=>decide (x≤y)).map fun l=>⟨l.toArray⟩
theorem U7 (ss:List ByteArray):(wW ss).length=ss.length:=by
 unfold wW
 rw [List.length_map,List.length_mergeSort,List.length_map]
theorem YK (ss:List ByteArray):(wW ss).Perm ss:=by
 have h:=(List.mergeSort_perm (ss.map (·.data.toList)) fun x y=>decide (x≤y)).map fun l=>(⟨l.toArray⟩:ByteArray)
 rw [List.map_map] at h
 exact h.trans (List.Perm.of_eq (List.map_id' _))
theorem qbn (w:World) (I:Cells):∀ ls:List Value,V.reps w I (ls.map .lit) ls
 | []=>by simp [V.reps]
 | l::ls=>by
  simp only [List.map_cons,V.reps,V.rep]
  exact⟨trivial,qbn w I ls⟩
theorem Ok.sortStr {P:Program} {ρ:Ren} (L:SlLaysN.n54 P ρ) (ss:List ByteArray) (rest:List V) (b cap:Nat) (hn:ss.length≤1000000) :
  Ok P (ρ.f 54) [.lit (.slice (some ⟨b,0,none⟩) ss.length cap)] [(b,.c (ss.map vS++rest))] fun v bs rs=>v=.tup []∧bs=[(b,.c ((wW ss).map vS++rest))]∧rs=[]:=by
 intro w I xs hr hH
 obtain rfl:xs=[.slice (some ⟨b,0,none⟩) ss.length cap]:=by
  match xs,hr with
  | [x],hr=>simp only [V.reps,V.rep,and_true] at hr;rw [hr]
  | [],hr=>simp [V.reps] at hr
  | _::_::_,hr=>simp [V.reps] at hr
 obtain⟨arr,te,q1,q2,q3,q4⟩:=hH.bx _ (List.mem_singleton.2 rfl)
 have hblk:b < w.heap.size:=(Array.getElem?_eq_some_iff.1 q1).1
 obtain⟨h1,h2⟩:=QN q3
 rw [List.length_map] at h1 h2
 have h1':=vp (ls:=ss.map Value.string) (by rw [List.map_map];exact h1)
 have hlen:ss.length≤arr.toList.length:=by
  have:=congrArg List.length h1'
  rw [List.length_take,List.length_map] at this
  omega
 have he:∀ k:ByteArray,encStr k.data.toList=.string k:=fun k=>by
  unfold encStr
  congr 1
 have hget:∀ j (hj:j < ss.length),arr[j]? = some (.string ss[j]):=fun j hj=>by
  have:(arr.toList.take ss.length)[j]? = (ss.map Value.string)[j]? := by rw [h1']
  rw [List.getElem?_take,if_pos hj,List.getElem?_map,List.getElem?_eq_getElem hj] at this
  rw [← Array.getElem?_toList,this]
  rfl
 have hHo:Holds encStr w b 0 (ss.map (·.data.toList)).toArray:=by
  intro j hj
  have hj':j < ss.length:=by simpa using hj
  have h:=hget j hj'
  rw [getElem!_pos _ j hj]
  constructor
  ·simp only [World.cell?, q1,Nat.zero_add]
   rw [h]
   simp [he]
  ·have hlt:=(Array.getElem?_eq_some_iff.1 h).1
   simp [World.frozen?, q1]
 have hrun:=AnyG.slices_Sort_string L b 0 cap (ss.map (·.data.toList)) w hHo hblk (by rw [List.length_map];omega)
 rw [List.length_map] at hrun
 refine hrun.mono fun e w' ⟨he',n,os,hw⟩=>?_
 obtain⟨D,hD⟩:∃ D,D=(ss.map (·.data.toList)).mergeSort fun x y=>decide (x≤y):=⟨_,rfl⟩
 have hDl:D.length=ss.length:=by rw [hD,List.length_mergeSort,List.length_map]
 have hS:wW ss=D.map fun l=>⟨l.toArray⟩:=by rw [hD];rfl
 rw [← hD] at hw
 have hA:(putCells encStr 0 D.toArray arr).toList=(wW ss).map Value.string++arr.toList.drop ss.length:=by
  apply List.ext_getElem?
  intro t
  rw [Array.getElem?_toList]
  unfold putCells
  rw [Array.getElem?_mapIdx,hS,List.map_map]
  by_cases ht:t < ss.length
  ·rw [List.getElem?_append_left (by rw [List.length_map,hDl];exact ht),hget t ht,List.getElem?_map,List.getElem?_eq_getElem (by omega)]
   simp only [Option.map_some,Nat.zero_le,Nat.zero_add,true_and,Nat.sub_zero]
   rw [if_pos (by simp;omega),getElem!_pos D.toArray t (by simp;omega)]
   rfl
  ·rw [List.getElem?_append_right (by rw [List.length_map,hDl];omega),List.length_map,hDl,List.getElem?_drop,show ss.length+(t - ss.length)=t by omega,← Array.getElem?_toList]
   cases arr.toList[t]? with
   | none=>rfl
   | some y =>
    rw [Option.map_some,if_neg (by simp;omega)]
 have hin:∀ b',b' < w.heap.size→w'.heap[b']? = (w.heap.modify b (onCells (putCells encStr 0 D.toArray)))[b']? := fun b' hb'=>by
  rw [hw]
  unfold grow putRow mapBlock Go.Sort.ahead
  simp only []
  rw [Array.getElem?_append_left (by simpa using hb')]
 have hother:∀ b',b' < w.heap.size→b' ≠ b→w'.heap[b']? = w.heap[b']? := fun b' hb' hne=>by
  rw [hin b' hb',Array.getElem?_modify,if_neg (Ne.symm hne)]
 have hself:w'.heap[b]? = some (.cells (putCells encStr 0 D.toArray arr) te.1 (0,0)):=by
  rw [hin b hblk,Array.getElem?_modify,if_pos rfl,q1];rfl
 have hsize:w.heap.size≤w'.heap.size:=by
  rw [hw]
  unfold grow putRow mapBlock Go.Sort.ahead
  simp
 have hst:qM w I w' I:=⟨fun b' o hi=>⟨hi,by
  have hne:b' ≠ b:=fun e=>q4 o (e▸hi)
  simp only [World.cell?, hother b' (hH.inn _ _ hi) hne]⟩,fun b' x hx=>by
  have hne:b' ≠ b:=fun e=>by rw [e,q1] at hx;cases hx
  rw [hother b' (Array.getElem?_eq_some_iff.1 hx).1 hne];exact hx⟩
 refine⟨.tuple #[],.tup [],[(b,.c ((wW ss).map vS++rest))],[],I,he',by simp only [V.rep];exact⟨#[],rfl,by simp [V.reps]⟩,
  ⟨by rw [hw];rfl,by rw [hw];rfl,by rw [hw];rfl,hsize,fun b' hb'=>hother b' hb'.1 fun e=>hb'.2 (by simp [e]),hst,fun _ _ _ h=>h,fun _=>by rw [hw];exact Nat.le_add_right _ _⟩,
  ⟨fun p hp'=>?_,by simp,by simp [qA],fun b' o hi=>Nat.lt_of_lt_of_le (hH.inn b' o hi) hsize,hH.glob.mono hst⟩,fun b' hb' h=>h.2 (by simpa [qA] using hb'),rfl,rfl,rfl⟩
 rw [List.mem_singleton.1 hp']
 refine⟨_,te,hself,fun x hx=>?_,?_,q4⟩
 ·rw [hA] at hx
  rcases List.mem_append.1 hx with hx | hx
  ·obtain⟨y,_,rfl⟩:=List.mem_map.1 hx
   trivial
  ·exact q2 _ (List.mem_of_mem_drop hx)
 ·rw [hA]
  refine Xa ?_ (V.reps_mono hst _ _ h2)
  have:=qbn w' I ((wW ss).map Value.string)
  rwa [List.map_map] at this
end Go.VL
set_option maxRecDepth 100000
namespace Go.Lo
open Go.VL Go.Ar
section
variable {α β δ γ:Type} [DecidableEq α]
abbrev Vn (kV:α→Value) (cV:β→V) (g:List (Nat × α × β)):List Ent:=g.map fun p=>(p.1,kV p.2.1,cV p.2.2)
def Xh (g:List (Nat × α × β)) (a:α):Option (Nat × α × β):=g.find? fun p=>decide (a=p.2.1)
def qbk (a:α) (v:β):List (Nat × α × β)→List (Nat × α × β)
 | []=>[]
 | p::g=>if a=p.2.1 then (p.1,p.2.1,v)::g else p::qbk a v g
variable {kV:α→Value} {cV:β→V}
theorem Vb {g:List (Nat × α × β)} {a:α} {p:Nat × α × β} (h:Xh g a=some p):p ∈ g∧a=p.2.1:=⟨List.mem_of_find?_eq_some h,by simpa using List.find?_some h⟩
theorem qln {g:List (Nat × α × β)} {a:α} (h:Xh g a=none):∀ p ∈ g,¬ a=p.2.1:=fun p hp=>by
 have:=List.find?_eq_none.1 h p hp
 simpa using this
theorem Vc (a:α) (v:β) (b:α):∀ g:List (Nat × α × β),Xh (qbk a v g) b=(Xh g b).map fun p=>if p.2.1=a then (p.1,p.2.1,v) else p
 | []=>rfl
 | p::g=>by
  have ih:=Vc a v b g
  unfold Xh at ih ⊢
  unfold qbk
  by_cases hs:a=p.2.1
  ·rw [if_pos hs]
   simp only [List.find?_cons]
   by_cases hb:b=p.2.1
   ·simp [hb,hs]
   ·simp only [hb,decide_false]
    cases hf:g.find? fun p=>decide (b=p.2.1) with
    | none=>rfl
    | some q =>
     have hq:b=q.2.1:=by simpa using List.find?_some hf
     have:¬ q.2.1=a:=fun e=>hb (by rw [hq,e,hs])
     simp [this]
  ·rw [if_neg hs]
   simp only [List.find?_cons]
   by_cases hb:b=p.2.1
   ·simp [hb,Ne.symm hs]
   ·simp only [hb,decide_false]
    exact ih
theorem qb7 (g:List (Nat × α × β)) (p:Nat × α × β) (b:α):Xh (g++[p]) b=match Xh g b with | some q=>some q | none=>if b=p.2.1 then some p else none:=by
 unfold Xh
 rw [List.find?_append]
 cases g.find? fun p=>decide (b=p.2.1) with
 | none=>by_cases h:b=p.2.1 <;> simp [h]
 | some q=>simp
theorem WG {a:α} {v:β}:∀ {g:List (Nat × α × β)} {q:Nat × α × β},q ∈ qbk a v g→∃ p ∈ g,q.1=p.1∧q.2.1=p.2.1∧(q=p∨q.2.2=v)
 | [],_,h=>by cases h
 | p::g,q,h=>by
  unfold qbk at h
  split at h
  ·rcases List.mem_cons.1 h with rfl | h
   ·exact⟨p,List.mem_cons_self,rfl,rfl,.inr rfl⟩
   ·exact⟨q,List.mem_cons_of_mem _ h,rfl,rfl,.inl rfl⟩
  ·rcases List.mem_cons.1 h with rfl | h
   ·exact⟨_,List.mem_cons_self,rfl,rfl,.inl rfl⟩
   ·obtain⟨p',hp',e⟩:=WG h
    exact⟨p',List.mem_cons_of_mem _ hp',e⟩
abbrev Q4 (g:List (Nat × α × β)):Prop:=g.Pairwise fun p q=>p.1 < q.1∧¬ p.2.1=q.2.1
theorem WH {a:α} {v:β}:∀ {g:List (Nat × α × β)},Q4 g→Q4 (qbk a v g)
 | [],h=>h
 | p::g,h=>by
  have hc:=List.pairwise_cons.1 h
  unfold qbk
  split
  ·exact List.pairwise_cons.2 ⟨fun q hq=>hc.1 q hq,hc.2⟩
  ·refine List.pairwise_cons.2 ⟨fun q hq=>?_,WH hc.2⟩
   obtain⟨p',hp',e1,e2,_⟩:=WG hq
   have:=hc.1 p' hp'
   exact⟨by omega,fun e=>this.2 (e.trans e2)⟩
structure Ki (pr:β→δ) (f:α→Option δ) (g:List (Nat × α × β)) (cl:Nat):Prop where
 lt:∀ p ∈ g,p.1 < cl
 apart:Q4 g
 val:∀ a,(Xh g a).map (fun p=>pr p.2.2)=f a
def qt6 (f:α→Option δ) (a:α) (v:δ):α→Option δ:=fun b=>if b=a then some v else f b
variable {pr:β→δ} {f:α→Option δ}
theorem Ki.nil:Ki (α:=α) pr (fun _=>none) [] 0:=⟨by simp,List.Pairwise.nil,fun _=>rfl⟩
theorem Ki.new {g:List (Nat × α × β)} {cl:Nat} (h:Ki pr f g cl) {a:α} (hn:Xh g a=none) (v:β):Ki pr (qt6 f a (pr v)) (g++[(cl,a,v)]) (cl+1) where
 lt p hp:=by
  rcases List.mem_append.1 hp with hp | hp
  ·exact Nat.lt_succ_of_lt (h.lt p hp)
  ·rw [List.mem_singleton] at hp;subst hp;exact Nat.lt_succ_self _
 apart:=by
  refine List.pairwise_append.2 ⟨h.apart,by simp,fun p hp q hq=>?_⟩
  rw [List.mem_singleton] at hq;subst hq
  exact⟨h.lt p hp,fun e=>qln hn p hp e.symm⟩
 val b:=by
  rw [qb7]
  unfold qt6
  have hv:=h.val b
  by_cases e:b=a
  ·subst e;rw [hn];simp
  ·rw [if_neg e]
   cases hb:Xh g b with
   | none=>rw [hb] at hv;simp [e,← hv]
   | some q=>rw [hb] at hv;simpa [e] using hv
theorem Ki.old {g:List (Nat × α × β)} {cl:Nat} (h:Ki pr f g cl) {a:α} {p:Nat × α × β} (hn:Xh g a=some p) (v:β):Ki pr (qt6 f a (pr v)) (qbk a v g) cl where
 lt q hq:=by
  obtain⟨p',hp',e1,_⟩:=WG hq
  rw [e1];exact h.lt p' hp'
 apart:=WH h.apart
 val b:=by
  rw [Vc]
  unfold qt6
  have hv:=h.val b
  by_cases e:b=a
  ·subst e
   rw [hn,if_pos rfl]
   simp [(Vb hn).2]
  ·rw [if_neg e,← hv]
   cases hb:Xh g b with
   | none=>rfl
   | some q =>
    have:¬ q.2.1=a:=fun e'=>e ((Vb hb).2.trans e')
    simp [this]
def yg (g:List (Nat × α × β)) (seen:List Nat):List (Nat × α × β):=g.filter fun p=>!seen.contains p.1
omit [DecidableEq α] in
theorem yh (g:List (Nat × α × β)) (seen:List Nat):yi (Vn kV cV g) seen=Vn kV cV (yg g seen):=by
 simp only [yi,Vn,yg,List.filter_map]
 rfl
omit [DecidableEq α] in
theorem QR {seen:List Nat} {p:Nat × α × β}:∀ {g:List (Nat × α × β)},Q4 g→p ∈ yg g seen→(yg g seen).Perm (p::yg g (seen++[p.1]))
 | [],_,h=>by cases h
 | q::g,hp,h=>by
  have hc:=List.pairwise_cons.1 hp
  have ih:=QR (seen:=seen) (p:=p) hc.2
  unfold yg at h ih ⊢
  rw [List.filter_cons] at h ⊢
  cases hs:seen.contains q.1
  ·simp only [hs,Bool.not_false,if_true] at h ⊢
   rcases List.mem_cons.1 h with rfl | h
   ·have e:(seen++[p.1]).contains p.1=true:=by simp
    rw [List.filter_cons]
    simp only [e,Bool.not_true,Bool.false_eq_true,if_false]
    refine List.Perm.cons _ ?_
    rw [show g.filter (fun q=>!(seen++[p.1]).contains q.1)=g.filter (fun q=>!seen.contains q.1) from List.filter_congr fun q hq=>by
     have:=(hc.1 q hq).1
     simp [show ¬ q.1=p.1 by omega]]
   ·have hqp:q.1 < p.1:=(hc.1 p (List.mem_filter.1 h).1).1
    have hs':¬ q.1 ∈ seen:=by simpa using hs
    have e:(seen++[p.1]).contains q.1=false:=by simp [hs',show ¬ q.1=p.1 by omega]
    rw [List.filter_cons]
    simp only [e,Bool.not_false,if_true]
    exact(List.Perm.cons q (ih h)).trans (List.Perm.swap p q _)
  ·simp only [hs,Bool.not_true,Bool.false_eq_true,if_false] at h ⊢
   have hs':q.1 ∈ seen:=by simpa using hs
   have e:(seen++[p.1]).contains q.1=true:=by simp [hs']
   rw [List.filter_cons]
   simp only [e,Bool.not_true,Bool.false_eq_true,if_false]
   exact ih h
omit [DecidableEq α] in
theorem WQ {g:List (Nat × α × β)} {seen:List Nat} {p:Nat × α × β} (hg:Q4 g) (hp:p ∈ yg g seen):(yg g (seen++[p.1])).length < (yg g seen).length:=by
 have:=(QR hg hp).length_eq
 rw [List.length_cons] at this
 omega
def ZZ (h:α × β→Option γ) (g:List (Nat × α × β)) (seen:List Nat) (acc:List γ):Prop:=(acc++(yg g seen).filterMap fun p=>h p.2).Perm (g.filterMap fun p=>h p.2)
variable {h:α × β→Option γ}
omit [DecidableEq α] in
theorem ZZ.start (g:List (Nat × α × β)):ZZ h g [] []:=by
 have:yg g []=g:=List.filter_eq_self.2 (by simp)
 unfold ZZ
 rw [this]
 exact List.Perm.refl _
omit [DecidableEq α] in
theorem ZZ.step {g:List (Nat × α × β)} {seen:List Nat} {acc:List γ} {p:Nat × α × β} (hh:ZZ h g seen acc) (hg:Q4 g) (hp:p ∈ yg g seen):ZZ h g (seen++[p.1]) (acc++(h p.2).toList):=by
 unfold ZZ at hh ⊢
 refine List.Perm.trans ?_ hh
 have hs:=(QR hg hp).filterMap fun p=>h p.2
 rw [List.filterMap_cons] at hs
 rw [List.append_assoc]
 refine List.Perm.append_left acc ?_
 cases e:h p.2 with
 | none=>rw [e] at hs;simpa using hs.symm
 | some r=>rw [e] at hs;simpa using hs.symm
omit [DecidableEq α] in
theorem ZZ.len {g:List (Nat × α × β)} {seen:List Nat} {acc:List γ} (hh:ZZ h g seen acc):acc.length≤g.length:=by
 have:=hh.length_eq
 have h2:=List.length_filterMap_le (fun p:Nat × α × β=>h p.2) g
 rw [List.length_append] at this
 omega
omit [DecidableEq α] in
theorem ZZ.done {g:List (Nat × α × β)} {seen:List Nat} {acc:List γ} (hh:ZZ h g seen acc) (hl:yg g seen=[]):acc.Perm (g.filterMap fun p=>h p.2):=by
 unfold ZZ at hh
 rw [hl] at hh
 simpa using hh
end
abbrev qEe (s:Str):Value:=.string s
end Go.Lo
set_option linter.unusedSimpArgs false
set_option maxRecDepth 100000
namespace Go.Proofs.YtohdpcjaoiebkaaGreatDoor
open Go.VL Go.Ar Go.Lo Go.Pr Go.Proofs.YtohdpcjaoiebkaaGreatDoor Go.Shelf
theorem qCy {x:E} (hf:kI x) (hs:qY x=0):Pr x:=by
 obtain⟨h1,h2,h3⟩:=xA hs
 exact⟨hf,by unfold big;omega,hs,qa1 x false h3,by omega⟩
theorem Jw {y:E}:∀ {l:List E},y ∈ allEs l→∃ z ∈ l,y ∈ jw z
 | [],h=>by simp [allEs] at h
 | z::r,h=>by
  rw [allEs,List.mem_append] at h
  rcases h with h | h
  ·exact⟨z,.head _,h⟩
  ·obtain⟨w,hw,hy⟩:=Jw h
   exact⟨w,.tail _ hw,hy⟩
theorem qpj {x:E} (h1:zj x≤64) (h2:qZ x≤12) (h3:qS x false=true):qY x=0:=by
 unfold qY
 rw [zl (by omega) (by omega),if_neg (by omega),if_neg (by omega),if_pos h3]
theorem qzy:∀ x:E,kI x→qS x false=true→zj x≤64→qZ x≤12→∀ y ∈ jw x,Pr y:=by
 intro x
 induction x using E.ind with
 | h hd l ih =>
  intro hf hp hs hdp y hy
  rw [Qh] at hy
  by_cases h5:hd.kind=5
  ·rw [if_pos h5,List.mem_singleton] at hy
   rw [hy]
   exact qCy hf (qpj hs hdp hp)
  ·rw [if_neg h5] at hy
   obtain⟨z,hz,hyz⟩:=Jw hy
   have hq:=(xF hp).2.2.2.1 z hz
   rw [decide_eq_false h5,Bool.false_or] at hq
   rw [qR] at hs
   rw [wL] at hdp
   have h1:=vl hz
   have h2:=w8 hz
   exact ih z hz (hf.args z hz) hq (by omega) (by omega) y hyz
theorem VQ {x:E} (hf:kI x) (hs:qY x=0):∀ y ∈ jw x,Pr y:=by
 obtain⟨h1,h2,h3⟩:=xA hs
 exact qzy x hf h3 h1 h2
theorem qra {m:List E} {x y:E}:y ∈ j4 m x↔y ∈ m∨y=x:=by
 unfold j4
 split
 ·rename_i h
  exact⟨.inl,fun h'=>h'.elim id fun e=>e▸h⟩
 ·simp
theorem Y8 {y:E}:∀ {l m:List E},y ∈ l.foldl j4 m↔y ∈ m∨y ∈ l
 | [],m=>by simp
 | x::r,m=>by
  rw [List.foldl_cons,Y8,qra,List.mem_cons]
  constructor
  ·rintro((h | h) | h)
   ·exact .inl h
   ·exact .inr (.inl h)
   ·exact .inr (.inr h)
  ·rintro(h | h | h)
   ·exact .inl (.inl h)
   ·exact .inl (.inr h)
   ·exact .inr h
theorem qf4 {m:List E} {x:E} (h:m.Nodup):(j4 m x).Nodup:=by
 unfold j4
 split
 ·exact h
 ·rename_i hx
  exact List.nodup_append.2 ⟨h,by simp,fun a ha b hb=>by rw [List.mem_singleton.1 hb];exact fun e=>hx (e▸ha)⟩
theorem X8:∀ {l m:List E},m.Nodup→(l.foldl j4 m).Nodup
 | [],m,h=>h
 | x::r,m,h=>X8 (l:=r) (qf4 h)
theorem Y9:∀ (l m:List E),(l.foldl j4 m).length≤m.length+l.length
 | [],m=>by simp
 | x::r,m=>by
  have h1:=Y9 r (j4 m x)
  have h2:(j4 m x).length≤m.length+1:=by
   unfold j4
   split
   ·omega
   ·simp
  rw [List.foldl_cons,List.length_cons]
  omega
theorem qad {α:Type} {P:List α→Prop} (h0:P []) (hs:∀ l a,P l→P (l++[a])) (l:List α):P l:=by
 rw [← List.reverse_reverse l]
 generalize l.reverse=r
 induction r with
 | nil=>exact h0
 | cons a r ih=>rw [List.reverse_cons];exact hs _ _ ih
noncomputable def uP (fs:List Ftr):List E:=fs.foldl (fun m f=>(jw f.body).foldl j4 m) []
theorem Xz (fs:List Ftr) (f:Ftr):uP (fs++[f])=(jw f.body).foldl j4 (uP fs):=by
 unfold uP
 rw [List.foldl_append]
 rfl
theorem Vu (fs:List Ftr):(∀ y,y ∈ uP fs↔∃ f ∈ fs,y ∈ jw f.body)∧(uP fs).Nodup:=by
 refine qad (P:=fun fs=>(∀ y,y ∈ uP fs↔∃ f ∈ fs,y ∈ jw f.body)∧(uP fs).Nodup) ⟨fun y=>by simp [uP],by simp [uP]⟩ (fun fs f ih=>?_) fs
 ·rw [Xz]
  refine⟨fun y=>?_,X8 ih.2⟩
  rw [Y8,ih.1]
  constructor
  ·rintro(⟨g,hg,h⟩ | h)
   ·exact⟨g,List.mem_append_left _ hg,h⟩
   ·exact⟨f,by simp,h⟩
  ·rintro⟨g,hg,h⟩
   rcases List.mem_append.1 hg with hg | hg
   ·exact .inl ⟨g,hg,h⟩
   ·rw [List.mem_singleton.1 hg] at h
    exact .inr h
theorem qs2 (fs:List Ftr) (h:∀ f ∈ fs,zj f.body≤64):(uP fs).length≤64 * fs.length:=by
 revert h
 refine qad (P:=fun fs=>(∀ f ∈ fs,zj f.body≤64)→(uP fs).length≤64 * fs.length) (fun _=>by simp [uP]) (fun fs f ih h=>?_) fs
 ·rw [Xz,List.length_append]
  have h1:=Y9 (jw f.body) (uP fs)
  have h2:=ZX f.body
  have h3:=h f (by simp)
  have h4:=ih fun g hg=>h g (List.mem_append_left _ hg)
  simp only [List.length_cons,List.length_nil]
  omega
def gE:Nat→List E→List (Nat × Str × E)
 | _,[]=>[]
 | i,x::r=>(i,txS x,x)::gE (i+1) r
theorem W8:∀ (i:Nat) (m:List E),Xn i m=Vn qEe (fun x=>vE x) (gE i m)
 | i,[]=>rfl
 | i,x::r=>by rw [Xn,gE,W8 (i+1) r];rfl
theorem V7:∀ (i:Nat) (m:List E),((gE i m).filterMap fun p=>some p.2.1)=m.map txS
 | i,[]=>rfl
 | i,x::r=>by rw [gE,List.filterMap_cons];simp only [V7 (i+1) r,List.map_cons]
theorem qrl:∀ (i:Nat) (m:List E),(gE i m).length=m.length
 | i,[]=>rfl
 | i,x::r=>by rw [gE,List.length_cons,qrl (i+1) r,List.length_cons]
theorem qrk:∀ (i:Nat) (m:List E),∀ p ∈ gE i m,i≤p.1∧∃ y ∈ m,p.2.1=txS y
 | i,x::r,p,hp=>by
  rcases List.mem_cons.1 hp with rfl | hp
  ·exact⟨Nat.le_refl _,x,.head _,rfl⟩
  ·obtain⟨h1,y,hy,e⟩:=qrk (i+1) r p hp
   exact⟨by omega,y,.tail _ hy,e⟩
theorem qcb:∀ (i:Nat) (m:List E),(∀ y ∈ m,Pr y)→m.Nodup→Q4 (gE i m)
 | i,[],_,_=>List.Pairwise.nil
 | i,x::r,hm,hn=>by
  have hc:=List.nodup_cons.1 hn
  refine List.pairwise_cons.2 ⟨fun p hp=>?_,qcb (i+1) r (fun y hy=>hm y (.tail _ hy)) hc.2⟩
  obtain⟨h1,y,hy,e⟩:=qrk (i+1) r p hp
  refine⟨by omega,fun h=>hc.1 ?_⟩
  rw [e] at h
  rw [Ze (hm x (.head _)) (hm y (.tail _ hy)) h]
  exact hy
noncomputable def WN (m:List E) (k:Str):E:=(m.find? fun y=>decide (txS y=k)).getD exp0
theorem wJ {m:List E} {k:Str} (h:k ∈ m.map txS):(m.find? fun y=>decide (txS y=k))=some (WN m k)∧WN m k ∈ m∧txS (WN m k)=k:=by
 obtain⟨y,hy,e⟩:=List.mem_map.1 h
 cases hq:m.find? fun y=>decide (txS y=k) with
 | none =>
  have:=List.find?_eq_none.1 hq y hy
  simp [e] at this
 | some z =>
  have h1:=List.mem_of_find?_eq_some hq
  have h2:=List.find?_some hq
  have h2:=of_decide_eq_true h2
  unfold WN
  rw [hq]
  exact⟨rfl,h1,h2⟩
structure qDz (c:Cat) (L:List E):Prop where
 pr:∀ y ∈ L,Pr y
 srt:L.Pairwise fun a b=>zE a < zE b
 mem:∀ y,y ∈ L↔∃ f ∈ c.features++c.drafts,y ∈ jw f.body
theorem U6 (ss:List Str):(wW ss).Pairwise fun a b=>sb a≤sb b:=by
 unfold wW
 have h:(((ss.map (·.data.toList)).mergeSort fun x y=>decide (x≤y))).Pairwise fun x y=>decide (x≤y)=true :=
  List.pairwise_mergeSort (by intro a b c;simp only [decide_eq_true_eq];exact fun h1 h2=>List.le_trans h1 h2) (by intro a b;simp only [Bool.or_eq_true,decide_eq_true_eq];exact List.le_total a b) _
 refine List.pairwise_map.2 (h.imp fun h=>?_)
 exact of_decide_eq_true h
theorem qdj {c:Cat} {m:List E} (hm:∀ y ∈ m,Pr y) (hn:m.Nodup) (hmem:∀ y,y ∈ m↔∃ f ∈ c.features++c.drafts,y ∈ jw f.body) {acc:List Str} (hp:acc.Perm (m.map txS)):qDz c ((wW acc).map (WN m)):=by
 have hp2:=(YK acc).trans hp
 have hk:∀ k ∈ wW acc,k ∈ m.map txS:=fun k hk=>(hp2.mem_iff).1 hk
 have hnd:(wW acc).Nodup:=by
  rw [hp2.nodup_iff]
  exact List.pairwise_map.2 ((List.Pairwise.and_mem.1 hn).imp fun⟨ha,hb,h⟩ e=>h (Ze (hm _ ha) (hm _ hb) e))
 refine⟨fun y hy=>?_,?_,fun y=>?_⟩
 ·obtain⟨k,hk',rfl⟩:=List.mem_map.1 hy
  exact hm _ (wJ (hk k hk')).2.1
 ·refine List.pairwise_map.2 ((List.Pairwise.and_mem.1 ((U6 acc).and hnd)).imp fun⟨ha,hb,h1,h2⟩=>?_)
  have ea:=(wJ (hk _ ha)).2.2
  have eb:=(wJ (hk _ hb)).2.2
  rw [← ea,← eb] at h1 h2
  exact Std.lt_of_le_of_ne h1 fun e=>h2 (congrArg ts e)
 ·rw [← hmem,List.mem_map]
  constructor
  ·rintro⟨k,hk',rfl⟩
   exact(wJ (hk k hk')).2.1
  ·intro hy
   have h1:txS y ∈ wW acc:=(hp2.mem_iff).2 (List.mem_map_of_mem hy)
   have h2:=wJ (hk _ h1)
   exact⟨txS y,h1,Ze (hm _ h2.2.1) (hm y hy) h2.2.2⟩
end Go.Proofs.YtohdpcjaoiebkaaGreatDoor
set_option linter.unusedSimpArgs false
set_option maxRecDepth 100000
set_option linter.defProp false
namespace Go.VL
theorem vh {C:Ctx} {c:Code} {k:List It} {S:St} {Q:Exit→St→Prop} {α:Type} (hm:C.P.follows .mixedOrders=true) (hk:z1 C.N C.M c=true) (μ:α→Nat) (T:α→St→Prop) (x:α) (h0:uR (T x) S)
  (round:∀ x S,T x S→EX C (.code c::.stop (fun S'=>∃ y,μ y < μ x∧uR (T y) S')::k) S Q):zC C (.loop c) S (qU C k Q):=by
 have lp:∀ {A B:St→Prop} {S},(∀ S,A S→B S)→uR A S→uR B S:=fun hab ⟨bs,rs,bs',rs',h1,h2,h3,h4,h⟩=>⟨bs,rs,bs',rs',h1,h2,h3,h4,hab _ h⟩
 refine zC.loopP (fun m S=>∃ x,μ x=m∧T x S) (μ x) (lp (fun S h=>⟨x,rfl,h⟩) h0) fun m S ⟨x,hx,hT⟩=>?_
 subst hx
 refine xZ hm c S _ hk (xl (fun e S' h'=>?_) (show j5 C c S _ from round x S hT))
 cases e <;> first | exact h' | (obtain⟨y,hy,h'⟩:=h';exact⟨μ y,hy,lp (fun S h=>⟨y,rfl,h⟩) h'⟩)
end Go.VL
namespace Go.Proofs.YtohdpcjaoiebkaaGreatDoor
open Go.VL Go.Ar Go.Lo Go.Proofs.YtohdpcjaoiebkaaGreatDoor
abbrev mp (b:Nat):V:=.lit (.map (some b))
theorem qyj:yi (yy 0 []) []=[]:=rfl
theorem qyi (k:Str):yi (yy 0 [k]) []=[(0,.string k,qv true)]:=by simp [yi,yy]
theorem qC8 (k:Str):yi (yy 0 [k]) [0]=[]:=by simp [yi,yy]
def qCl:=(aI (aI Ty.c104 Ty.t115) (aI Ty.t4 (aI Ty.t9 Ty.t93)))
theorem qDf (y b1 bm:Nat) (hb:b1 ≠ bm∧bm ≠ b1) (J:List (Nat × B)):Ok Tryz.prog 104 [.lit (.func (.yield y) #[] #[]),ptr b1] ((b1,.c [mp bm])::(bm,mS [])::J) fun v bs rs=>v=.tup []∧bs=(b1,.c [mp bm])::(bm,mS [])::J∧rs=[]:=by
 refine Ok.of_ex Ty.mixed Tryz.func104 rfl (by simp [Tryz.ntmps104]) (by kernel_rfl) fun F w0 I0=>?_
 simp only [↓rA,rB,qCl,hb]
 refine fun ib hi=>?_;replace hi:=qn hi;try simp only [Nb] at hi
 simp only [↓rA,rB,Tryz.results104]
 refine vh Ty.mixed (by kernel_rfl) (fun _:Nat=>0) (fun _ S=>S.boxes=(ib,.it bm 0 [] 0)::(b1,.c [mp bm])::(bm,mS [])::J∧S.rows=[]∧S.σ 5=ptr ib) 0 ⟨_,_,_,_,List.Sublist.refl _,List.Sublist.refl _,List.Perm.refl _,List.Perm.refl _,?_⟩ (fun _ S ⟨gb,gr,g5⟩=>?_)
 ·simp only [rB]
 ·simp only [↓rA,rB,gb,g5,hb,hi]
  refine⟨fun _=>?_,fun e he=>?_⟩
  ·simp only [↓rA,rB,gb,gr]
   exact⟨_,_,[],Le.refl _,List.Sublist.cons _ (List.Sublist.refl _),List.nil_sublist _,rfl,rfl,rfl⟩
  ·rw [qyj] at he;cases he
def qCk:=(aI (aI Ty.c104 Ty.t115) (aI Ty.t4 (aI Ty.t9 Ty.t93)))
theorem qDe (k:Str) (y b1 bm:Nat) (hb:b1 ≠ bm∧bm ≠ b1) (J0:List (Nat × B)) (J1:List (Nat × B)→Prop) (hY:OkY Tryz.prog y [qm k] J0 fun v bs rs=>v=qv true∧J1 bs∧rs=[]) :
  Ok Tryz.prog 104 [.lit (.func (.yield y) #[] #[]),ptr b1] ((b1,.c [mp bm])::(bm,mS [k])::J0) fun v bs rs=>v=.tup []∧(∃ Jn,J1 Jn∧bs=(b1,.c [mp bm])::(bm,mS [k])::Jn)∧rs=[]:=by
 refine Ok.of_ex Ty.mixed Tryz.func104 rfl (by simp [Tryz.ntmps104]) (by kernel_rfl) fun F w0 I0=>?_
 simp only [↓rA,rB,qCk,hb]
 refine fun ib hi=>?_;replace hi:=qn hi;try simp only [Nb] at hi
 simp only [↓rA,rB,Tryz.results104]
 refine vh Ty.mixed (by kernel_rfl) (fun x:Bool=>if x then 0 else 1) (fun x S=>(if x=true then ∃ Jn,J1 Jn∧S.boxes=(ib,.it bm 1 [0] 1)::(b1,.c [mp bm])::(bm,mS [k])::Jn else S.boxes=(ib,.it bm 1 [] 1)::(b1,.c [mp bm])::(bm,mS [k])::J0)∧S.rows=[]∧S.σ 0=.lit (.func (.yield y) #[] #[])∧S.σ 5=ptr ib) false ⟨_,_,_,_,List.Sublist.refl _,List.Sublist.refl _,List.Perm.refl _,List.Perm.refl _,?_⟩ (fun x S ⟨gx,gr,g0,g5⟩=>?_)
 ·simp only [rB,reduceCtorEq]
 ·cases x with
  | false =>
   simp only [Bool.false_eq_true,if_false] at gx
   simp only [↓rA,rB,gx,g5,hb,hi]
   refine⟨fun h=>?_,fun e he hf=>?_⟩
   ·rw [qyi] at h;cases h
   ·rw [qyi] at he
    obtain rfl:=List.mem_singleton.1 he
    simp only at hf
    simp only [↓rA,rB,Nat.reduceEqDiff,reduceCtorEq,gx,g0,g5,hb,hi,hf,List.getLast?_singleton]
    refine qng J0 [(ib,.it bm 1 [0] 1),(b1,.c [mp bm]),(bm,mS [k])] (List.perm_append_comm (l₁:=[(ib,B.it bm 1 [0] 1),(b1,B.c [mp bm]),(bm,mS [k])]) (l₂:=J0)) hY ?_
    rintro v Jn rs ⟨rfl,hJn,rfl⟩ _
    simp only [↓rA,rB,gr]
    refine⟨true,by decide,_,_,_,_,List.Sublist.refl _,List.Sublist.refl _,List.perm_append_comm,List.Perm.refl _,?_⟩
    simp only [rB,Nat.reduceEqDiff,reduceCtorEq,g0,g5]
    exact⟨Jn,hJn,rfl⟩
  | true =>
   simp only [if_true] at gx
   obtain⟨Jn,hJ,gb⟩:=gx
   simp only [↓rA,rB,gb,g5,hb,hi]
   refine⟨fun _=>?_,fun e he=>?_⟩
   ·simp only [↓rA,rB,gb,gr]
    exact⟨_,_,[],Le.refl _,List.Sublist.cons _ (List.Sublist.refl _),List.nil_sublist _,rfl,⟨Jn,hJ,rfl⟩,rfl⟩
   ·rw [qC8] at he;cases he
abbrev fnK (b1:Nat):V:=.lit (.func (.func 104) #[] #[.pointer (some ⟨b1,0,none⟩)])
def qCj:=(aI (aI Ty.c104 Ty.t119) (aI Ty.t69 Ty.t9))
theorem qg7 (b1 bm:Nat) (hb:b1 ≠ bm∧bm ≠ b1):Ok Tryz.prog 137 [nilS,fnK b1] [(b1,.c [mp bm]),(bm,mS [])] fun v bs rs=>v=nilS∧bs=[(b1,.c [mp bm]),(bm,mS [])]∧rs=[]:=by
 refine Ok.of_ex Ty.mixed Tryz.func137 rfl (by simp [Tryz.ntmps137]) (by kernel_rfl) fun F w0 I0=>?_
 simp only [↓rA,rB,qf,Nat.reduceLT]
 refine fun b2 h2=>?_;replace h2:=qn h2;try simp only [Nb] at h2
 simp only [↓rA,rB,Nat.reduceEqDiff,Tryz.results137]
 refine Z0 rfl (gf:=104) (first:=#[]) (cap:=#[.pointer (some ⟨b1,0,none⟩)]) rfl Ty.cb104 [(b2,.c [nilS]),(b1,.c [mp bm]),(bm,mS [])] [] (by rw [List.append_nil];exact List.Perm.refl _)
  (fun l r v bs rs=>rs=[]∧bs=[(l,.obj (.loop r)),(b2,.c [nilS]),(b1,.c [mp bm]),(bm,mS [])]) ?_ ?_
 ·intro l r hfr hrec hpa has hbo
  refine Ok.permR (Ok.permL (qDf l b1 bm hb [(l,.obj (.loop r)),(b2,.c [nilS])]) ?_) fun v bs rs ⟨h1,h2,h3⟩=>⟨_,?_,h3,rfl⟩
  ·exact List.perm_append_comm (l₁:=[(l,B.obj (.loop r)),(b2,B.c [nilS])]) (l₂:=[(b1,B.c [mp bm]),(bm,mS [])])
  ·rw [h2]
   exact List.perm_append_comm (l₁:=[(b1,B.c [mp bm]),(bm,mS [])]) (l₂:=[(l,B.obj (.loop r)),(b2,B.c [nilS])])
 ·intro l r v bs rs hrec ⟨h1,h3⟩
  subst h1 h3
  refine⟨_,rfl,fun _=>?_⟩
  simp only [↓rA,rB,Nat.reduceEqDiff,qCj]
  exact⟨_,[_,_],[],Le.refl _,List.Sublist.cons _ (List.Sublist.refl _),List.nil_sublist _,rfl,rfl,rfl⟩
def qol:=(aI (aI Ty.c104 Ty.t119) (aI Ty.t69 Ty.t9))
theorem qg6 (k:Str) (b1 bm:Nat) (hb:b1 ≠ bm∧bm ≠ b1):Ok Tryz.prog 137 [nilS,fnK b1] [(b1,.c [mp bm]),(bm,mS [k])] fun v bs rs =>
  ∃ b c,1≤c∧v=.lit (.slice (some ⟨b,0,none⟩) 1 c)∧bs=[(b,.c (qm k::xf (c - 1))),(b1,.c [mp bm]),(bm,mS [k])]∧rs=[]:=by
 refine Ok.of_ex Ty.mixed Tryz.func137 rfl (by simp [Tryz.ntmps137]) (by kernel_rfl) fun F w0 I0=>?_
 simp only [↓rA,rB,qf,Nat.reduceLT]
 refine fun b2 h2=>?_;replace h2:=qn h2;try simp only [Nb] at h2
 simp only [↓rA,rB,Nat.reduceEqDiff,Tryz.results137]
 refine Z0 rfl (gf:=104) (first:=#[]) (cap:=#[.pointer (some ⟨b1,0,none⟩)]) rfl Ty.cb104 [(b2,.c [nilS]),(b1,.c [mp bm]),(bm,mS [k])] [] (by rw [List.append_nil];exact List.Perm.refl _)
  (fun l r v bs rs=>rs=[]∧∃ b c,1≤c∧(b ≠ b2∧b2 ≠ b)∧bs=[(l,.obj (.loop r)),(b,.c (qm k::xf (c - 1))),(b2,.c [.lit (.slice (some ⟨b,0,none⟩) 1 c)]),(b1,.c [mp bm]),(bm,mS [k])]) ?_ ?_
 ·intro l r hfr hrec hpa has hbo
  have hlb:l ≠ b2∧b2 ≠ l:=by
   simp only [rB] at hfr
   have:=qn hfr
   simp only [Nb] at this
   exact⟨fun e=>this.1.1 e.symm,this.1.1⟩
  refine Ok.permR (Ok.permL (qDe k l b1 bm hb [(l,.obj (.loop r)),(b2,.c [nilS])] (fun bs=>∃ b c,1≤c∧(b ≠ b2∧b2 ≠ b)∧bs=[(l,.obj (.loop r)),(b,.c (qm k::xf (c - 1))),(b2,.c [.lit (.slice (some ⟨b,0,none⟩) 1 c)])]) ?_) ?_) fun v bs rs ⟨h1,⟨Jn,⟨b,c,hc,hbb,h2⟩,h3⟩,h4⟩=>⟨_,?_,h4,b,c,hc,hbb,rfl⟩
  ·refine OkY.of_round (M:=[]) Ty.mixed hrec hpa has hbo rfl (by simp [Tryz.ntmps137]) (by kernel_rfl) (by kernel_rfl) fun F w0 I0=>?_
   generalize hσr:VO _ _ _=σr
   have h7:σr 7=qm k:=by rw [← hσr];rfl
   have h22:σr 2=ptr b2:=by rw [← hσr];rfl
   clear hσr
   simp only [↓rA,rB,Nat.reduceEqDiff,Nat.reduceLT,Nat.reduceLeDiff,Nat.reduceMul,qol,h7,h22]
   refine⟨[],[_],rfl,?_⟩
   simp only [rB,hlb]
   refine fun y=>XB.r ?_
   simp only [↓rA,rB,Nat.reduceLT,Nat.reduceLeDiff,Nat.reduceMul,qol]
   refine fun b c hb' hc=>?_
   have hbn:=qn hb'
   simp only [Nb] at hbn
   simp only [rB,Nat.reduceEqDiff,h22,hlb,hbn]
   refine⟨[_],[_],[_,_],rfl,List.Sublist.refl _,rfl,⟨b,c,hc,⟨hbn.2.1.2,hbn.2.1.1⟩,by rw [Nat.mul_one];rfl⟩,rfl⟩
  ·exact List.perm_append_comm (l₁:=[(l,B.obj (.loop r)),(b2,B.c [nilS])]) (l₂:=[(b1,B.c [mp bm]),(bm,mS [k])])
  ·rw [h3,h2]
   exact List.perm_append_comm (l₁:=[(b1,B.c [mp bm]),(bm,mS [k])]) (l₂:=[(l,B.obj (.loop r)),(b,B.c (qm k::xf (c - 1))),(b2,B.c [.lit (.slice (some ⟨b,0,none⟩) 1 c)])])
 ·intro l r v bs rs hrec ⟨h1,b,c,hc,hbb,h3⟩
  subst h1 h3
  refine⟨_,rfl,fun _=>?_⟩
  simp only [↓rA,rB,Nat.reduceEqDiff,qol,hbb]
  exact⟨_,[_,_,_],[],Le.refl _,List.Sublist.cons_cons _ (List.Sublist.cons _ (List.Sublist.refl _)),List.nil_sublist _,b,c,hc,rfl,rfl,rfl⟩
def qCi:=(aI (aI Ty.c104 Ty.c137) (aI Ty.t119 (aI Ty.t69 Ty.t9)))
theorem qsc (b1 bm:Nat) (hb:b1 ≠ bm∧bm ≠ b1):Ok Tryz.prog 103 [fnK b1] [(b1,.c [mp bm]),(bm,mS [])] fun v bs rs=>v=nilS∧bs=[(b1,.c [mp bm]),(bm,mS [])]∧rs=[]:=by
 refine Ok.of_ex Ty.mixed Tryz.func103 rfl (by simp [Tryz.ntmps103]) (by kernel_rfl) fun F w0 I0=>?_
 simp only [↓rA,rB,reduceCtorEq,qCi]
 refine qi [_,_] [] (List.Perm.refl _) (qg7 b1 bm hb) ?_
 rintro v bs rs ⟨rfl,rfl,rfl⟩
 simp only [↓rA,rB,Tryz.results103]
 exact⟨_,_,[],Le.refl _,List.Sublist.refl _,List.nil_sublist _,rfl,rfl,rfl⟩
def qCh:=(aI (aI Ty.c104 Ty.c137) (aI Ty.t119 (aI Ty.t69 Ty.t9)))
theorem qsb (k:Str) (b1 bm:Nat) (hb:b1 ≠ bm∧bm ≠ b1):Ok Tryz.prog 103 [fnK b1] [(b1,.c [mp bm]),(bm,mS [k])] fun v bs rs =>
  ∃ b c,1≤c∧v=.lit (.slice (some ⟨b,0,none⟩) 1 c)∧bs=[(b,.c (qm k::xf (c - 1))),(b1,.c [mp bm]),(bm,mS [k])]∧rs=[]:=by
 refine Ok.of_ex Ty.mixed Tryz.func103 rfl (by simp [Tryz.ntmps103]) (by kernel_rfl) fun F w0 I0=>?_
 simp only [↓rA,rB,reduceCtorEq,qCh]
 refine qi [_,_] [] (List.Perm.refl _) (qg6 k b1 bm hb) ?_
 rintro v bs rs ⟨b,c,hc,rfl,rfl,rfl⟩
 simp only [↓rA,rB,Tryz.results103]
 exact⟨_,_,[],Le.refl _,List.Sublist.refl _,List.nil_sublist _,b,c,hc,rfl,rfl,rfl⟩
def qxp:=(aI (aI Ty.c103 (aI Ty.c104 Ty.c24)) (aI Ty.t119 (aI Ty.t69 Ty.t9)))
theorem que (b1 bm:Nat) (hb:b1 ≠ bm∧bm ≠ b1):Ok Tryz.prog 65 [fnK b1] [(b1,.c [mp bm]),(bm,mS [])] fun v bs rs=>v=kr []∧bs=[(bm,mS [])]∧rs=[]:=by
 refine Ok.of_ex Ty.mixed Tryz.func65 rfl (by simp [Tryz.ntmps65]) (by kernel_rfl) fun F w0 I0=>?_
 simp only [↓rA,rB,reduceCtorEq,qxp]
 refine qi [_,_] [] (List.Perm.refl _) (qsc b1 bm hb) ?_
 rintro v bs rs ⟨rfl,rfl,rfl⟩
 simp only [↓rA,rB,qxp]
 refine qg _ qaa ?_
 simp only [↓rA,rB,Nat.reduceEqDiff,Tryz.results65]
 exact⟨_,[_],[],Le.nil 1,List.Sublist.cons _ (List.Sublist.refl _),List.nil_sublist _,rfl,rfl,rfl⟩
def qxo:=(aI (aI Ty.c103 (aI Ty.c104 Ty.c24)) (aI Ty.t119 (aI Ty.t69 Ty.t9)))
theorem qud (k:Str) (b1 bm:Nat) (hb:b1 ≠ bm∧bm ≠ b1):Ok Tryz.prog 65 [fnK b1] [(b1,.c [mp bm]),(bm,mS [k])] fun v bs rs=>v=kr [k]∧bs=[(bm,mS [k])]∧rs=[]:=by
 refine Ok.norows' (Q:=fun v bs rs=>bs=[(bm,mS [k])]∧rs=[]∧∃ y,v=.list (some y) 1 [[qm k]]) (Ok.freeze (Q:=fun v bs rs=>∃ b c,1≤c∧v=.lit (.slice (some ⟨b,0,none⟩) 1 c)∧bs=[(b,.c (qm k::xf (c - 1))),(bm,mS [k])]∧rs=[]) ?_ fun v bs rs h=>?_) fun v bs rs h=>?_
 ·refine Ok.of_ex Ty.mixed Tryz.func65 rfl (by simp [Tryz.ntmps65]) (by kernel_rfl) fun F w0 I0=>?_
  simp only [↓rA,rB,reduceCtorEq,qxo]
  refine qi [_,_] [] (List.Perm.refl _) (qsb k b1 bm hb) ?_
  rintro v bs rs ⟨b,c,hc,rfl,rfl,rfl⟩
  simp only [↓rA,rB,qxo]
  refine qi [_] [_,_] (List.Perm.refl _) (qo9 k (xf (c - 1)) b c) ?_
  rintro v bs rs ⟨rfl,rfl,rfl⟩
  simp only [↓rA,rB,Nat.reduceEqDiff,Tryz.results65]
  exact⟨_,[_,_],[],Le.refl _,List.Sublist.cons_cons _ (List.Sublist.cons _ (List.Sublist.refl _)),List.nil_sublist _,b,c,hc,rfl,rfl,rfl⟩
 ·obtain⟨b,c,hc,rfl,rfl,rfl⟩:=h
  exact .inr ⟨b,1,c,1,_,[[qm k]],_,_,List.Perm.refl _,⟨rfl,fun e he=>by obtain rfl:=List.mem_singleton.1 he;rfl,rfl,hc⟩,.here,rfl,rfl,_,rfl⟩
 ·obtain⟨rfl,rfl,y,rfl⟩:=h
  exact⟨_,_,[],Le.list _ _ _,List.Sublist.refl _,List.nil_sublist _,rfl,rfl,rfl⟩
theorem u5 (bm:Nat) (z:B):Ok Tryz.prog 66 [mp bm] [(bm,z)] fun v bs rs=>∃ b1,(b1 ≠ bm∧bm ≠ b1)∧v=fnK b1∧bs=[(b1,.c [mp bm]),(bm,z)]∧rs=[]:=by
 refine Ok.of_ex Ty.mixed Tryz.func66 rfl (by simp [Tryz.ntmps66]) (by kernel_rfl) fun F w0 I0=>?_
 simp only [↓rA,rB,qf,Nat.reduceLT]
 refine fun b1 h1=>?_;replace h1:=qn h1;try simp only [Nb] at h1
 simp only [↓rA,rB,Nat.reduceEqDiff,Tryz.results66]
 exact⟨_,_,[],Le.refl _,List.Sublist.refl _,List.nil_sublist _,b1,⟨h1.1.2,h1.1.1⟩,rfl,rfl,rfl⟩
end Go.Proofs.YtohdpcjaoiebkaaGreatDoor
set_option linter.unusedSimpArgs false
set_option maxRecDepth 100000
set_option linter.defProp false
namespace Go.Proofs.YtohdpcjaoiebkaaGreatDoor
open Go.VL Go.Ar Go.Lo Go.Pr Go.Proofs.YtohdpcjaoiebkaaGreatDoor Go.Shelf
abbrev slS (g n c:Nat):V:=.lit (.slice (some ⟨g,0,none⟩) n c)
theorem qee (ss:List Str) (rest:List V) (b cap:Nat) (hn:ss.length≤1000000):Ok Tryz.prog 24 [.lit (.slice (some ⟨b,0,none⟩) ss.length cap)] [(b,.c (ss.map vS++rest))] fun v bs rs=>v=.tup []∧bs=[(b,.c ((wW ss).map vS++rest))]∧rs=[]:=Ok.sortStr Tryz.sortS ss rest b cap hn
def jM:=(aI (aI (aI (aI Ty.c21 (aI Ty.c22 Ty.c23)) (aI Ty.c24 (aI Ty.t102 Ty.t126))) (aI (aI Ty.t22 (aI Ty.t23 Ty.t25)) (aI Ty.t29 (aI Ty.t3 Ty.t35)))) (aI (aI (aI Ty.t36 (aI Ty.t38 Ty.t4)) (aI Ty.t40 (aI Ty.t43 Ty.t45))) (aI (aI Ty.t60 (aI Ty.t61 Ty.t63)) (aI (aI Ty.t69 Ty.t71) (aI Ty.t74 Ty.t9)))))
set_option maxHeartbeats 2000000 in
theorem qwl (n:Nat) (c:Cat) (hn:n≤1000000) (hk:Qw n c) (hc:qy7 c):Ok Tryz.prog 6 [wT c] [] fun v bs rs=>(∃ L,v=.list none 12 (L.map cE)∧L.length≤5000∧qDz c L)∧bs=[]∧rs=[]:=by
 obtain⟨hc1,hc2,hc3⟩:=hc
 have hlen:(c.features++c.drafts).length≤64:=by rw [List.length_append];omega
 have hbody:∀ f ∈ c.features++c.drafts,kI f.body∧qY f.body=0:=fun f hf=>by
  refine⟨?_,hc3 f (List.mem_append_left _ hf)⟩
  rcases List.mem_append.1 hf with hf | hf
  ·exact(hk.ff f hf).1.2
  ·exact(hk.fd f hf).1.2
 have hcc:=fun own=>qmj own [c.features,c.drafts] (by simp) (by simpa using (by omega:c.features.length+c.drafts.length≤1000))
 simp only [List.flatten_cons,List.flatten_nil,List.append_nil,List.map_cons,List.map_nil] at hcc
 have hmem:=Vu (c.features++c.drafts)
 have hml:=qs2 (c.features++c.drafts) fun f hf=>(xA (hbody f hf).2).1
 generalize hfs:c.features++c.drafts=fs at *
 refine Ok.of_ex Ty.mixed Tryz.func6 rfl (by simp [Tryz.ntmps6]) (by kernel_rfl) fun F w0 I0=>?_
 simp only [↓rA,rB,qf,simprocAttr]
 refine fun b1 h1=>?_;replace h1:=qn h1;try simp only [Nb] at h1
 simp only [↓rA,rB,simprocAttr,jM]
 refine fun bm hm=>?_;replace hm:=qn hm;try simp only [Nb] at hm
 simp only [rB,simprocAttr]
 refine fun b3 h3=>?_;replace h3:=qn h3;try simp only [Nb] at h3
 simp only [↓rA,rB,simprocAttr,jM,hm,h3]
 intro y0
 refine qg _ (hcc _) ?_
 have h3a:=h3.1
 have hb3:b3 ≠ bm∧bm ≠ b3:=⟨h3.1.2,h3.1.1⟩
 simp only [↓rA,rB,simprocAttr,jM,Tryz.results6]
 refine jz Ty.mixed (by kernel_rfl) fs.length (fun i S=>S.boxes=[(b3,.c [.lit (.map (some bm))]),(bm,mE (uP (fs.take i))),(b1,.c (xz c))]∧S.rows=[]∧S.σ 2=nilS∧S.σ 3=ptr b3∧S.σ 16=kA fs∧S.σ 17=vint fs.length∧S.σ 18=vint i) ⟨_,[],List.Sublist.refl _,List.nil_sublist _,?_⟩ (fun i S hi ⟨gb,gr,g2,g3,g16,g17,g18⟩=>?_) (fun S ⟨gb,gr,g2,g3,g16,g17,g18⟩=>?_)
 ·simp only [rB,simprocAttr,List.length_map]
  exact rfl
 ·have hwi:=qk (i:=i) (N:=fs.length) hi (by omega)
  have hmem':=List.getElem_mem hi
  have hq:=qr1 fs[i].body (hbody _ hmem').1 (VQ (hbody _ hmem').1 (hbody _ hmem').2) (uP (fs.take i)) (fun y hy=>by
   obtain⟨f,hf,hyf⟩:=((Vu (fs.take i)).1 y).1 hy
   have hf':=List.mem_of_mem_take hf
   exact VQ (hbody _ hf').1 (hbody _ hf').2 y hyf) b3 bm hb3
  rw [vE,qx] at hq
  simp only [↓rA,rB,simprocAttr,jM,gb,gr,g16,g17,g18,Int.ofNat_lt,hi,List.length_map,qd _ _ _ hi,qW]
  refine fun b5 h5=>?_;replace h5:=qn h5;try simp only [Nb] at h5
  simp only [↓rA,rB,simprocAttr,jM,gb,g3]
  refine qi [(b3,_),(bm,_)] [(b5,_),(b1,_)] (List.perm_append_comm (l₁:=[(b5,_)]) (l₂:=[(b3,_),(bm,_)]) |>.append_right [(b1,_)]) hq ?_
  rintro v bs rs ⟨rfl,rfl,rfl⟩
  simp only [↓rA,rB,simprocAttr,gr,g18,hwi]
  refine⟨[_,_,_],[],((List.Sublist.refl [(b1,_)]).cons (b5,_)).cons_cons (bm,_) |>.cons_cons (b3,_),List.nil_sublist _,?_⟩
  rw [List.take_succ_eq_append_getElem hi,Xz]
  exact⟨rfl,rfl,g2,g3,g16,g17,rfl⟩
 rw [List.take_length] at gb
 have hpr:∀ y ∈ uP fs,Pr y:=fun y hy=>by
  obtain⟨f,hf,hyf⟩:=(hmem.1 y).1 hy
  exact VQ (hbody _ hf).1 (hbody _ hf).2 y hyf
 generalize hm0:uP fs=m at *
 simp only [↓rA,rB,simprocAttr,jM,gb,gr,g3,g17,g18,h3,Int.ofNat_lt,Nat.lt_irrefl]
 refine fun ib hib=>?_;replace hib:=qn hib;try simp only [Nb] at hib
 have hpb:=And.intro h1 (And.intro hm (And.intro h3 hib))
 simp only [↓rA,simprocAttr]
 have hmlen:m.length≤4096:=by omega
 have hap:=qcb 0 m hpr hmem.2
 refine vh Ty.mixed (by kernel_rfl) (fun x=>(yg (gE 0 m) x.1).length) (fun(x:List Nat × List Str) S=>ZZ (fun p:Str × E=>some p.1) (gE 0 m) x.1 x.2∧S.rows=[]∧S.σ 2=nilS∧S.σ 3=ptr b3∧S.σ 28=ptr ib∧((x.2=[]∧S.σ 6=nilS∧S.boxes=[(ib,.it bm m.length x.1 m.length),(b3,.c [.lit (.map (some bm))]),(bm,mE m),(b1,.c (xz c))])∨(∃ b cc rest,(x.2.length+rest.length=cc∧b ≠ ib∧b ≠ bm∧b ≠ b3∧b ≠ b1)∧x.2 ≠ []∧S.σ 6=slS b x.2.length cc∧S.boxes=[(b,.c (x.2.map vS++rest)),(ib,.it bm m.length x.1 m.length),(b3,.c [.lit (.map (some bm))]),(bm,mE m),(b1,.c (xz c))]))) ([],[])
  ⟨_,_,_,_,List.Sublist.refl _,List.Sublist.refl _,List.Perm.refl _,List.Perm.refl _,?_⟩ (fun⟨seen,acc⟩ S ⟨hgot,gr,g2,g3,g28,hcase⟩=>?_)
 ·simp only [rB,simprocAttr,gb,gr,g2,g3]
  exact ZZ.start _
 rename_i hx0;clear hx0
 simp only at hgot hcase
 have hacc:=hgot.len
 rw [qrl] at hacc
 rcases hcase with⟨rfl,g6,gb⟩ | ⟨b,cc,rest,⟨hlc,hb1,hb2,hb3',hb4⟩,hne,g6,gb⟩
 ·simp only [↓rA,rB,simprocAttr,g28,gb,h3,hib]
  refine⟨fun hl=>?_,fun e he hf=>?_⟩
  ·rw [W8,yh] at hl
   have hdone:=hgot.done (by simpa [Vn] using hl)
   rw [V7] at hdone
   have hL:=qdj hpr hmem.2 (c:=c) (by rw [hfs];exact hmem.1) hdone
   simp only [↓rA,rB,simprocAttr,jM,g6,gb]
   refine qg _ qaa ?_
   simp only [↓rA,rB,simprocAttr,jM,g6,gr]
   have hm00:m=[]:=by
    have:=(hdone.length_eq).symm
    rw [List.length_map,List.length_nil] at this
    exact List.length_eq_zero_iff.1 this
   refine qB Ty.mixed (by kernel_rfl) 0 (fun i S=>S.σ 2=nilS∧S.σ 40=vint 0∧S.σ 41=vint i) ⟨0,?_⟩ (fun i S hi=>absurd hi (Nat.not_lt_zero i)) (fun S ⟨g2,g40,g41⟩=>?_)
   ·simp only [rB,simprocAttr,g2]
   ·simp only [↓rA,rB,simprocAttr,g2,g40,g41]
    refine⟨_,[],[],Le.nil 12,List.nil_sublist _,List.nil_sublist _,⟨[],rfl,by decide,?_⟩,rfl,rfl⟩
    have e:wW []=[]:=List.length_eq_zero_iff.1 (U7 [])
    rw [e] at hL
    exact hL
  ·rw [W8,yh] at he
   obtain⟨p,hp,rfl⟩:=List.mem_map.1 he
   have hst:=hgot.step hap hp
   have hmu:=WQ hap hp
   have hlast:(seen++[p.1]).getLast? = some p.1:=by simp
   simp only at hf
   simp only [↓rA,rB,simprocAttr,jM,g6,g28,gb,h3,hib,hlast,hf]
   refine fun y=>XB.r ?_
   simp only [↓rA,rB,simprocAttr,jM,gb,gr]
   refine fun b' c' hb' hc'=>?_
   have hbn:=qn hb'
   simp only [Nb] at hbn
   simp only [↓rA,rB,simprocAttr,gb]
   refine⟨(seen++[p.1],[p.2.1]),hmu,[_,_,_,_,_],[],[_,_,_,_,_],[],List.Sublist.refl _,List.nil_sublist _,List.Perm.refl _,List.Perm.refl _,?_⟩
   simp only [rB,simprocAttr,g2,g3,g28]
   exact⟨hst,b',c',xf ((c' - 1) * 1),⟨by rw [Kg];omega,by simp [hbn]⟩,rfl,rfl⟩
 ·have hbb:(b ≠ ib∧ib ≠ b)∧(b ≠ bm∧bm ≠ b)∧(b ≠ b3∧b3 ≠ b)∧(b ≠ b1∧b1 ≠ b):=⟨⟨hb1,Ne.symm hb1⟩,⟨hb2,Ne.symm hb2⟩,⟨hb3',Ne.symm hb3'⟩,⟨hb4,Ne.symm hb4⟩⟩
  simp only [↓rA,rB,simprocAttr,g28,gb,h3,hib,hbb]
  refine⟨fun hl=>?_,fun e he hf=>?_⟩
  ·rw [W8,yh] at hl
   have hdone:=hgot.done (by simpa [Vn] using hl)
   rw [V7] at hdone
   have hL:=qdj hpr hmem.2 (c:=c) (by rw [hfs];exact hmem.1) hdone
   simp only [↓rA,rB,simprocAttr,jM,g6,gb]
   refine qi [_] [_,_,_,_] (List.Perm.refl _) (qee acc rest b cc (by omega)) ?_
   rintro v bs rs ⟨rfl,rfl,rfl⟩
   simp only [↓rA,rB,simprocAttr,jM,g6,gr]
   have hSl:(wW acc).length=acc.length:=U7 acc
   refine zC.nilRow 2 12 40 (by simp only [rB,simprocAttr,g2]) (by decide) ?_
   refine yr Ty.mixed (by kernel_rfl) acc.length (fun i S=>∃ y,S.boxes=[(b,.c ((wW acc).map vS++rest)),(ib,.it bm m.length seen m.length),(b3,.c [.lit (.map (some bm))]),(bm,mE m),(b1,.c (xz c))]∧S.rows=[⟨y,12,40⟩]∧S.σ 2=.list (some y) 12 ((((wW acc).map (WN m)).take i).map cE)∧S.σ 3=ptr b3∧S.σ 39=slS b acc.length cc∧S.σ 40=vint acc.length∧S.σ 41=vint i) ⟨0,1,nilv,?_⟩ (fun i S hi ⟨y,gb,gr,g2,g3,g39,g40,g41⟩=>?_) (fun S ⟨y,gb,gr,g2,g3,g39,g40,g41⟩=>?_)
   ·simp only [rB,simprocAttr,g3]
   ·have hwi:=qk (i:=i) (N:=acc.length) hi (by omega)
    have hi':i < (wW acc).length:=by omega
    have hk:(wW acc)[i] ∈ m.map txS:=(((YK acc).trans hdone).mem_iff).1 (List.getElem_mem hi')
    obtain⟨q1,q2,q3⟩:=wJ hk
    have hfe:=Xl 0 m (wW acc)[i]
    rw [q1,Option.map_some,vE,qx] at hfe
    have hdr:List.drop i ((wW acc).map vS++rest)=vS (wW acc)[i]::(((wW acc).map vS).drop (i+1)++rest):=by
     rw [List.drop_append_of_le_length (by rw [List.length_map];omega),List.drop_eq_getElem_cons (by rw [List.length_map];omega),List.getElem_map]
     rfl
    simp only [↓rA,rB,simprocAttr,jM,gb,gr,g2,g3,g39,g40,g41,hbb,h3,hib,Int.ofNat_lt,hi,Nat.mul_one,hdr,hfe]
    refine fun y2=>xd ?_
    simp only [↓rA,rB,simprocAttr,gb,g3,g39,g40,g41,hwi,List.length_map]
    refine⟨by rw [List.length_take,List.length_map];omega,fun y3=>⟨0,1,y3,rfl,rfl,?_⟩⟩
    rw [List.take_succ_eq_append_getElem (by rw [List.length_map];exact hi'),List.map_append,List.getElem_map]
    simp only [List.map_cons,List.map_nil,qx (WN m (wW acc)[i])]
   ·simp only [↓rA,rB,simprocAttr,gb,gr,g2,g40,g41,Int.ofNat_lt,Nat.lt_irrefl]
    rw [List.take_of_length_le (by rw [List.length_map];omega)]
    exact⟨_,[],[],Le.list _ _ _,List.nil_sublist _,List.nil_sublist _,⟨_,rfl,by rw [List.length_map];omega,hL⟩,rfl,rfl⟩
  ·rw [W8,yh] at he
   obtain⟨p,hp,rfl⟩:=List.mem_map.1 he
   have hst:=hgot.step hap hp
   have hmu:=WQ hap hp
   have hlast:(seen++[p.1]).getLast? = some p.1:=by simp
   simp only at hf
   simp only [↓rA,rB,simprocAttr,jM,g6,g28,gb,h3,hib,hbb,hlast,hf]
   refine fun y=>XB.r ?_
   simp only [↓rA,rB,simprocAttr,jM,gb,gr,hbb]
   refine⟨⟨by rw [List.length_append,List.length_map];omega,by omega,by omega⟩,fun b' c' hb' hc'=>?_⟩
   simp only [kJ,List.filter_cons,decide_true,Bool.not_true,Bool.false_eq_true,if_false,List.filter_nil,hbb,decide_false,Bool.not_false,if_true] at hb' ⊢
   have hbn:=qn hb'
   simp only [Nb] at hbn
   simp only [↓rA,rB,simprocAttr,gb]
   have hB:List.filter (fun p=>!decide (p.1=b)) (setX [(b,B.c ((acc.map vS)++rest)),(ib,B.it bm m.length seen m.length),(b3,.c [.lit (.map (some bm))]),(bm,mE m),(b1,.c (xz c))] ib (.it bm m.length (seen++[p.1]) m.length))=[(ib,B.it bm m.length (seen++[p.1]) m.length),(b3,.c [.lit (.map (some bm))]),(bm,mE m),(b1,.c (xz c))]:=by simp [setX,hbb]
   simp only [hB]
   refine⟨(seen++[p.1],acc++[p.2.1]),hmu,[_,_,_,_,_],[],[_,_,_,_,_],[],List.Sublist.refl _,List.nil_sublist _,List.Perm.refl _,List.Perm.refl _,?_⟩
   simp only [rB,simprocAttr,g2,g3,g28]
   refine⟨hst,.inr ⟨b',c',xf ((c' - (acc.length+1)) * 1),⟨by rw [Kg,List.length_append,List.length_cons,List.length_nil];omega,by simp [hbn]⟩,by simp,by rw [List.length_append];rfl,?_⟩⟩
   rw [Nat.mul_one,List.take_left' (List.length_map _),List.map_append,List.append_assoc,List.append_assoc]
   rfl
end Go.Proofs.YtohdpcjaoiebkaaGreatDoor
set_option linter.unusedSimpArgs false
set_option maxRecDepth 100000
set_option linter.defProp false
namespace Go.Lo
open Go.VL Go.Ar
abbrev sMM:List Str:=[⟨#[109,105,110]⟩,⟨#[109,97,120]⟩,⟨#[102,105,114,115,116]⟩,⟨#[108,97,115,116]⟩]
end Go.Lo
namespace Go.Proofs.YtohdpcjaoiebkaaGreatDoor
open Go.VL Go.Ar Go.Lo Go.Proofs.YtohdpcjaoiebkaaGreatDoor
def up (n m:Int):Int:=if m > n then m else n
def Uk (h:Hd) (n:Int):Int:=if h.wk=4 then up n 3 else if xP sMM h.op=true then up n 2 else up n 1
mutual
def vc:E→Int→Int
 | .mk h l,n=>if h.kind=5 then Uk h n else eachMs l n
def eachMs:List E→Int→Int
 | [],n=>n
 | x::r,n=>eachMs r (vc x n)
end
theorem qr0 (h:Hd) (l:List E) (n:Int):vc (.mk h l) n=if h.kind=5 then Uk h n else eachMs l n:=by rw [vc]
theorem QI:∀ (l m:List E) (n:Int),eachMs (l++m) n=eachMs m (eachMs l n)
 | [],m,n=>rfl
 | x::r,m,n=>by simp only [List.cons_append,eachMs,QI r m]
def qh1:=(aI (aI (aI Ty.c31 (aI Ty.c32 Ty.c33)) (aI Ty.t126 (aI Ty.t29 Ty.t3))) (aI (aI Ty.t35 (aI Ty.t36 Ty.t38)) (aI (aI Ty.t4 Ty.t40) (aI Ty.t69 Ty.t9))))
theorem qDk (h:Hd) (l:List E) (bn:Nat) (n:Int):Ok Tryz.prog 32 [.agg (cH h (zD l)),ptr bn] [(bn,.c [vint n])] fun v bs rs=>v=.tup []∧bs=[(bn,.c [vint (Uk h n)])]∧rs=[]:=by
 refine Ok.of_ex Ty.mixed Tryz.func32 rfl (by simp [Tryz.ntmps32]) (by kernel_rfl) fun F w0 I0=>?_
 simp only [↓rA,rB,qf,Nat.reduceLT]
 refine fun b2 h2=>?_;replace h2:=qn h2;try simp only [Nb] at h2
 by_cases e:h.wk=4
 ·have hc:Uk h n=up n 3:=by rw [Uk,if_pos e]
  rw [hc]
  simp only [↓rA,rB,Nat.reduceAdd,Nat.reduceEqDiff,qh1,Tryz.results32,h2,e]
  exact⟨_,[_],[],Le.refl _,List.Sublist.cons _ (List.Sublist.refl _),List.nil_sublist _,rfl,rfl,rfl⟩
 ·simp only [↓rA,rB,Nat.reduceAdd,Nat.reduceEqDiff,Nat.reduceLT,Nat.reduceLeDiff,Nat.reduceMul,qh1,e]
  refine fun y=>?_
  refine vN (.cons (Le.list _ _ _) (.cons (Le.refl _) .nil)) _ (kh sMM h.op (by decide)) ?_
  cases e2:xP sMM h.op
  ·have hc:Uk h n=up n 1:=by rw [Uk,if_neg e,if_neg (by rw [e2];decide)]
   rw [hc]
   simp only [↓rA,rB,Nat.reduceEqDiff,qh1,Tryz.results32,h2]
   exact⟨_,[_],[],Le.refl _,List.Sublist.cons _ (List.Sublist.refl _),List.nil_sublist _,rfl,rfl,rfl⟩
  ·have hc:Uk h n=up n 2:=by rw [Uk,if_neg e,if_pos e2]
   rw [hc]
   simp only [↓rA,rB,Nat.reduceEqDiff,qh1,Tryz.results32,h2]
   exact⟨_,[_],[],Le.refl _,List.Sublist.cons _ (List.Sublist.refl _),List.nil_sublist _,rfl,rfl,rfl⟩
abbrev fnD (bn:Nat):V:=.lit (.func (.func 32) #[] #[.pointer (some ⟨bn,0,none⟩)])
abbrev fnO (bn:Nat):V:=.lit (.func (.func 31) #[] #[.pointer (some ⟨bn,0,none⟩)])
def qh0:=(aI (aI (aI Ty.c22 (aI Ty.c31 Ty.c32)) (aI Ty.t126 (aI Ty.t29 Ty.t3))) (aI (aI Ty.t35 (aI Ty.t36 Ty.t38)) (aI (aI Ty.t4 Ty.t40) (aI Ty.t74 Ty.t9))))
theorem qv1:∀ (x:E),kI x→∀ (bn:Nat) (n:Int),Ok Tryz.prog 22 [vE x,fnD bn] [(bn,.c [vint n])] fun v bs rs=>v=.tup []∧bs=[(bn,.c [vint (vc x n)])]∧rs=[]:=by
 intro x
 induction x using E.ind with
 | h hd l ih =>
 intro hf bn n
 have hl:=hf.len
 have ha:=hf.args
 simp only [E.args,big] at hl ha
 rw [vE,zq,qr0]
 refine Ok.of_ex Ty.mixed Tryz.func22 rfl (by simp [Tryz.ntmps22]) (by kernel_rfl) fun F w0 I0=>?_
 simp only [↓rA,rB,qf,Nat.reduceLT]
 refine fun b2 h2=>?_;replace h2:=qn h2;try simp only [Nb] at h2
 by_cases e:hd.kind=5
 ·rw [if_pos e]
  have hq:=qDk hd l bn n
  simp only [cH,e] at hq
  simp only [↓rA,rB,Nat.reduceAdd,Nat.reduceEqDiff,qh0,e]
  refine qi _ [] (List.Perm.of_eq (List.append_nil _).symm) (Ok.frame [_] hq) ?_
  rintro v bs rs ⟨bs1,rfl,_,rfl,rfl,rfl⟩
  simp only [↓rA,rB,Tryz.results22]
  exact⟨_,[_],[],Le.refl _,List.Sublist.cons _ (List.Sublist.refl _),List.nil_sublist _,rfl,rfl,rfl⟩
 ·rw [if_neg e]
  simp only [↓rA,rB,Nat.reduceAdd,Nat.reduceEqDiff,qh0,Tryz.results22,e]
  refine qB Ty.mixed (by kernel_rfl) l.length (fun i S=>S.boxes=[(b2,.c (cH hd (zD l))),(bn,.c [vint (eachMs (l.take i) n)])]∧S.rows=[]∧S.σ 1=fnD bn∧S.σ 13=zD l∧S.σ 14=vint l.length∧S.σ 15=vint i) ⟨0,?_⟩ (fun i S hi ⟨gb,gr,g1,g13,g14,g15⟩=>?_) (fun S ⟨gb,gr,g1,g13,g14,g15⟩=>?_)
  ·simp only [rB,Nat.reduceEqDiff,List.length_map,eachMs]
  ·have hwi:=qk (i:=i) (N:=l.length) hi (by omega)
   have hx:=List.getElem_mem hi
   simp only [↓rA,rB,Nat.reduceAdd,Nat.reduceEqDiff,qh0,gb,gr,g13,g14,g15,Int.ofNat_lt,hi,List.length_map,qd _ _ _ hi,qx]
   refine fun b5 h5=>?_;replace h5:=qn h5;try simp only [Nb] at h5
   simp only [↓rA,rB,Nat.reduceAdd,Nat.reduceEqDiff,qh0,gb,g1,qd _ _ _ hi]
   have hc:=ih l[i] hx (ha _ hx) bn (eachMs (l.take i) n)
   rw [vE,qx] at hc
   refine qi _ [] (List.Perm.of_eq (List.append_nil _).symm) (Ok.frame [_,_] hc) ?_
   rintro v bs rs ⟨bs1,rfl,_,rfl,rfl,rfl⟩
   simp only [↓rA,rB,Nat.reduceEqDiff,gr,g1,g13,g14,g15,hwi]
   refine⟨1,?_⟩
   rw [List.take_succ_eq_append_getElem hi,QI]
   rfl
  ·rw [List.take_of_length_le (Nat.le_refl _)] at gb
   simp only [↓rA,rB,gb,gr,g14,g15,Int.ofNat_lt,Nat.lt_irrefl]
   exact⟨_,[_],[],Le.refl _,List.Sublist.cons _ (List.Sublist.refl _),List.nil_sublist _,rfl,rfl,rfl⟩
def qCg:=(aI (aI (aI Ty.c22 (aI Ty.c31 Ty.c32)) (aI Ty.t126 (aI Ty.t29 Ty.t3))) (aI (aI Ty.t35 (aI Ty.t36 Ty.t38)) (aI Ty.t40 (aI Ty.t74 Ty.t9))))
theorem qe0 (x:E) (hf:kI x) (bn:Nat) (n:Int):Ok Tryz.prog 31 [vE x,ptr bn] [(bn,.c [vint n])] fun v bs rs=>v=.tup []∧bs=[(bn,.c [vint (vc x n)])]∧rs=[]:=by
 have hc:=qv1 x hf bn n
 rw [vE,qx] at hc ⊢
 refine Ok.of_ex Ty.mixed Tryz.func31 rfl (by simp [Tryz.ntmps31]) (by kernel_rfl) fun F w0 I0=>?_
 simp only [↓rA,rB,qf,Nat.reduceLT]
 refine fun b2 h2=>?_;replace h2:=qn h2;try simp only [Nb] at h2
 simp only [↓rA,rB,Nat.reduceAdd,Nat.reduceEqDiff,qCg]
 refine qi _ [] (List.Perm.of_eq (List.append_nil _).symm) (Ok.frame [_] hc) ?_
 rintro v bs rs ⟨bs1,rfl,_,rfl,rfl,rfl⟩
 simp only [↓rA,rB,Tryz.results31]
 exact⟨_,[_],[],Le.refl _,List.Sublist.cons _ (List.Sublist.refl _),List.nil_sublist _,rfl,rfl,rfl⟩
theorem uX (K:List Str) (hK:K.length≤1) (b1 bm:Nat) (hb:b1 ≠ bm∧bm ≠ b1):Ok Tryz.prog 65 [fnK b1] [(b1,.c [mp bm]),(bm,mS K)] fun v bs rs=>v=kr K∧bs=[(bm,mS K)]∧rs=[]:=by
 match K,hK with
 | [],_=>exact que b1 bm hb
 | [k],_=>exact qud k b1 bm hb
def KY:=(aI (aI (aI (aI Ty.c31 (aI Ty.c32 Ty.c35)) (aI Ty.c64 (aI Ty.c65 Ty.c66))) (aI (aI Ty.t115 (aI Ty.t119 Ty.t126)) (aI (aI Ty.t22 Ty.t23) (aI Ty.t25 Ty.t29)))) (aI (aI (aI Ty.t3 (aI Ty.t35 Ty.t36)) (aI (aI Ty.t38 Ty.t4) (aI Ty.t40 Ty.t43))) (aI (aI Ty.t45 (aI Ty.t60 Ty.t61)) (aI (aI Ty.t63 Ty.t69) (aI Ty.t89 Ty.t9)))))
theorem Z4 (c:Cat) (x:E) (hf:kI x) (O:List Str) (hd:qcv x ([],[])=([],O)) (hO:O.length≤1):zc Tryz.prog 34 [wT c,vE x] (.tup [kr [],kr O]):=by
 have hx:=fun b1 b2 hb=>Xo x hf ([],[]) b1 b2 hb
 rw [hd] at hx
 simp only [vE,qx x] at hx ⊢
 refine Ok.of_ex Ty.mixed Tryz.func34 rfl (by simp [Tryz.ntmps34]) (by kernel_rfl) fun F w0 I0=>?_
 simp only [↓rA,rB,qf,Nat.reduceLT]
 refine fun b2 h2=>?_;replace h2:=qn h2;try simp only [Nb] at h2
 simp only [↓rA,rB,qf,Nat.reduceEqDiff,Nat.reduceLT]
 refine fun b3 h3=>?_;replace h3:=qn h3;try simp only [Nb] at h3
 simp only [↓rA,rB,Nat.reduceEqDiff,KY]
 refine fun b6 h6=>?_;replace h6:=qn h6;try simp only [Nb] at h6
 simp only [rB]
 refine fun b7 h7=>?_;replace h7:=qn h7;try simp only [Nb] at h7
 simp only [rB,Nat.reduceAdd,Nat.reduceEqDiff,h6,h7]
 refine qi [_,_] [_,_] (List.Perm.swap _ _ _) (hx b6 b7 ⟨h7.1.1,h7.1.2⟩) ?_
 rintro v bs rs ⟨rfl,rfl,rfl⟩
 simp only [↓rA,rB,Nat.reduceEqDiff,KY]
 refine qi [_] [_,_,_] (List.Perm.refl _) (u5 b6 _) ?_
 rintro v bs rs ⟨b1,hb1,rfl,rfl,rfl⟩
 simp only [↓rA,rB,Nat.reduceEqDiff,KY]
 refine qi [_,_] [_,_,_] (List.Perm.refl _) (uX [] (by simp) b1 b6 hb1) ?_
 rintro v bs rs ⟨rfl,rfl,rfl⟩
 simp only [↓rA,rB,Nat.reduceEqDiff,Tryz.results34]
 refine jf Ty.mixed (by kernel_rfl) (fun _:Nat=>0) (fun _ S=>S.boxes=[(b6,mS []),(b7,mS O),(b3,.c (cH x.hd (zD x.args))),(b2,.c (xz c))]∧S.rows=[]∧S.σ 6=mp b6∧S.σ 7=mp b7∧S.σ 8=kr []) 0 ⟨0,?_⟩ (fun _ S ⟨gb,gr,g6,g7,g8⟩=>?_)
 ·simp only [rB,Nat.reduceEqDiff]
 ·simp only [↓rA,rB,Int.reduceLT,Nat.reduceEqDiff,KY,gb,g6,g8]
  refine qi [_] [_,_,_] (List.Perm.refl _) (u5 b6 _) ?_
  rintro v bs rs ⟨b1',hb1',rfl,rfl,rfl⟩
  simp only [↓rA,rB,KY,gr]
  refine qi [_,_] [_,_,_] (List.Perm.refl _) (uX [] (by simp) b1' b6 hb1') ?_
  rintro v bs rs ⟨rfl,rfl,rfl⟩
  simp only [↓rA,rB,Nat.reduceEqDiff,KY,gr,g7]
  refine qi [_] [_,_,_] (List.Perm.swap _ _ _) (u5 b7 _) ?_
  rintro v bs rs ⟨b8,hb8,rfl,rfl,rfl⟩
  simp only [↓rA,rB,KY,gr]
  refine qi [_,_] [_,_,_] (List.Perm.refl _) (uX O hO b8 b7 hb8) ?_
  rintro v bs rs ⟨rfl,rfl,rfl⟩
  simp only [↓rA,rB,Nat.reduceEqDiff,gr]
  exact qa rfl
def uo:=(aI (aI (aI (aI Ty.c31 (aI Ty.c32 Ty.c35)) (aI Ty.c64 (aI Ty.c65 Ty.c66))) (aI (aI Ty.t115 (aI Ty.t119 Ty.t126)) (aI (aI Ty.t22 Ty.t23) (aI Ty.t25 Ty.t29)))) (aI (aI (aI Ty.t3 (aI Ty.t35 Ty.t36)) (aI (aI Ty.t38 Ty.t4) (aI Ty.t40 Ty.t43))) (aI (aI Ty.t45 (aI Ty.t60 Ty.t61)) (aI (aI Ty.t63 Ty.t69) (aI Ty.t89 Ty.t9)))))
theorem qn1 (c:Cat) (x:E) (hf:kI x) (hfe:c.features.length≤big) (f:Str) (g:Ftr) (hg:kI g.body) (O O':List Str) (hd:qcv x ([],[])=([f],O)) (hfi:wB c.features f=some g) (hd':qcv g.body ([],O)=([],O')) (hO':O'.length≤1):zc Tryz.prog 34 [wT c,vE x] (.tup [kr [f],kr O']):=by
 have hx:=fun b1 b2 hb=>Xo x hf ([],[]) b1 b2 hb
 have hx':=fun b1 b2 hb=>Xo g.body hg ([],O) b1 b2 hb
 rw [hd] at hx
 rw [hd'] at hx'
 have hfo:=W4 c f hfe
 rw [hfi] at hfo
 simp only [Ym,qW] at hfo
 simp only [vE,qx x,qx g.body] at hx hx' ⊢
 refine Ok.of_ex Ty.mixed Tryz.func34 rfl (by simp [Tryz.ntmps34]) (by kernel_rfl) fun F w0 I0=>?_
 simp only [↓rA,rB,qf,Nat.reduceLT]
 refine fun b2 h2=>?_;replace h2:=qn h2;try simp only [Nb] at h2
 simp only [↓rA,rB,qf,Nat.reduceEqDiff,Nat.reduceLT]
 refine fun b3 h3=>?_;replace h3:=qn h3;try simp only [Nb] at h3
 simp only [↓rA,rB,Nat.reduceEqDiff,uo]
 refine fun b6 h6=>?_;replace h6:=qn h6;try simp only [Nb] at h6
 simp only [rB]
 refine fun b7 h7=>?_;replace h7:=qn h7;try simp only [Nb] at h7
 simp only [rB,Nat.reduceAdd,Nat.reduceEqDiff,h6,h7]
 refine qi [_,_] [_,_] (List.Perm.swap _ _ _) (hx b6 b7 ⟨h7.1.1,h7.1.2⟩) ?_
 rintro v bs rs ⟨rfl,rfl,rfl⟩
 simp only [↓rA,rB,Nat.reduceEqDiff,uo]
 refine qi [_] [_,_,_] (List.Perm.refl _) (u5 b6 _) ?_
 rintro v bs rs ⟨b1,hb1,rfl,rfl,rfl⟩
 simp only [↓rA,rB,Nat.reduceEqDiff,uo]
 refine qi [_,_] [_,_,_] (List.Perm.refl _) (uX [f] (by simp) b1 b6 hb1) ?_
 rintro v bs rs ⟨rfl,rfl,rfl⟩
 simp only [↓rA,rB,Nat.reduceEqDiff,Tryz.results34]
 refine vh Ty.mixed (by kernel_rfl) (fun t:Bool=>if t then 0 else 1) (fun t S=>(if t=true then S.boxes=[(b6,mS [f]),(b7,mS O'),(b3,.c (cH x.hd (zD x.args))),(b2,.c (xz c))]∧S.σ 8=V.list none 1 [] else S.boxes=[(b6,mS [f]),(b7,mS O),(b3,.c (cH x.hd (zD x.args))),(b2,.c (xz c))]∧S.σ 8=kr [f])∧S.rows=[]∧S.σ 6=mp b6∧S.σ 7=mp b7∧S.σ 2=ptr b2) false ⟨_,_,_,_,List.Sublist.refl _,List.Sublist.refl _,List.Perm.refl _,List.Perm.refl _,?_⟩ (fun t S ⟨gx,gr,g6,g7,g2⟩=>?_)
 ·simp only [rB,Nat.reduceEqDiff]
 ·cases t with
  | true =>
   simp only [if_true] at gx
   obtain⟨gb,g8⟩:=gx
   simp only [↓rA,rB,Int.reduceLT,Nat.reduceEqDiff,uo,gb,g6,g8]
   refine qi [_] [_,_,_] (List.Perm.refl _) (u5 b6 _) ?_
   rintro v bs rs ⟨b1',hb1',rfl,rfl,rfl⟩
   simp only [↓rA,rB,uo,gr]
   refine qi [_,_] [_,_,_] (List.Perm.refl _) (uX [f] (by simp) b1' b6 hb1') ?_
   rintro v bs rs ⟨rfl,rfl,rfl⟩
   simp only [↓rA,rB,Nat.reduceEqDiff,uo,gr,g7]
   refine qi [_] [_,_,_] (List.Perm.swap _ _ _) (u5 b7 _) ?_
   rintro v bs rs ⟨b8,hb8,rfl,rfl,rfl⟩
   simp only [↓rA,rB,uo,gr]
   refine qi [_,_] [_,_,_] (List.Perm.refl _) (uX O' hO' b8 b7 hb8) ?_
   rintro v bs rs ⟨rfl,rfl,rfl⟩
   simp only [↓rA,rB,Nat.reduceEqDiff,gr]
   exact qa rfl
  | false =>
   simp only [Bool.false_eq_true,if_false] at gx
   obtain⟨gb,g8⟩:=gx
   have i0:(0:Int) < ((1:Nat):Int):=by decide
   simp only [↓rA,rB,Int.reduceLE,Int.reduceToNat,Nat.reduceAdd,Nat.reduceEqDiff,Nat.reduceSub,uo,gb,g8,g2,h3,h6,h7,i0]
   refine qg _ hfo ?_
   simp only [↓rA,rB,Nat.reduceEqDiff,Nat.reduceSub,uo,gr]
   refine fun b10 h10=>?_;replace h10:=qn h10;try simp only [Nb] at h10
   simp only [↓rA,rB,Nat.reduceAdd,Nat.reduceEqDiff,Nat.reduceSub,uo,gr]
   refine fun b12 h12=>?_;replace h12:=qn h12;try simp only [Nb] at h12
   simp only [rB,Nat.reduceAdd,Nat.reduceEqDiff,Nat.reduceLeDiff,g7,h12]
   refine qi [(b12,B.m ([Sh.s],false) [] 0),(b7,mS O)] [(b10,B.c (cF g g.body.hd (zD g.body.args))),(b6,mS [f]),(b3,B.c (cH x.hd (zD x.args))),(b2,B.c (xz c))] (List.Perm.cons _ (List.perm_middle (l₁:=[_,_]) (l₂:=[_,_]))) (hx' b12 b7 ⟨h12.2.2.1.2,h12.2.2.1.1⟩) ?_
   rintro v bs rs ⟨rfl,rfl,rfl⟩
   simp only [↓rA,rB,Nat.reduceEqDiff,uo,g7]
   refine fun ib hi=>?_;replace hi:=qn hi;try simp only [Nb] at hi
   simp only [↓rA,rB,Nat.reduceEqDiff,g7]
   refine vh Ty.mixed (by kernel_rfl) (fun _:Nat=>0) (fun _ S=>S.boxes=[(ib,.it b12 0 [] 0),(b12,mS []),(b7,mS O'),(b10,B.c (cF g g.body.hd (zD g.body.args))),(b6,mS [f]),(b3,B.c (cH x.hd (zD x.args))),(b2,B.c (xz c))]∧S.rows=[]∧S.σ 46=ptr ib∧S.σ 6=mp b6∧S.σ 7=mp b7∧S.σ 2=ptr b2∧S.σ 8=V.list none 1 []) 0 ⟨_,_,_,_,List.Sublist.refl _,List.Sublist.refl _,List.Perm.refl _,List.Perm.refl _,?_⟩ (fun _ S ⟨gb,gr,g46,g6,g7,g2,g8⟩=>?_)
   ·simp only [rB,Nat.reduceEqDiff,g6,g7,g2]
   ·simp only [↓rA,rB,gb,g46,hi]
    refine⟨fun _=>?_,fun e he=>?_⟩
    ·simp only [↓rA,rB]
     refine⟨true,by decide,[(b7,mS O'),(b6,mS [f]),(b3,B.c (cH x.hd (zD x.args))),(b2,B.c (xz c))],[],[(b6,mS [f]),(b7,mS O'),(b3,B.c (cH x.hd (zD x.args))),(b2,B.c (xz c))],[],?_,List.nil_sublist _,List.Perm.swap _ _ _,List.Perm.refl _,?_⟩
     ·simp only [rB,gb]
      exact .cons _ (.cons _ (.cons_cons _ (.cons _ (List.Sublist.refl _))))
     simp only [rB,Nat.reduceEqDiff,g6,g7,g2,g8]
    ·rw [qyj] at he;cases he
end Go.Proofs.YtohdpcjaoiebkaaGreatDoor
set_option linter.unusedSimpArgs false
set_option maxRecDepth 100000
set_option linter.defProp false
namespace Go.Proofs.YtohdpcjaoiebkaaGreatDoor
open Go.VL Go.Ar Go.Lo Go.Proofs.YtohdpcjaoiebkaaGreatDoor
def UQ:=(aI (aI (aI (aI Ty.c31 (aI Ty.c34 Ty.c35)) (aI Ty.t126 (aI Ty.t22 Ty.t23))) (aI (aI Ty.t25 (aI Ty.t29 Ty.t3)) (aI Ty.t35 (aI Ty.t36 Ty.t38)))) (aI (aI (aI Ty.t4 (aI Ty.t40 Ty.t43)) (aI Ty.t45 (aI Ty.t60 Ty.t61))) (aI (aI Ty.t63 (aI Ty.t69 Ty.t74)) (aI Ty.t87 (aI Ty.t89 Ty.t9)))))
theorem QW (c:Cat) (x:E) (hf:kI x) (O:List Str) (hu:zc Tryz.prog 34 [wT c,vE x] (.tup [kr [],kr O])):zc Tryz.prog 14 [wT c,vE x] (vint (vc x 0)):=by
 have ho:=fun bn=>qe0 x hf bn 0
 simp only [vE,qx x] at ho hu ⊢
 refine Ok.of_ex Ty.mixed Tryz.func14 rfl (by simp [Tryz.ntmps14]) (by kernel_rfl) fun F w0 I0=>?_
 simp only [↓rA,rB,qf,Nat.reduceLT]
 refine fun b2 h2=>?_;replace h2:=qn h2;try simp only [Nb] at h2
 simp only [↓rA,rB,qf,Nat.reduceEqDiff,Nat.reduceLT]
 refine fun b3 h3=>?_;replace h3:=qn h3;try simp only [Nb] at h3
 simp only [↓rA,rB,UQ]
 refine fun b4 h4=>?_;replace h4:=qn h4;try simp only [Nb] at h4
 simp only [↓rA,rB,Nat.reduceAdd,Nat.reduceEqDiff,UQ,h4]
 refine qi [_] [_,_] (List.Perm.refl _) (ho b4) ?_
 rintro v bs rs ⟨rfl,rfl,rfl⟩
 simp only [↓rA,rB,Nat.reduceAdd,Nat.reduceEqDiff,UQ,h3,h4]
 refine qg _ hu ?_
 simp only [↓rA,rB,Nat.reduceEqDiff,UQ,Tryz.results14]
 refine qB Ty.mixed (by kernel_rfl) 0 (fun _ S=>S.boxes=[(b4,.c [vint (vc x 0)]),(b3,.c (cH x.hd (zD x.args))),(b2,.c (xz c))]∧S.rows=[]∧S.σ 4=ptr b4∧S.σ 22=kr []∧S.σ 23=vint 0∧S.σ 24=vint 0) ⟨0,?_⟩ (fun i S hi _=>absurd hi (Nat.not_lt_zero _)) (fun S ⟨gb,gr,g4,g22,g23,g24⟩=>?_)
 ·simp only [rB,Nat.reduceEqDiff]
 ·simp only [↓rA,rB,Int.reduceLT,Nat.reduceEqDiff,UQ,gb,gr,g4,g23,g24]
  exact qa rfl
def XO:=(aI (aI (aI (aI Ty.c31 (aI Ty.c34 Ty.c35)) (aI Ty.t126 (aI Ty.t22 Ty.t23))) (aI (aI Ty.t25 (aI Ty.t29 Ty.t3)) (aI Ty.t35 (aI Ty.t36 Ty.t38)))) (aI (aI (aI Ty.t4 (aI Ty.t40 Ty.t43)) (aI Ty.t45 (aI Ty.t60 Ty.t61))) (aI (aI Ty.t63 (aI Ty.t69 Ty.t74)) (aI Ty.t87 (aI Ty.t89 Ty.t9)))))
theorem qmm (c:Cat) (x:E) (hf:kI x) (hfe:c.features.length≤big) (f:Str) (g:Ftr) (hg:kI g.body) (hfi:wB c.features f=some g) (O:List Str) (hu:zc Tryz.prog 34 [wT c,vE x] (.tup [kr [f],kr O])):zc Tryz.prog 14 [wT c,vE x] (vint (vc g.body (vc x 0))):=by
 have ho:=fun bn=>qe0 x hf bn 0
 have hq:=fun bn=>qe0 g.body hg bn (vc x 0)
 have hfo:=W4 c f hfe
 rw [hfi] at hfo
 simp only [Ym,qW] at hfo
 simp only [vE,qx x,qx g.body] at ho hq hu ⊢
 refine Ok.of_ex Ty.mixed Tryz.func14 rfl (by simp [Tryz.ntmps14]) (by kernel_rfl) fun F w0 I0=>?_
 simp only [↓rA,rB,qf,Nat.reduceLT]
 refine fun b2 h2=>?_;replace h2:=qn h2;try simp only [Nb] at h2
 simp only [↓rA,rB,qf,Nat.reduceEqDiff,Nat.reduceLT]
 refine fun b3 h3=>?_;replace h3:=qn h3;try simp only [Nb] at h3
 simp only [↓rA,rB,XO]
 refine fun b4 h4=>?_;replace h4:=qn h4;try simp only [Nb] at h4
 simp only [↓rA,rB,Nat.reduceAdd,Nat.reduceEqDiff,XO,h4]
 refine qi [_] [_,_] (List.Perm.refl _) (ho b4) ?_
 rintro v bs rs ⟨rfl,rfl,rfl⟩
 simp only [↓rA,rB,Nat.reduceAdd,Nat.reduceEqDiff,XO,h3,h4]
 refine qg _ hu ?_
 simp only [↓rA,rB,Nat.reduceEqDiff,XO,Tryz.results14]
 refine qB Ty.mixed (by kernel_rfl) 1 (fun i S=>S.boxes=[(b4,.c [vint (if i=0 then vc x 0 else vc g.body (vc x 0))]),(b3,.c (cH x.hd (zD x.args))),(b2,.c (xz c))]∧S.rows=[]∧S.σ 2=ptr b2∧S.σ 4=ptr b4∧S.σ 5=fnO b4∧S.σ 22=kr [f]∧S.σ 23=vint 1∧S.σ 24=vint i) ⟨0,?_⟩ (fun i S hi ⟨gb,gr,g2,g4,g5,g22,g23,g24⟩=>?_) (fun S ⟨gb,gr,g2,g4,g5,g22,g23,g24⟩=>?_)
 ·simp only [rB,Nat.reduceEqDiff]
  rfl
 ·obtain rfl:i=0:=by omega
  simp only [if_true] at gb
  have i0:((0:Nat):Int) < 1:=by decide
  simp only [↓rA,rB,Int.reduceLT,Int.reduceToNat,Nat.reduceAdd,Nat.reduceEqDiff,XO,gb,g2,g22,g23,g24,h3,h4]
  refine qg _ hfo ?_
  simp only [↓rA,rB,Nat.reduceEqDiff,XO,gr]
  refine fun b10 h10=>?_;replace h10:=qn h10;try simp only [Nb] at h10
  simp only [↓rA,rB,Nat.reduceAdd,Nat.reduceEqDiff,Nat.reduceLeDiff,XO,gr,g5]
  refine qi [_,_] [_,_] (List.Perm.refl _) (Ok.frame [_] (hq b4)) ?_
  rintro v bs rs ⟨bs1,rfl,_,rfl,rfl,rfl⟩
  simp only [↓rA,rB,Nat.reduceEqDiff,reduceCtorEq,gr,g2,g4,g5,g22,g23,g24]
  exact⟨1,rfl,rfl⟩
 ·simp only [Nat.one_ne_zero,if_false] at gb
  have i1:¬ ((1:Nat):Int) < 1:=by decide
  simp only [↓rA,rB,Nat.reduceEqDiff,XO,gb,gr,g4,g23,g24,i1]
  exact qa rfl
end Go.Proofs.YtohdpcjaoiebkaaGreatDoor
set_option linter.unusedSimpArgs false
set_option maxRecDepth 100000
namespace Go.Proofs.YtohdpcjaoiebkaaGreatDoor
open Go.VL Go.Ar Go.Lo Go.Proofs.YtohdpcjaoiebkaaGreatDoor
end Go.Proofs.YtohdpcjaoiebkaaGreatDoor
set_option linter.unusedSimpArgs false
set_option maxRecDepth 100000
set_option linter.defProp false
namespace Go.Lo
open Go.VL Go.Ar
abbrev xw:Str:=⟨#[111,114,100,101,114,115]⟩
abbrev qa5 (op:Str) (x:E):E:=.mk ⟨5,op,es0,xw,qd5,[],0,1,0⟩ [x,tt]
abbrev Qs (op:Str) (x y:E):E:=.mk { xn 7 with op:=op } [x,y]
end Go.Lo
namespace Go.Proofs.YtohdpcjaoiebkaaGreatDoor
open Go.VL Go.Ar Go.Lo Go.Proofs.YtohdpcjaoiebkaaGreatDoor
def qxn:=(aI (aI (aI Ty.t126 Ty.t29) (aI Ty.t3 Ty.t35)) (aI (aI Ty.t36 Ty.t38) (aI Ty.t40 Ty.t9)))
theorem Qf (op:Str) (x y:E):zc Tryz.prog 13 [qm op,vE x,vE y] (vE (Qs op x y)):=by
 simp only [vE,qx x,qx y]
 refine Ok.of_ex Ty.mixed Tryz.func13 rfl (by simp [Tryz.ntmps13]) (by kernel_rfl) fun F w0 I0=>?_
 simp only [↓rA,rB,qf,Nat.reduceLT]
 refine fun b4 h4=>?_;replace h4:=qn h4;try simp only [Nb] at h4
 simp only [↓rA,rB,qf,Nat.reduceEqDiff,Nat.reduceLT]
 refine fun b5 h5=>?_;replace h5:=qn h5;try simp only [Nb] at h5
 simp only [↓rA,rB,qxn]
 refine fun b6 h6=>?_;replace h6:=qn h6;try simp only [Nb] at h6
 simp only [↓rA,rB,qb,Nat.reduceAdd,Nat.reduceEqDiff,Nat.reduceLT,Nat.reduceLeDiff,Nat.reduceMul,reduceCtorEq,qxn,Tryz.results13,h5,h6]
 refine fun y'=>⟨_,[],[],leE (h:={ xn 7 with op:=op }) (l:=[x,y]) (Le.nil 2) ?_,List.nil_sublist _,List.nil_sublist _,rfl,rfl,rfl⟩
 simp only [zD,List.map_cons,List.map_nil,qx x,qx y]
 exact Le.list _ _ _
def qok:=(aI (aI (aI Ty.c11 Ty.t126) (aI Ty.t29 Ty.t3)) (aI (aI Ty.t35 Ty.t36) (aI Ty.t38 (aI Ty.t40 Ty.t9))))
theorem VR (op:Str) (x:E):zc Tryz.prog 10 [qm op,vE x] (vE (qa5 op x)):=by
 have ht:=VD
 simp only [vE,qx x,qx tt] at ht ⊢
 refine Ok.of_ex Ty.mixed Tryz.func10 rfl (by simp [Tryz.ntmps10]) (by kernel_rfl) fun F w0 I0=>?_
 simp only [↓rA,rB,qf,Nat.reduceLT]
 refine fun b3 h3=>?_;replace h3:=qn h3;try simp only [Nb] at h3
 simp only [↓rA,rB,qok]
 refine fun b4 h4=>?_;replace h4:=qn h4;try simp only [Nb] at h4
 simp only [↓rA,rB,qb,Nat.reduceAdd,Nat.reduceEqDiff,Nat.reduceLeDiff,reduceCtorEq,qok,h4]
 refine qF _ ht.v ?_
 simp only [↓rA,rB,qb,Nat.reduceAdd,Nat.reduceEqDiff,Nat.reduceLT,Nat.reduceLeDiff,Nat.reduceMul,qok,Tryz.results10]
 refine⟨_,[],[],leE (h:=⟨5,op,es0,xw,qd5,[],0,1,0⟩) (l:=[x,tt]) (Le.nil 2) ?_,List.nil_sublist _,List.nil_sublist _,rfl,rfl,rfl⟩
 simp only [zD,List.map_cons,List.map_nil,qx x,qx tt]
 first | exact Le.refl _ | exact Le.list _ _ _
def jT (l:List Nd) (s:Str):Str:=l.foldl (fun s n=>s++jO [IntKind.u8.wrap (IntKind.i64.wrap (48+n.kind))]) s
theorem X7:∀ (l:List Nd) (s:Str),ByteArray.size (jT l s)=ByteArray.size s+l.length
 | [],s=>rfl
 | n::r,s=>by
  have h:=X7 r (s++jO [IntKind.u8.wrap (IntKind.i64.wrap (48+n.kind))])
  rw [show jT (n::r) s=jT r (s++jO [IntKind.u8.wrap (IntKind.i64.wrap (48+n.kind))]) from rfl,h,ByteArray.size_append,List.length_cons]
  have:ByteArray.size (jO [IntKind.u8.wrap (IntKind.i64.wrap (48+n.kind))])=1:=rfl
  omega
theorem qbs (l:List Nd) (n:Nd) (s:Str):jT (l++[n]) s=jT l s++jO [IntKind.u8.wrap (IntKind.i64.wrap (48+n.kind))]:=by
 rw [jT,List.foldl_append];rfl
def UP:=(aI (aI (aI (aI Ty.c12 Ty.t126) (aI Ty.t27 Ty.t29)) (aI (aI Ty.t3 Ty.t35) (aI Ty.t36 (aI Ty.t38 Ty.t4)))) (aI (aI (aI Ty.t40 Ty.t5) (aI Ty.t50 Ty.t52)) (aI (aI Ty.t53 Ty.t56) (aI Ty.t58 (aI Ty.t9 Ty.t91)))))
theorem WR (x:E) (hf:kI x) (hs:qY x=0) (hb:qZ x≤big) (hl:(zQ x).length≤big):zc Tryz.prog 15 [vE x] (qm (jT (zQ x) es0)):=by
 have hg:=qb3 x hf hb
 rw [hs] at hg
 unfold big at hl
 simp only [vE,qx x] at hg ⊢
 refine Ok.of_ex Ty.mixed Tryz.func15 rfl (by simp [Tryz.ntmps15]) (by kernel_rfl) fun F w0 I0=>?_
 simp only [↓rA,rB,qf,Nat.reduceLT]
 refine fun b1 h1=>?_;replace h1:=qn h1;try simp only [Nb] at h1
 simp only [↓rA,rB,Nat.reduceAdd,Nat.reduceEqDiff,UP]
 refine qg _ hg ?_
 simp only [↓rA,rB,Nat.reduceEqDiff,UP]
 refine fun b3 h3=>?_;replace h3:=qn h3;try simp only [Nb] at h3
 simp only [↓rA,rB,Nat.reduceEqDiff,UP,Tryz.results15]
 refine qw9 Ty.mixed (by kernel_rfl) (zQ x).length (fun i S=>S.boxes=[(b3,.c [qB2 (zQ x)]),(b1,.c (cH x.hd (zD x.args)))]∧S.rows=[]∧S.σ 3=ptr b3∧S.σ 4=vint 0∧S.σ 5=qm (jT ((zQ x).take i) es0)∧S.σ 6=vint i) ⟨_,_,_,_,List.Sublist.refl _,List.Sublist.refl _,List.Perm.refl _,List.Perm.refl _,?_⟩ (fun i S hi ⟨gb,gr,g3,g4,g5,g6⟩=>?_) (fun S ⟨gb,gr,g3,g4,g5,g6⟩=>?_)
 ·simp only [rB,Nat.reduceEqDiff]
  rfl
 ·have hwi:=qk (i:=i) (N:=(zQ x).length) hi (by omega)
  simp only [↓rA,rB,Nat.reduceAdd,Nat.reduceEqDiff,Nat.reduceLT,Nat.reduceLeDiff,Nat.reduceMul,UP,gb,g3,g4,g5,g6,Int.ofNat_lt,hi,List.length_map,qd _ _ _ hi,kw]
  refine fun y=>⟨fun e he=>by obtain rfl:=List.mem_singleton.1 he;rfl,[_],rfl,?_⟩
  simp only [rB,hwi]
  rw [if_pos]
  ·refine⟨_,_,_,_,List.Sublist.refl _,List.nil_sublist _,List.Perm.refl _,List.Perm.refl _,?_⟩
   simp only [rB,Nat.reduceEqDiff,gb,g3,g4]
   rw [List.take_succ_eq_append_getElem hi,qbs]
  ·rw [X7,List.length_take,show ByteArray.size es0=0 from rfl,show (jO [IntKind.u8.wrap (IntKind.i64.wrap (48+(zQ x)[i].kind))]).size=1 from rfl]
   omega
 ·rw [List.take_of_length_le (Nat.le_refl _)] at g5
  simp only [↓rA,rB,Nat.reduceAdd,Nat.reduceEqDiff,UP,gb,gr,g3,g5,g6,Int.ofNat_lt,Nat.lt_irrefl,List.length_map]
  exact qa rfl
end Go.Proofs.YtohdpcjaoiebkaaGreatDoor
set_option maxRecDepth 100000
namespace Go.Lo
open Go.VL Go.Ar
abbrev oneE:E:=.mk { xn 1 with val:=⟨2,1,es0⟩ } []
abbrev qep:Str:=⟨#[99,111,117,110,116]⟩
abbrev qzn:Str:=⟨#[115,117,109]⟩
abbrev qCw:Str:=⟨#[109,97,120]⟩
abbrev Ky:Str:=⟨#[97,109,111,117,110,116]⟩
abbrev jp:Str:=⟨#[43]⟩
abbrev qj6:Str:=⟨#[47]⟩
abbrev sF:Str:=⟨#[102]⟩
abbrev qie:Str:=⟨#[117,115,101,114]⟩
abbrev countE:E:=qa5 qep tt
abbrev amountE:E:=.mk { xn 2 with name:=Ky } []
abbrev sumE:E:=qa5 qzn amountE
abbrev lastE:E:=.mk ⟨5,qep,es0,xw,qd5,[],0,4,30⟩ [tt,tt]
abbrev featE:E:=.mk { xn 3 with name:=sF } []
abbrev exF:Ftr:=⟨sF,qie,⟨2,[],es0⟩,countE,1⟩
abbrev exC:Cat:=⟨[⟨xw,qie,[⟨Ky,⟨2,[],es0⟩⟩],0⟩],[exF],[],[]⟩
end Go.Lo
namespace Go.Proofs.YtohdpcjaoiebkaaGreatDoor
open Go.VL Go.Ar Go.Lo Go.Proofs.YtohdpcjaoiebkaaGreatDoor
theorem sh1:qY (Qs jp countE countE)=0:=by decide +kernel
theorem sh2:qY (Qs jp oneE oneE)=0:=by decide +kernel
theorem sh3:qY (Qs qj6 sumE countE)=0:=by decide +kernel
theorem gr2:zQ (Qs jp oneE oneE)=[{ yQ 5 with val:=⟨2,1,es0⟩,expr:=oneE },{ yQ 8 with op:=jp,inn:=[0,0] }]:=by
 rw [zQ,if_pos sh2]
 simp [KA,lowEs,jg,Xg,wZ]
theorem gr1:zQ (Qs jp countE countE)=[{ yQ 1 with table:=xw },{ yQ 2 with expr:=tt,inn:=[0] },{ yQ 3 with expr:=tt,inn:=[1] },{ yQ 4 with op:=qep,wk:=1,inn:=[2] },{ yQ 8 with op:=jp,inn:=[3,3] }]:=by
 rw [zQ,if_pos sh1]
 simp [KA,WM,lowEs,XZ,jg,Xg,wZ]
theorem gr3:zQ (Qs qj6 sumE countE)=[{ yQ 1 with table:=xw },{ yQ 2 with expr:=tt,inn:=[0] },{ yQ 3 with expr:=amountE,inn:=[1] },{ yQ 4 with op:=qzn,wk:=1,inn:=[2] },{ yQ 3 with expr:=tt,inn:=[1] },{ yQ 4 with op:=qep,wk:=1,inn:=[4] },{ yQ 8 with op:=qj6,inn:=[3,5] }]:=by
 rw [zQ,if_pos sh3]
 simp [KA,WM,lowEs,XZ,jg,Xg,wZ]
end Go.Proofs.YtohdpcjaoiebkaaGreatDoor
set_option linter.unusedSimpArgs false
set_option maxRecDepth 100000
set_option linter.defProp false
namespace Go.Proofs.YtohdpcjaoiebkaaGreatDoor
open Go.VL Go.Ar Go.Lo Go.Proofs.YtohdpcjaoiebkaaGreatDoor
theorem qja {w:World} {I:Cells} {b:Nat}:∀ {l l':List V} {o:Nat},yq l l'→V.ats w I l b o→V.ats w I l' b o
 | _,_,_,.nil,_=>by simp only [V.ats]
 | _,_,o,.cons h r,ha=>by
  simp only [V.ats] at ha ⊢
  obtain⟨⟨x,h1,h2,h3,h4⟩,h5⟩:=ha
  exact⟨⟨x,h1,h2,h3,h w I x h4⟩,qja r h5⟩
theorem ZY:∀ {l l':List V},yq l l'→l.length=l'.length
 | _,_,.nil=>rfl
 | _,_,.cons _ r=>by simp [ZY r]
inductive UB:List (List V)→List (List V)→Prop
 | nil:UB [] []
 | cons {e e':List V} {l l':List (List V)} (h:yq e e') (r:UB l l'):UB (e::l) (e'::l')
theorem UB.len:∀ {l l':List (List V)},UB l l'→l.length=l'.length
 | _,_,.nil=>rfl
 | _,_,.cons _ r=>by simp [r.len]
theorem UB.lies {w:World} {I:Cells} {b k:Nat}:∀ {l l':List (List V)} {o:Nat},UB l l'→V.lies w I k l b o→V.lies w I k l' b o
 | _,_,_,.nil,_=>by simp only [V.lies]
 | _,_,o,.cons h r,ha=>by
  simp only [V.lies] at ha ⊢
  exact⟨qja h ha.1,ZY h▸ha.2.1,r.lies ha.2.2⟩
theorem Le.lists {own:Option Value} {k:Nat} {es es':List (List V)} (h:UB es es'):Le (.list own k es) (.list none k es'):=by
 intro w I x hx
 simp only [V.rep] at hx ⊢
 obtain⟨_,a,c,h1,h2,h3⟩:=hx
 refine⟨fun y hy=>(by cases hy),a,c,h.len▸h1,h.len▸h2,?_⟩
 rcases h3 with e | ⟨b,o,e,hl⟩
 ·subst e
  cases h
  exact .inl rfl
 ·exact .inr ⟨b,o,e,h.lies hl⟩
theorem kd1:jT (zQ (Qs jp countE countE)) es0=⟨#[49,50,51,52,56]⟩:=by rw [gr1];decide +kernel
theorem kd2:jT (zQ (Qs jp oneE oneE)) es0=⟨#[53,56]⟩:=by rw [gr2];decide +kernel
theorem kd3:jT (zQ (Qs qj6 sumE countE)) es0=⟨#[49,50,51,52,51,52,56]⟩:=by rw [gr3];decide +kernel
abbrev maxE:E:=qa5 qCw amountE
abbrev mo:E:=Qs jp maxE oneE
theorem qvs (h:Hd) (hu:h.unit.length≤big):kI (.mk h []):=.mk _ _ hu (by decide) fun x hx=>by cases hx
theorem Ua {a b:E} (h:Hd) (hu:h.unit.length≤big) (ha:kI a) (hb:kI b):kI (.mk h [a,b]):=.mk _ _ hu (show 2≤big by decide) fun x hx=>by
 rcases List.mem_cons.1 hx with rfl | hx
 ·exact ha
 ·obtain rfl:=List.mem_singleton.1 hx
  exact hb
theorem Vg:kI tt:=qvs _ (by decide)
theorem WZ:kI oneE:=qvs _ (by decide)
theorem qyr:kI featE:=qvs _ (by decide)
theorem qys:kI amountE:=qvs _ (by decide)
theorem QU:kI countE:=Ua _ (by decide) Vg Vg
theorem qAr:kI sumE:=Ua _ (by decide) qys Vg
theorem qAs:kI maxE:=Ua _ (by decide) qys Vg
theorem qit:kI lastE:=Ua _ (by decide) Vg Vg
theorem qyq:kI mo:=Ua _ (by decide) qAs WZ
theorem cl1:zc Tryz.prog 14 [wT exC,vE oneE] (vint 0):=QW exC oneE WZ [] (Z4 exC oneE WZ [] (by decide +kernel) (by decide))
theorem cl2:zc Tryz.prog 14 [wT exC,vE featE] (vint 1):=qmm exC featE qyr (by decide) sF exF QU rfl [xw] (qn1 exC featE qyr (by decide) sF exF QU [] [xw] (by decide +kernel) rfl (by decide +kernel) (by decide))
theorem cl3:zc Tryz.prog 14 [wT exC,vE mo] (vint 2):=QW exC mo qyq [xw] (Z4 exC mo qyq [xw] (by decide +kernel) (by decide))
theorem cl4:zc Tryz.prog 14 [wT exC,vE lastE] (vint 3):=QW exC lastE qit [xw] (Z4 exC lastE qit [xw] (by decide +kernel) (by decide))
theorem VB (op:Str) (x:E):vE (qa5 op x)=.agg (cH ⟨5,op,es0,xw,qd5,[],0,1,0⟩ (.list none 12 [cE x,cE tt])):=by rw [vE,zq];rfl
theorem qt4:vE lastE=.agg (cH ⟨5,qep,es0,xw,qd5,[],0,4,30⟩ (.list none 12 [cE tt,cE tt])):=by rw [vE,zq];rfl
abbrev qCt (y y1:Value):V:=.list (some y1) 4 [[qm xw,qm qie,.list (some y) 4 [[qm Ky,vint 2,nilS,qm es0]],vint 0]]
abbrev cFx:List V:=[qm sF,qm qie,vint 2,nilS,qm es0,vint 5,qm qep,qm es0,qm xw,vint 0,vint 0,qm es0,qG [],vint 0,vint 1,vint 0,.list none 12 [cE tt,cE tt],vint 1]
abbrev qDh (y2:Value):V:=.list (some y2) 18 [cFx]
theorem qyk (y y1 y2:Value):Le (.agg [qCt y y1,qDh y2,nilS,nilS]) (wT exC):=by
 refine yj (.cons (Le.lists (.cons (.cons (Le.refl _) (.cons (Le.refl _) (.cons (Le.lists (.cons (.cons (Le.refl _) (.cons (Le.refl _) (.cons (Le.nil 2) (.cons (Le.refl _) .nil)))) .nil)) (.cons (Le.refl _) .nil)))) .nil)) (.cons (Le.lists (.cons ?_ .nil)) (.cons (Le.nil 18) (.cons (Le.nil 18) .nil))))
 rw [qW]
 exact .cons (Le.refl _) (.cons (Le.refl _) (.cons (Le.refl _) (.cons (Le.nil 2) (yq.refl _))))
def xQ:=(aI (aI (aI (aI Ty.c10 (aI Ty.c11 Ty.c12)) (aI (aI Ty.c13 Ty.c14) (aI Ty.c15 Ty.t126))) (aI (aI Ty.t22 (aI Ty.t23 Ty.t25)) (aI (aI Ty.t27 Ty.t29) (aI Ty.t3 Ty.t35)))) (aI (aI (aI Ty.t36 (aI Ty.t38 Ty.t4)) (aI (aI Ty.t40 Ty.t43) (aI Ty.t45 Ty.t50))) (aI (aI (aI Ty.t52 Ty.t53) (aI Ty.t56 Ty.t58)) (aI (aI Ty.t60 Ty.t61) (aI Ty.t63 Ty.t9)))))
theorem qgi:zc Tryz.prog 4 [] (qv true):=by
 have hT:=VD
 have h1:=VR qep tt
 have h2:=VR qzn amountE
 have h3:=Qf jp countE countE
 have h4:=qb3 (Qs jp countE countE) (Ua _ (by decide) QU QU) (by decide +kernel)
 rw [sh1,gr1] at h4
 rw [VB] at h1 h2 h3
 have h5:=VR qCw amountE
 have h6:=Qf jp maxE oneE
 have h7:=Qf jp oneE oneE
 have h9:=Qf qj6 sumE countE
 have k1:=WR (Qs jp countE countE) (Ua _ (by decide) QU QU) sh1 (by decide +kernel) (by rw [gr1];decide)
 have k2:=WR (Qs jp oneE oneE) (Ua _ (by decide) WZ WZ) sh2 (by decide +kernel) (by rw [gr2];decide)
 have k3:=WR (Qs qj6 sumE countE) (Ua _ (by decide) qAr QU) sh3 (by decide +kernel) (by rw [gr3];decide)
 rw [kd1] at k1
 rw [kd2] at k2
 rw [kd3] at k3
 rw [VB,VB] at h9
 have c4:=cl4
 rw [qt4] at c4
 have leI:∀ {u a:V},Le u (.list none 2 [])→Le a (.list none 12 [])→Le (.agg [vint 1,qm es0,qm es0,qm es0,vint 2,vint 1,qm es0,u,vint 0,vint 0,vint 0,a]) (vE oneE):=fun hu ha=>leE (h:={ xn 1 with val:=⟨2,1,es0⟩ }) (l:=[]) hu ha
 generalize hB:vE (Qs jp countE countE)=B1 at h3 h4 k1
 refine Ok.of_ex Ty.mixed Tryz.func4 rfl (by simp [Tryz.ntmps4]) (by kernel_rfl) fun F w0 I0=>?_
 simp only [↓rA,rB,qb,Nat.reduceAdd,Nat.reduceLeDiff,xQ]
 refine fun b1 n1=>?_;replace n1:=qn n1;try simp only [Nb] at n1
 simp only [↓rA,rB,Nat.reduceAdd,Nat.reduceEqDiff,xQ]
 refine qg _ hT ?_
 simp only [↓rA,rB,xQ]
 refine qg _ h1 ?_
 simp only [↓rA,rB,xQ]
 refine fun b2 n2=>?_;replace n2:=qn n2;try simp only [Nb] at n2
 simp only [↓rA,rB,qb,Nat.reduceAdd,Nat.reduceEqDiff,Nat.reduceLeDiff,xQ]
 refine vN (.cons (Le.refl _) (.cons (leE (h:={ xn 2 with name:=Ky }) (l:=[]) (Le.nil 2) (Le.nil 12)) .nil)) _ h2 ?_
 simp only [↓rA,rB,xQ]
 refine fun b3 n3=>?_;replace n3:=qn n3;try simp only [Nb] at n3
 simp only [↓rA,rB,Nat.reduceAdd,Nat.reduceEqDiff,xQ,n3]
 refine qg _ h3 ?_
 simp only [↓rA,rB,xQ]
 refine qg _ h4 ?_
 simp only [↓rA,rB,Nat.reduceEqDiff,xQ]
 refine fun b4 n4=>?_;replace n4:=qn n4;try simp only [Nb] at n4
 simp only [↓rA,rB,Int.reduceLE,Int.reduceLT,Int.reduceToNat,Nat.reduceAdd,Nat.reduceEqDiff,xQ,Int.cast_ofNat_Int,kw,n3,n4]
 refine fun b6 n6=>?_;replace n6:=qn n6;try simp only [Nb] at n6
 simp only [↓rA,rB,qb,Nat.reduceAdd,Nat.reduceEqDiff,Nat.reduceLeDiff,xQ,Int.cast_ofNat_Int,kw,n3,n4,n6]
 refine fun b7 n7=>?_;replace n7:=qn n7;try simp only [Nb] at n7
 simp only [↓rA,rB,qb,Nat.reduceAdd,Nat.reduceEqDiff,Nat.reduceLT,Nat.reduceLeDiff,Nat.reduceMul,xQ,Int.cast_ofNat_Int,kw]
 intro y y1 y2
 refine fun b8 n8=>?_;replace n8:=qn n8;try simp only [Nb] at n8
 simp only [↓rA,rB,Nat.reduceAdd,Nat.reduceEqDiff,xQ,n2,n3,n4,n6,n7,n8]
 have leOne:∀ {a:V} {x:E},Le a (vE x)→yq [.agg [qCt y y1,qDh y2,nilS,nilS],a] [wT exC,vE x]:=fun h=>.cons (qyk y y1 y2) (.cons h .nil)
 refine uS (leOne (leE (h:={ xn 1 with val:=⟨2,1,es0⟩ }) (l:=[]) (Le.nil 2) (Le.nil 12))) _ cl1 ?_
 simp only [↓rA,rB,qb,Nat.reduceAdd,Nat.reduceEqDiff,Nat.reduceLeDiff,xQ]
 refine uS (leOne (leE (h:={ xn 3 with name:=sF }) (l:=[]) (Le.nil 2) (Le.nil 12))) _ cl2 ?_
 simp only [↓rA,rB,Int.reduceToNat,Nat.reduceAdd,Nat.reduceEqDiff,xQ,n4,n6,n7,n8]
 refine⟨by rw [qgw];exact Nat.le_refl _,?_⟩
 rw [List.take_of_length_le (by rw [qgw];exact Nat.le_refl _)]
 refine qF _ h5.v ?_
 simp only [↓rA,rB,Nat.reduceAdd,Nat.reduceEqDiff,xQ,n2,n3,n4,n6,n7,n8]
 refine uS (.cons (Le.refl _) (.cons (Le.refl _) (.cons (leI (Le.nil 2) (Le.nil 12)) .nil))) _ h6 ?_
 simp only [↓rA,rB,Nat.reduceAdd,Nat.reduceEqDiff,xQ]
 refine uS (leOne (Le.refl _)) _ cl3 ?_
 simp only [↓rA,rB,Nat.reduceAdd,Nat.reduceEqDiff,xQ,n7,n8]
 refine uS (.cons (qyk y y1 y2) (.cons (Le.refl _) .nil)) _ c4 ?_
 simp only [↓rA,rB,Nat.reduceAdd,Nat.reduceEqDiff,xQ,n2,n3,n4,n6,n7,n8]
 refine vN (.cons (Le.refl _) (.cons (leI (Le.nil 2) (Le.nil 12)) (.cons (leI (Le.nil 2) (Le.nil 12)) .nil))) _ h7 ?_
 simp only [↓rA,rB,Nat.reduceAdd,xQ]
 refine qg _ k2 ?_
 simp only [↓rA,rB,Nat.reduceAdd,Nat.reduceEqDiff,xQ,n3,n4,n6,n7,n8]
 refine qg _ h3 ?_
 simp only [↓rA,rB,Nat.reduceAdd,Nat.reduceEqDiff,xQ]
 refine qg _ k1 ?_
 simp only [↓rA,rB,Int.reduceLE,Int.reduceLT,Int.reduceToNat,Nat.reduceAdd,Nat.reduceEqDiff,xQ,n3,n4,n6,n7,n8,kw,Int.cast_ofNat_Int]
 refine qg _ h9 ?_
 simp only [↓rA,rB,Nat.reduceAdd,Nat.reduceEqDiff,xQ]
 refine qg _ k3 ?_
 simp only [↓rA,rB,Nat.reduceAdd,Nat.reduceEqDiff,Tryz.results4]
 exact qa rfl
end Go.Proofs.YtohdpcjaoiebkaaGreatDoor
