/- Merged out of my texts LF YJ CQ CR CS CT CU CV CW CX CY CZ YK YO YP YQ D1 D2 D3 YR YS W0 WG WH YT YU YV YW ZA D4 D5 D6 ZB. -/
import Derived.Test.YtkdgbjhbpbgdeaaGreatDoorKA
import Derived.Test.YtkdgbjhbpbgdeaaGreatDoorKb
import Derived.Test.YtkdgbjhbpbgdeaaGreatDoorKVc
import Derived.Test.YtkdgbjhbpbgdeaaGreatDoorKVa
import Derived.Test.YtkdgbjhbpbgdeaaGreatDoorKc
import Derived.Lib.Overlaps
import Derived.Shelf.Spec.SlicesGrow
import Derived.KernelRfl
import Derived.Test.YtkdgbjhbpbgdeaaGreatDoorProg
set_option linter.unusedSimpArgs false
set_option maxRecDepth 100000
set_option linter.defProp false
set_option maxHeartbeats 4000000
set_option linter.unusedVariables false
open Go.Proofs.Tryz
open Go.VL Go.Ar Go.Lo
namespace Go.Proofs.YtkdgbjhbpbgdeaaGreatDoor
abbrev pt (b o:Nat):V:=.lit (.pointer (some ⟨b,o,none⟩))
def In6 (d e:Nat) (h:Hd) (a:V) (ins:Bool) (L:Nat->Bool) (S:St):Prop :=
 S.rows=[]/\S.σ 2=ptr d/\S.σ 5=ptr e/\S.σ 1=qq ins/\S.σ 6=vint 0/\(L 0=true->S.σ 19=pt d 4)/\(L 1=true->S.σ 20=.agg [vint h.val.kind,vint h.val.n,vstr h.val.s])/\(L 2=true->S.σ 21=pt d 7)/\(L 3=true->S.σ 22=qN h.unit)/\(L 4=true->S.σ 23=pt d 2)/\(L 5=true->S.σ 24=vstr h.name)/\(L 6=true->S.σ 25=pt e 4)/\(L 8=true->S.σ 26=pt e 7)/\(L 10=true->S.σ 27=pt e 2)/\S.boxes=[(e,.c [vint 1,vstr qH,bif L 11 then vstr h.name else vstr qH,vstr qH,bif L 7 then vint h.val.kind else vint 0,bif L 7 then vint h.val.n else vint 0,bif L 7 then vstr h.val.s else vstr qH,bif L 9 then qN h.unit else nilS,vint 0,vint 0,vint 0,nilS]),(d,.c (cH h a))]
def qN2 (d e:Nat) (h:Hd) (a:V) (ins:Bool) (L:Nat->Bool) (S:St):Prop :=
 S.rows=[]/\S.σ 2=ptr d/\S.σ 5=ptr e/\S.σ 1=qq ins/\(L 0=true->S.σ 73=pt d 1)/\(L 1=true->S.σ 74=vstr h.op)/\(L 2=true->S.σ 75=pt d 3)/\(L 3=true->S.σ 76=vstr h.table)/\(L 4=true->S.σ 77=pt d 8)/\(L 5=true->S.σ 78=vint h.param)/\(L 6=true->S.σ 79=pt d 9)/\(L 7=true->S.σ 80=.agg [vint h.wk,vint h.ws])/\(L 8=true->S.σ 81=pt e 1)/\(L 10=true->S.σ 82=pt e 3)/\(L 12=true->S.σ 83=pt e 8)/\(L 14=true->S.σ 84=pt e 9)/\S.boxes=[(e,.c [vint 5,bif L 9 then vstr h.op else vstr qH,vstr qH,bif L 11 then vstr h.table else vstr qH,vint 0,vint 0,vstr qH,nilS,bif L 13 then vint h.param else vint 0,bif L 15 then vint h.wk else vint 0,bif L 15 then vint h.ws else vint 0,nilS]),(d,.c (cH h a))]
theorem qqc:∀ (x:E) (ins:Bool),uh x->zk prog 283 [vE x,qq ins] (qq (zX x ins)):=by
 have nq:(yM=({ data:=#[113,117,97,110,116,105,108,101] }:ByteArray))=False:=eq_false (by decide);intro x
 induction x using E.ind with
 | h hd l ih =>
 intro ins hf;have hl:=hf.len;have hu:=hf.unit;have ha:=hf.args;simp only [E.args,E.hd,big] at hl ha hu;rw [vE,wI];have bad:za hd ins=false->zX (.mk hd l) ins=false:=fun h=>by rw [Qn,h];rfl
 refine Ok.of_exM [(6,3),(18,3)] Ty.mixed func283 rfl (by simp) (by rfl) fun F w0 I0=>?_;refine qb fun U h2=>?_;refine qb fun b5 Y=>?_;simp only [↓zu,↓wh,↓qJ,↓zx,↓zA,↓qdt,↓QI,↓ua,↓Zn,↓jh,↓Wk,↓wR,zw,qu,kM,vA,wB,jx,yd,ky,uk,vv,ub,kO,xY,jA,YX,jZ,zP,uo,Xs,qdh,Wg,j1,yh,xB,Xu,yx,w3,eq_self,and_self,not_false_eq_true,ne_eq,z7,Jx,List.take_zero,qL1,qNk,qO3,List.length_cons,List.length_nil,List.nil_append,wl,List.toList_toArray,Nat.add_zero,qJ0,qM9,results283,Y,tU,simprocAttr];refine xe (fun S=>za hd ins=true/\(∃ u,Le u (qN (zZ hd).unit)/\S.boxes=[(b5,.c (cHu (zZ hd) u nilS)),(U,.c (cH hd (kI l)))])/\S.rows=[]/\S.σ 2=ptr U/\S.σ 5=ptr b5/\S.σ 1=qq (ins || decide (hd.kind=5))/\S.σ 6=vint (kD hd.kind)) ?_ ?_
 ·rcases(by omega:hd.kind=1∨hd.kind=2∨hd.kind=3∨hd.kind=4∨hd.kind=5∨hd.kind=6∨hd.kind=7∨hd.kind=8∨hd.kind=9∨(¬ hd.kind=1/\¬ hd.kind=2/\¬ hd.kind=3/\¬ hd.kind=4/\¬ hd.kind=5/\¬ hd.kind=6/\¬ hd.kind=7/\¬ hd.kind=8/\¬ hd.kind=9)) with e | e | e | e | e | e | e | e | e | e
  ·refine qa ?_;refine qAw (some true) Ty.mixed (by rfl) (by rfl) (In6 U b5 hd (kI l) ins) ?_ ?_ ?_
   ·exact qD
   ·intro L S i o a D p ⟨H,J,g5,k0,R,f0,f1,f2,f3,f4,f5,f6,f8,f10,C⟩
    match i,a with
    | 0,a =>
     cases a;refine qa ?_;exact qD
    | 1,a =>
     cases a;have d0:=f0 (dt p 0);refine qa ?_;exact qD
    | 2,a =>
     cases a;refine qa ?_;exact qD
    | 3,a =>
     cases a;have d2:=f2 (dt p 2);refine qa ?_;exact qD
    | 4,a =>
     cases a;refine qa ?_;exact qD
    | 5,a =>
     cases a;have d4:=f4 (dt p 4);refine qa ?_;exact qD
    | 6,a =>
     cases a;refine qa ?_;exact qD
    | 7,a =>
     cases a;have d6:=f6 (dt p 6);have d1:=f1 (dt p 1);refine qa ?_;exact qD
    | 8,a =>
     cases a;refine qa ?_;exact qD
    | 9,a =>
     cases a;have d8:=f8 (dt p 8);have d3:=f3 (dt p 3);refine qa ?_;exact qD
    | 10,a =>
     cases a;refine qa ?_;exact qD
    | 11,a =>
     cases a;have d10:=f10 (dt p 10);have d5:=f5 (dt p 5);refine qa ?_;exact qD
    | n+12,a=>cases a
   ·intro L S D ⟨H,J,g5,k0,R,f0,f1,f2,f3,f4,f5,f6,f8,f10,C⟩;replace D:∀ i,i < 12->L i=true:=D;have l7:=D 7 (by decide);have l9:=D 9 (by decide);have ad:=D 11 (by decide);rw [l7,l9,ad] at C;simp only [cond_true] at C;refine qi _ (qBe hd.val) ?_;by_cases d:wQ hd.val=0
    case neg =>
     exact qe (h:=qQ (bad (by simp [za,e,d])).symm)
    by_cases z:hd.val.n < 0
    ·exact qe (h:=qQ (bad (by simp [za,e,d,z])).symm)
    refine qi _ (X2 hd.val.kind hd.unit hd.name) ?_;by_cases I:kj hd.val.kind hd.unit hd.name=0
    ·have G:za hd ins=true:=by simp [za,e,d,z,I]
     have Q:zZ hd={ vb 1 with val:=hd.val,unit:=hd.unit,name:=hd.name }:=by simp [zZ,e]
     have P:kD 1=0:=rfl;refine qa ?_;exact⟨_,Le.refl _,rfl⟩
    ·exact qe (h:=qQ (bad (by simp [za,e,d,z,I])).symm)
  ·cases ins
   ·exact qe (h:=qQ (bad (by simp [za,e])).symm)
   ·refine qi _ (wW hd.name) ?_;cases d:zG hd.name
    ·exact qe (h:=qQ (bad (by simp [za,e,d])).symm)
    ·have G:za hd true=true:=by simp [za,e,d]
     have Q:zZ hd={ vb 2 with name:=hd.name }:=by simp [zZ,e]
     have P:kD 2=0:=rfl;refine qa ?_;exact⟨_,Le.nil 2,rfl⟩
  ·cases ins
   ·refine qi _ (wW hd.name) ?_;cases d:zG hd.name
    ·exact qe (h:=qQ (bad (by simp [za,e,d])).symm)
    ·have G:za hd false=true:=by simp [za,e,d]
     have Q:zZ hd={ vb 3 with name:=hd.name }:=by simp [zZ,e]
     have P:kD 3=0:=rfl;refine qa ?_;exact⟨_,Le.nil 2,rfl⟩
   ·exact qe (h:=qQ (bad (by simp [za,e])).symm)
  ·cases ins
   ·refine qi _ (wW hd.name) ?_;cases d:zG hd.name
    ·exact qe (h:=qQ (bad (by simp [za,e,d])).symm)
    ·have G:za hd false=true:=by simp [za,e,d]
     have Q:zZ hd={ vb 4 with name:=hd.name }:=by simp [zZ,e]
     have P:kD 4=1:=rfl;refine qa ?_;exact⟨_,Le.nil 2,rfl⟩
   ·exact qe (h:=qQ (bad (by simp [za,e])).symm)
  ·refine qa ?_;refine qAw (some true) Ty.mixed (by rfl) (by rfl) (qN2 U b5 hd (kI l) ins) ?_ ?_ ?_
   ·exact qD
   ·intro L S i o a D p ⟨H,J,g5,k0,f0,f1,f2,f3,f4,f5,f6,f7,f8,f10,f12,f14,C⟩
    match i,a with
    | 0,a =>
     cases a;refine qa ?_;exact qD
    | 1,a =>
     cases a;have d0:=f0 (dt p 0);refine qa ?_;exact qD
    | 2,a =>
     cases a;refine qa ?_;exact qD
    | 3,a =>
     cases a;have d2:=f2 (dt p 2);refine qa ?_;exact qD
    | 4,a =>
     cases a;refine qa ?_;exact qD
    | 5,a =>
     cases a;have d4:=f4 (dt p 4);refine qa ?_;exact qD
    | 6,a =>
     cases a;refine qa ?_;exact qD
    | 7,a =>
     cases a;have d6:=f6 (dt p 6);refine qa ?_;exact qD
    | 8,a =>
     cases a;refine qa ?_;exact qD
    | 9,a =>
     cases a;have d8:=f8 (dt p 8);have d1:=f1 (dt p 1);refine qa ?_;exact qD
    | 10,a =>
     cases a;refine qa ?_;exact qD
    | 11,a =>
     cases a;have d10:=f10 (dt p 10);have d3:=f3 (dt p 3);refine qa ?_;exact qD
    | 12,a =>
     cases a;refine qa ?_;exact qD
    | 13,a =>
     cases a;have d12:=f12 (dt p 12);have d5:=f5 (dt p 5);refine qa ?_;exact qD
    | 14,a =>
     cases a;refine qa ?_;exact qD
    | 15,a =>
     cases a;have d14:=f14 (dt p 14);have d7:=f7 (dt p 7);refine qa ?_;exact qD
    | n+16,a=>cases a
   ·intro L S D ⟨H,J,g5,k0,f0,f1,f2,f3,f4,f5,f6,f7,f8,f10,f12,f14,C⟩;replace D:∀ i,i < 16->L i=true:=D;have l9:=D 9 (by decide);have ad:=D 11 (by decide);have l13:=D 13 (by decide);have ai:=D 15 (by decide);rw [l9,ad,l13,ai] at C;simp only [cond_true] at C;clear D f0 f1 f2 f3 f4 f5 f6 f7 f8 f10 f12 f14;cases ins
    case true =>
     by_cases M:hd.op=vy
     ·exact qe (h:=qQ (bad (by simp [za,e])).symm)
     by_cases N:hd.op=yM
     ·exact qe (h:=qQ (bad (by simp [za,e])).symm)
     exact qe (h:=qQ (bad (by simp [za,e])).symm)
    have Q:zZ hd={ vb 5 with op:=hd.op,table:=hd.table,param:=hd.param,wk:=hd.wk,ws:=hd.ws }:=by simp [zZ,e]
    have P:kD 5=2:=rfl;by_cases M:hd.op=vy
    ·refine qa ?_;refine qo _ (jO JD vy (by decide)) ?_;cases d:uY JD vy
     ·exact qe (h:=qQ (bad (by simp [za,e,wZ,M,d])).symm)
     refine qi _ (wW hd.table) ?_;cases z:zG hd.table
     ·exact qe (h:=qQ (bad (by simp [za,e,wZ,M,d,z])).symm)
     by_cases I:hd.param < 1
     ·exact qe (h:=qQ (bad (by simp [za,e,wZ,VY,M,d,z,I])).symm)
     by_cases v4:1000 < hd.param
     ·exact qe (h:=qQ (bad (by simp [za,e,wZ,VY,hiP,M,d,z,I,v4])).symm)
     have j:wZ hd=xx hd.wk hd.ws:=by simp [wZ,VY,hiP,M,d,z,I,v4]
     by_cases w:hd.wk < 1
     ·exact qe (h:=qQ (bad (by simp [za,e,j,xx,w])).symm)
     by_cases A:4 < hd.wk
     ·exact qe (h:=qQ (bad (by simp [za,e,j,xx,w,A])).symm)
     by_cases y:hd.wk=1
     ·by_cases k:hd.ws=0
      ·have G:za hd false=true:=by simp [za,e,j,xx,y,k]
       refine qa ?_;exact⟨_,Le.nil 2,rfl⟩
      ·exact qe (h:=qQ (bad (by simp [za,e,j,xx,y,k])).symm)
     ·by_cases k:hd.ws=0
      ·exact qe (h:=qQ (bad (by simp [za,e,j,xx,w,A,y,k])).symm)
      by_cases K:hd.ws < 0
      ·exact qe (h:=qQ (bad (by simp [za,e,j,xx,w,A,y,k,K])).symm)
      by_cases T:1099511627776 < hd.ws
      ·exact qe (h:=qQ (bad (by simp [za,e,j,xx,w,A,y,k,K,T])).symm)
      have G:za hd false=true:=by simp [za,e,j,xx,w,A,y,k,K,T]
      refine qa ?_;exact⟨_,Le.nil 2,rfl⟩
    by_cases N:hd.op=yM
    ·refine qa ?_;refine qo _ (jO JD yM (by decide)) ?_;cases d:uY JD yM
     ·exact qe (h:=qQ (bad (by simp [za,e,wZ,N,d])).symm)
     refine qi _ (wW hd.table) ?_;cases z:zG hd.table
     ·exact qe (h:=qQ (bad (by simp [za,e,wZ,N,d,z])).symm)
     by_cases I:hd.param < 1
     ·exact qe (h:=qQ (bad (by simp [za,e,wZ,VY,N,d,z,I])).symm)
     by_cases v4:1073741824 < hd.param
     ·exact qe (h:=qQ (bad (by simp [za,e,wZ,VY,hiP,N,d,z,I,v4])).symm)
     have j:wZ hd=xx hd.wk hd.ws:=by simp [wZ,VY,hiP,N,d,z,I,v4]
     by_cases w:hd.wk < 1
     ·exact qe (h:=qQ (bad (by simp [za,e,j,xx,w])).symm)
     by_cases A:4 < hd.wk
     ·exact qe (h:=qQ (bad (by simp [za,e,j,xx,w,A])).symm)
     by_cases y:hd.wk=1
     ·by_cases k:hd.ws=0
      ·have G:za hd false=true:=by simp [za,e,j,xx,y,k]
       refine qa ?_;exact⟨_,Le.nil 2,rfl⟩
      ·exact qe (h:=qQ (bad (by simp [za,e,j,xx,y,k])).symm)
     ·by_cases k:hd.ws=0
      ·exact qe (h:=qQ (bad (by simp [za,e,j,xx,w,A,y,k])).symm)
      by_cases K:hd.ws < 0
      ·exact qe (h:=qQ (bad (by simp [za,e,j,xx,w,A,y,k,K])).symm)
      by_cases T:1099511627776 < hd.ws
      ·exact qe (h:=qQ (bad (by simp [za,e,j,xx,w,A,y,k,K,T])).symm)
      have G:za hd false=true:=by simp [za,e,j,xx,w,A,y,k,K,T]
      refine qa ?_;exact⟨_,Le.nil 2,rfl⟩
    refine qa ?_;refine qo _ (jO JD hd.op (by decide)) ?_;cases d:uY JD hd.op
    ·exact qe (h:=qQ (bad (by simp [za,e,wZ,d])).symm)
    refine qi _ (wW hd.table) ?_;cases z:zG hd.table
    ·exact qe (h:=qQ (bad (by simp [za,e,wZ,d,z])).symm)
    by_cases I:hd.param < 0
    ·exact qe (h:=qQ (bad (by simp [za,e,wZ,VY,M,N,d,z,I])).symm)
    by_cases v4:0 < hd.param
    ·exact qe (h:=qQ (bad (by simp [za,e,wZ,VY,hiP,M,N,d,z,I,v4])).symm)
    have j:wZ hd=xx hd.wk hd.ws:=by simp [wZ,VY,hiP,M,N,d,z,I,v4]
    by_cases w:hd.wk < 1
    ·exact qe (h:=qQ (bad (by simp [za,e,j,xx,w])).symm)
    by_cases A:4 < hd.wk
    ·exact qe (h:=qQ (bad (by simp [za,e,j,xx,w,A])).symm)
    by_cases y:hd.wk=1
    ·by_cases k:hd.ws=0
     ·have G:za hd false=true:=by simp [za,e,j,xx,y,k]
      refine qa ?_;exact⟨_,Le.nil 2,rfl⟩
     ·exact qe (h:=qQ (bad (by simp [za,e,j,xx,y,k])).symm)
    ·by_cases k:hd.ws=0
     ·exact qe (h:=qQ (bad (by simp [za,e,j,xx,w,A,y,k])).symm)
     by_cases K:hd.ws < 0
     ·exact qe (h:=qQ (bad (by simp [za,e,j,xx,w,A,y,k,K])).symm)
     by_cases T:1099511627776 < hd.ws
     ·exact qe (h:=qQ (bad (by simp [za,e,j,xx,w,A,y,k,K,T])).symm)
     have G:za hd false=true:=by simp [za,e,j,xx,w,A,y,k,K,T]
     refine qa ?_;exact⟨_,Le.nil 2,rfl⟩
  ·refine qa ?_;refine qo _ (jO unL hd.op (by decide)) ?_;cases d:uY unL hd.op
   ·exact qe (h:=qQ (bad (by simp [za,e,d])).symm)
   ·have G:za hd ins=true:=by simp [za,e,d]
    have Q:zZ hd={ vb 6 with op:=hd.op }:=by simp [zZ,e]
    have P:kD 6=1:=rfl;refine qa ?_;exact⟨_,Le.nil 2,rfl⟩
  ·refine qa ?_;refine qo _ (jO qzm hd.op (by decide)) ?_;cases d:uY qzm hd.op
   ·exact qe (h:=qQ (bad (by simp [za,e,d])).symm)
   ·have G:za hd ins=true:=by simp [za,e,d]
    have Q:zZ hd={ vb 7 with op:=hd.op }:=by simp [zZ,e]
    have P:kD 7=2:=rfl;refine qa ?_;exact⟨_,Le.nil 2,rfl⟩
  ·have G:za hd ins=true:=by simp [za,e]
   have Q:zZ hd=vb 8:=by simp [zZ,e]
   have P:kD 8=3:=rfl;refine qa ?_;exact⟨_,Le.nil 2,rfl⟩
  ·have G:za hd ins=true:=by simp [za,e]
   have Q:zZ hd=vb 9:=by simp [zZ,e]
   have P:kD 9=2:=rfl;refine qa ?_;exact⟨_,Le.nil 2,rfl⟩
  ·exact qe (h:=qQ (bad (by simp [za,e])).symm)
 ·rintro S ⟨G,⟨u,af,C⟩,H,J,g5,g1,g6⟩;have ac:zX (.mk hd l) ins=(decide (hd=zZ hd) && decide ((l.length:Int)=kD hd.kind) && properEs l (ins || decide (hd.kind=5)) && jo hd l):=by rw [Qn,G];simp
  refine qa ?_;refine qAn (.c1 (.cons (qLn af) .nil)) _ (qon hd (zZ hd) l [] hu) ?_;by_cases c1:hd=zZ hd
  case neg =>
   exact qe (h:=qQ (by simp_all))
  by_cases O:(l.length:Int)=kD hd.kind
  case neg =>
   simp only [↓rA,rU,H,J,g6,Y,decide_eq_true c1,O,simprocAttr];exact qc (qQ (by rw [ac,decide_eq_false O];simp))
  simp only [↓rA,rU,H,J,g6,Y,decide_eq_true c1,O,simprocAttr];have fin:properEs l (ins || decide (hd.kind=5))=false->zX (.mk hd l) ins=false:=fun h=>by rw [ac,h];simp
  refine qG Ty.mixed (by rfl) l.length (fun i S=>properEs (l.take i) (ins || decide (hd.kind=5))=true/\S.boxes=[(b5,.c (cHu (zZ hd) u nilS)),(U,.c (cH hd (kI l)))]/\S.rows=[]/\S.σ 1=qq (ins || decide (hd.kind=5))/\S.σ 2=ptr U/\S.σ 186=kI l/\S.σ 187=vint (kD hd.kind)/\S.σ 188=vint i) ⟨0,?_⟩ (fun i S hi ⟨hq,C,H,g1,J,aa,W,X⟩=>?_) (fun S ⟨hq,C,H,g1,J,aa,W,X⟩=>?_)
  ·exact qD
  ·have Z:((i:Int) < kD hd.kind):=by rw [<-O];omega
   have ah:=qj hi;have hx:=zs hi;simp only [↓rA,rU,C,H,aa,W,X,Z,zq,hi,qY,simprocAttr];refine qX fun aj al=>?_;simp only [↓rA,rU,C,g1,simprocAttr];have hc:=ih l[i] hx (ins || decide (hd.kind=5)) (ha _ hx);rw [vE,qY] at hc;refine qo _ hc ?_;cases r1:zX l[i] (ins || decide (hd.kind=5))
   ·simp only [↓rA,rB,H];refine qc (qQ (fin ?_).symm);cases q:properEs l (ins || decide (hd.kind=5))
    ·rfl
    ·rw [(yY l _).1 q _ hx] at r1;omega
   ·simp only [↓rA,rU,H,g1,J,aa,W,X,ah,simprocAttr];refine⟨1,?_,rfl⟩;rw [zt hi,jl,hq];simp only [properEs,r1,qM9]
  ·have Z:¬ ((l.length:Int) < kD hd.kind):=by rw [<-O];omega
   rw [xa (w3 _)] at hq;have ab:zX (.mk hd l) ins=jo hd l:=by rw [ac,decide_eq_true c1,decide_eq_true O,hq];simp
   by_cases R:hd.op=qb3
   case neg =>
    simp only [↓rA,rU,C,H,J,W,X,Z,R,Y,simprocAttr];exact qc (qQ (by rw [ab];simp [jo,R]))
   by_cases k2:hd.kind=5
   case neg =>
    simp only [↓rA,rU,C,H,J,W,X,Z,R,k2,Y,simprocAttr];exact qc (qQ (by rw [ab];simp [jo,R,k2]))
   rw [k2] at O Z;have ae:l.length=2:=by
    have:(l.length:Int)=2:=O;omega
   cases l with
   | nil=>cases ae
   | cons x r =>
   have ag:¬ (((r.length+1:Nat):Int) < kD 5):=Z;simp only [↓rA,rU,C,H,J,W,X,ag,R,k2,Y,qY,simprocAttr];refine qX fun ak am=>?_;simp only [↓rA,rU,C,k2,simprocAttr];have hx:=ha x x6;refine qAn (.c1 (.cons (qLn (h:=Wr) (Le.nil 2)) .nil)) _ (qon x.hd Wr x.args [] hx.unit) ?_;simp only [↓rA,rB];exact qc (qQ (by rw [ab];simp [jo,R,k2]))
theorem qet (x:E) (k:uh x) (hb:zV x<=big):zk prog 211 [vE x] (vint (wx x)):=by
 have e:∀ {a b:Int},a=b->V.lit (.int .i64 a)=vint b:=fun h=>by rw [h]
 have o:=qBz x k;have hd:=qyz x k hb;have n:=qqc x false k;rw [vE,qY] at o hd n ⊢;refine oE func211 fun F z u=>?_;refine qb fun w y=>?_;refine qi _ o ?_;by_cases d:64 < IntKind.i64.wrap (kY x)
 ·exact qe (h:=e (by rw [wx,if_pos d]))
 refine qi _ hd ?_;by_cases j:12 < zV x
 ·have p:(12:Int) < zV x:=by omega
  exact qe (h:=e (by rw [wx,if_neg d,if_pos j]))
 have p:¬ (12:Int) < zV x:=by omega
 refine qi _ n ?_;cases q:zX x false
 ·exact qe (h:=e (by rw [wx,if_neg d,if_neg j,if_neg (by simp_all)]))
 ·exact qe (h:=e (by rw [wx,if_neg d,if_neg j,if_pos q]))
open Go.Nv
theorem qWm {P:Prop} (n:Int) (X:Bx) (Y:List VL.Row) (h:n=0->P):∃ v a d,Le (vint n) v/\a.Sublist X/\d.Sublist Y/\(∃ n:Int,v=vint n/\(n=0->P))/\a=[]/\d=[] :=
 ⟨_,[],[],Le.refl _,zn _,zn _,⟨n,rfl,h⟩,rfl,rfl⟩
theorem qrl (c:Cat) (e:Str) (x:E) (y:c.features.length<=1000000) (z:c.tables.length<=1000000) (u:∀ x ∈ c.features,QK x) (w:∀ t ∈ c.tables,vf t) (d:uh x) (hb:zV x<=big):qWu prog 212 [zO c,vstr e,vE x] [] (qih c x):=by
 have k:=qet x d hb;have j:wx x=0->qWu prog 285 [.agg (yF c e (.lit .nilFunc)),vE x] [] (qih c x):=fun h=>qrm x false c e _ [] d (WU h).2.2 y z u w (.inl ⟨rfl,rfl,rfl⟩);simp only [vE,qY x] at k j ⊢;refine oE func212 fun F M C=>?_;refine qb fun D n=>?_;refine qb fun G o=>?_;refine qb fun H p=>?_;have J:=aI n (aI o p);refine qi _ k ?_;by_cases a:wx x=0
 case neg =>
  refine qi _ (kr _) ?_;refine qa ?_;exact qUb typ0 _ kH (fun h=>absurd h a) _ _
 refine qW (j a) ?_;rintro v I L ⟨⟨t1,K,rfl,A,q⟩,rfl,rfl⟩;refine qa ?_;exact qUb _ _ A q _ _
theorem Jb (c:Cat) (f:Ftr) (z:c.features.length<=1000000) (A:c.tables.length<=1000000) (u:∀ x ∈ c.features,QK x) (w:∀ t ∈ c.tables,vf t) (y:QK f) (hb:zV f.body<=big):Ok prog 133 [zO c,.agg (cFtr f)] [] fun v e rs=>(∃ n:Int,v=vint n/\(n=0->qih c f.body))/\e=[]/\rs=[]:=by
 have k:=qrl c f.entity f.body z A u w y.2 hb;simp only [vE,qY f.body,qs] at k ⊢;refine oE func133 fun F K C=>?_;refine qb fun D o=>?_;refine qb fun G p=>?_;have j:=aI o p;refine qa ?_
 repeat' (first
  | (refine qf (fun d=>?_) (fun d=>?_) <;> ((try refine qa ?_)))
  | (refine zm (fun d=>?_) (fun d=>?_) <;> ((try simp only [↓rA,rU,d,simprocAttr])))
  | (refine qo _ (wW _) ?_;try simp only [↓rA,rU,simprocAttr])
  | (refine qo _ (X2 _ _ _) ?_;try refine qa ?_)
  | exact qWm _ _ _ (fun h=>absurd h (by decide))
  | exact qWm _ _ _ (fun h=>q (by simp_all))
  | exact qWm _ _ _ (fun h=>absurd h (by simp_all))
  | (refine qF k ?_;rintro v e rs ⟨⟨t1,J,rfl,I,q⟩,rfl,rfl⟩;try refine qa ?_)
  | (refine fun H a=>?_;replace a:=zS a;simp only [Nb] at a;have j:=aI j a;try refine qa ?_)
  | (refine qo _ (qb1 _ _ (by omega)) ?_;try refine qa ?_))
theorem qBm (x:Fld) (y:Fld) (b:Nat):Ok prog 209 [.agg (KK x),ptr b] [(b,.c (KK y))] fun v a rs=>v=qq (decide (x.name=y.name))/\a=[(b,.c (KK y))]/\rs=[]:=by
 refine oE func209 fun F j d=>?_;refine qb fun e h=>?_;refine qa ?_;exact⟨_,[_],[],Le.refl _,List.Sublist.cons _ (zc _),zn _,rfl,rfl,rfl⟩
theorem qpb (t:Tab) (w:vf t):OkI prog 131 [.agg (cTab t)]:=by
 have y:zg prog 209=true:=by kernel_rfl
 have u:=w.1;unfold big at u;refine oE func131 fun F M A=>?_;refine qb fun d G=>?_;simp only [↓qJ,↓zx,↓zA,zw,qu,xY,List.toList_toArray,results131];rw [zu];refine xe (fun S=>S.boxes=[(d,.c (cTab t))]/\S.rows=[]/\S.σ 1=ptr d) ?_ ?_
 ·refine qa ?_
  repeat' (first
   | (refine qf (fun a=>?_) (fun a=>?_) <;> ((try simp only [↓rA,rU, *,simprocAttr])))
   | (refine zm (fun a=>?_) (fun a=>?_) <;> ((try simp only [↓rA,rU,a,simprocAttr])))
   | (refine qo _ (wW _) ?_;try simp only [↓rA,rU,simprocAttr])
   | exact kF _ _ _
   )
 rintro S ⟨j,k,h⟩;by_cases K:(8:Int) < t.fields.length
 ·refine qa ?_;exact kF _ _ _
 refine qa ?_;refine zI Ty.mixed (by rfl) t.fields.length (fun i S=>S.boxes=[(d,.c (cTab t))]/\S.rows=[]/\S.σ 1=ptr d/\S.σ 31=qnd t.fields/\S.σ 32=vint t.fields.length/\S.σ 33=vint i) ⟨_,_,_,_,zc _,zc _,zp _,zp _,?_⟩ (fun i S n ⟨j,k,h,o,p,q⟩=>?_) (fun S ⟨j,k,h,o,p,q⟩=>?_)
 ·exact qD
 ·have J:=qj n;refine qn ?_;refine qX fun e H=>?_;refine qi _ (wW _) ?_;refine qa ?_;apply qf <;> intro a
  ·refine qa ?_;exact kF _ _ _
  have I:(0:Int)<=(i:Int)/\(i:Int)<=(t.fields.length:Int):=⟨by omega,by omega⟩;refine qa ?_;refine⟨qO9 n,?_⟩;rw [<-qOt];refine qr [(e,.c (KK t.fields[i]))] _ (zp _) (qs4 (t.fields.take i) _ e (KK t.fields[i]) (fun x=>decide (x.name=t.fields[i].name)) y (fun x _=>qBm x _ e) (by unfold big;rw [kB];omega)) ?_;rintro v C L ⟨rfl,rfl,rfl⟩;refine qa ?_;apply qf <;> intro a
  ·refine qa ?_;exact kF _ _ _
  refine qi _ (X2 _ _ _) ?_;generalize kj t.fields[i].typ.kind t.fields[i].typ.unit t.fields[i].typ.of=z;by_cases D:z=0
  case neg =>
   refine qa ?_;exact kF _ _ _
  refine qa ?_;exact⟨[(d,.c (cTab t))],_,_,_,List.Sublist.cons _ (zc _),zc _,zp _,zp _,by exact qA⟩
 ·refine qn ?_;exact kF _ _ _
def BxQ (base:Bx) (d e:Bool) (v:V) (a:Bx):Prop :=
 (d=false/\e=false/\a=base)∨(∃ b,d=true/\e=false/\Nb b base/\v=ptr b/\a=(b,.c [vint 0,nilS,vstr qH])::base)∨∃ b t,d=true/\e=true/\Nb b base/\xK t/\v=ptr b/\a=(b,.c (kP t))::base
abbrev bs4 (a d j k:Nat) (h:Hd) (l:List E) (c:Cat) (e:Str) (t:Tab) (c':Cat) (n:Str) (o:Tab):Bx :=
 [(k,.c (qT c'++(vstr n::cTab o))),(j,.c [vint 0,nilS,vstr qH]),(d,.c (cH h (kI l))),(a,.c (qT c++(vstr e::cTab t)))]
def InI (d a j k:Nat) (h:Hd) (l:List E) (c:Cat) (e:Str) (t:Tab) (c':Cat) (o:Str) (p:Tab) (y:Value) (q:List Typ) (i:Nat) (x:E) (L:Nat->Bool) (S:St):Prop :=
 S.σ 2=ptr d/\S.σ 3=ptr a/\S.σ 4=ptr j/\S.σ 6=ptr k/\S.σ 9=.list (some y) 3 (q.map kP)/\S.σ 10=vint i/\S.rows=[⟨y,3,35⟩] /\
 (L 0=true->S.σ 37=vSc c' o p)/\(L 1=true->S.σ 38=.lit (.pointer (some ⟨a,11,none⟩)))/\(L 2=true->S.σ 39=kI l)/\(L 3=true->S.σ 40=vint i)/\(L 4=true->S.σ 41=.ref ((l.map cE).getD (i:Int).toNat []))/\(L 5=true->S.σ 42=vE x) /\
 (L 6=true->∃ t n,xK t/\S.σ 43=.tup [w8 t,vint n])/\(L 7=true->∃ t n,xK t/\S.σ 36=.tup [w8 t,vint n])/\(L 8=true->∃ t,xK t/\S.σ 44=w8 t)/\(L 9=true->∃ n,S.σ 45=vint n)/\(L 12=true->∃ n,S.σ 12=vint n) /\
 BxQ (bs4 d a j k h l c e t c' o p) (L 10) (L 11) (S.σ 11) S.boxes
theorem qxq (n:Nat) (hn:n<=1000000):∀ x:E,∀ (ins:Bool) (c:Cat) (e:Str) (t:Tab),uh x->zX x ins=true->zD n c->vf t->Qf prog 308 [vSc c e t,vE x]:=by
 intro x
 induction x using E.ind with
 | h h l ih =>
 intro ins c e t hf hp hk ht;obtain⟨p1,p2,p3,p4,p5⟩:=yX hp;have hl:=hf.len;have ha:=hf.args;have hu:=hf.unit;simp only [E.args,big] at hl ha;rw [vE,wI];refine Ok.of_exM [(11,3)] Ty.mixed func308 rfl (by simp) (by rfl) fun F w0 I0=>?_;simp only [↓rA,rU,simprocAttr];refine qX fun b2 h2=>?_;simp only [↓rA,rU,simprocAttr];refine qX fun b3 h3=>?_;simp only [↓rA,rU,simprocAttr];refine qX fun b4 h4=>?_;simp only [↓rA,rU,h3,h4,simprocAttr];refine qX fun b6 h6=>?_;have T:=aI h2 (aI h3 (aI h4 h6));simp only [↓qJ,↓zx,↓ua,↓wR,zw,qu,kM,vA,wB,jx,yd,ky,ub,kO,jA,jZ,zP,j1,yh,xB,Xu,yx,w3,eq_self,and_self,not_false_eq_true,ne_eq,z7,Jx,List.take_zero,qL1,qO3,List.length_cons,List.length_nil,List.nil_append,wl,List.toList_toArray,qJ0,qM9,Nat.reduceEqDiff,Nat.reduceAdd,results308,tU,Nat.reduceShiftRight,Nat.reduceMod];rw [zu];refine xe (fun S=>∃ X R W U,zD n R/\vf U/\S.boxes=X++bs4 b2 b3 b4 b6 h l c e t R W U/\S.rows=[]/\S.σ 2=ptr b2/\S.σ 3=ptr b3/\S.σ 4=ptr b4/\S.σ 6=ptr b6) ?_ ?_
 ·by_cases k5:h.kind=5
  ·simp only [↓rA,rU,T,k5,simprocAttr];refine qF (qo0 n c e t h.table hn hk) ?_;rintro v bs rs ⟨⟨R,W,U,k,rfl,aa⟩,rfl,rfl⟩;simp only [↓rA,rU,k5,simprocAttr];refine qX fun b7 h7=>?_;have h7:=aI T h7;simp only [↓rA,rU,k5,simprocAttr];by_cases k0:k=0
   ·simp only [↓rA,rU,h7,k5,k0,simprocAttr];exact⟨[(b7,_)],R,W,U,(aa k0).1,(aa k0).2,rfl⟩
   ·simp only [↓rA,rU,h7,k5,k0,simprocAttr];exact xX _ _ _ _ _
  ·simp only [↓rA,rU,T,k5,simprocAttr];exact⟨[],c,e,t,hk,ht,rfl⟩
 rintro S ⟨X,R,W,U,aa,af,a,C,H,u,G,A⟩;rw [zu];refine qa ?_;refine xo.nilRow 9 3 35 (by rfl) (by decide) ?_;refine vg Ty.mixed (by rfl) l.length (fun i S=>(∃ (y:Value) (Z:List Typ),Z.length=i/\(∀ z ∈ Z,xK z)/\S.σ 9=.list (some y) 3 (Z.map kP)/\S.rows=[⟨y,3,35⟩])/\S.boxes=bs4 b2 b3 b4 b6 h l c e t R W U/\S.σ 2=ptr b2/\S.σ 3=ptr b3/\S.σ 4=ptr b4/\S.σ 6=ptr b6/\S.σ 10=vint i) ⟨bs4 b2 b3 b4 b6 h l c e t R W U,_,?_,zc _,?_⟩ (fun i S Y ⟨⟨y,Z,ab,ac,J,C⟩,a,H,u,G,A,w⟩=>?_) (fun S ⟨⟨y,Z,ab,ac,J,C⟩,a,H,u,G,A,w⟩=>?_)
 ·simp only [rB,a];simp
 ·simp only [rU,C,H,u,G,A,simprocAttr];simp
 ·have ag:=qj Y;have hx:=zs Y;have hq:=ih l[i] hx (ins || decide (h.kind=5)) R W U (ha _ hx) (p4 _ hx) aa af;simp only [↓rA,rU,a,u,w,T,zq,Y,simprocAttr];refine JP Ty.mixed (by rfl) (by rfl) (InI b2 b3 b4 b6 h l c e t R W U y Z i l[i]) ?_ ?_ ?_
  ·refine⟨?_,?_,?_,?_,?_,?_,?_,(fun h=>by cases h),(fun h=>by cases h),(fun h=>by cases h),(fun h=>by cases h),(fun h=>by cases h),(fun h=>by cases h),(fun h=>by cases h),(fun h=>by cases h),(fun h=>by cases h),(fun h=>by cases h),(fun h=>by cases h),.inl ⟨rfl,rfl,?_⟩⟩ <;> assumption
  ·clear C a H u G A J w;intro D S j o K hL Q ⟨H,u,G,A,J,w,C,f0,f1,f2,f3,f4,f5,f6,f7,f8,f9,f12,M⟩
   match j,K with
   | 0,K =>
    cases K;have L:=M;rcases L with⟨p,q,a⟩ | ⟨b,p,q,d,I,a⟩ | ⟨b,t2,p,q,d,P,I,a⟩
    ·skip
     simp only [↓rA,rU,a,A,simprocAttr];exact qD
    ·simp only [Nb] at d;simp only [↓rA,rU,a,A,d,simprocAttr];exact qD
    ·simp only [Nb] at d;simp only [↓rA,rU,a,A,d,simprocAttr];exact qD
   | 1,K =>
    cases K;have L:=M;rcases L with⟨p,q,a⟩ | ⟨b,p,q,d,I,a⟩ | ⟨b,t2,p,q,d,P,I,a⟩
    ·skip
     simp only [↓rA,rU,u,simprocAttr];exact qD
    ·simp only [Nb] at d;simp only [↓rA,rU,u,simprocAttr];exact qD
    ·simp only [Nb] at d;simp only [↓rA,rU,u,simprocAttr];exact qD
   | 2,K =>
    cases K;have q1:=f1 (dt Q 1);have L:=M;rcases L with⟨p,q,a⟩ | ⟨b,p,q,d,I,a⟩ | ⟨b,t2,p,q,d,P,I,a⟩
    ·skip
     simp only [↓rA,rU,a,T,q1,simprocAttr];exact⟨H,u,G,A,J,w,C,f0,f1,fun _=>rfl,f3,f4,f5,f6,f7,f8,f9,f12,by exact M⟩
    ·simp only [Nb] at d;simp only [↓rA,rU,a,T,q1,d,simprocAttr];exact⟨H,u,G,A,J,w,C,f0,f1,fun _=>rfl,f3,f4,f5,f6,f7,f8,f9,f12,by exact M⟩
    ·simp only [Nb] at d;simp only [↓rA,rU,a,T,q1,d,simprocAttr];exact⟨H,u,G,A,J,w,C,f0,f1,fun _=>rfl,f3,f4,f5,f6,f7,f8,f9,f12,by exact M⟩
   | 3,K =>
    cases K;have L:=M;rcases L with⟨p,q,a⟩ | ⟨b,p,q,d,I,a⟩ | ⟨b,t2,p,q,d,P,I,a⟩
    ·skip
     simp only [↓rA,rB,w];exact qD
    ·simp only [Nb] at d;simp only [↓rA,rB,w];exact qD
    ·simp only [Nb] at d;simp only [↓rA,rB,w];exact qD
   | 4,K =>
    cases K;have q2:=f2 (dt Q 2);have q3:=f3 (dt Q 3);have L:=M;rcases L with⟨p,q,a⟩ | ⟨b,p,q,d,I,a⟩ | ⟨b,t2,p,q,d,P,I,a⟩
    ·skip
     simp only [↓rA,rB,zq,Y,zz,q2,q3,tU,Nat.reduceShiftRight,Nat.reduceMod];exact qD
    ·simp only [Nb] at d;simp only [↓rA,rB,zq,Y,zz,q2,q3,tU,Nat.reduceShiftRight,Nat.reduceMod];exact qD
    ·simp only [Nb] at d;simp only [↓rA,rB,zq,Y,zz,q2,q3,tU,Nat.reduceShiftRight,Nat.reduceMod];exact qD
   | 5,K =>
    cases K;have q4:=f4 (dt Q 4);have L:=M;rcases L with⟨p,q,a⟩ | ⟨b,p,q,d,I,a⟩ | ⟨b,t2,p,q,d,P,I,a⟩
    ·skip
     simp only [↓rA,rU,q4,simprocAttr]
     try simp only [rB,Nat.reduceAdd,qI _ _ _ Y,qY]
     exact⟨H,u,G,A,J,w,C,f0,f1,f2,f3,f4,fun _=>(congrArg V.agg (qY l[i])).symm,f6,f7,f8,f9,f12,by assumption⟩
    ·simp only [Nb] at d;simp only [↓rA,rU,q4,simprocAttr]
     try simp only [rB,Nat.reduceAdd,qI _ _ _ Y,qY]
     exact⟨H,u,G,A,J,w,C,f0,f1,f2,f3,f4,fun _=>(congrArg V.agg (qY l[i])).symm,f6,f7,f8,f9,f12,by assumption⟩
    ·simp only [Nb] at d;simp only [↓rA,rU,q4,simprocAttr]
     try simp only [rB,Nat.reduceAdd,qI _ _ _ Y,qY]
     exact⟨H,u,G,A,J,w,C,f0,f1,f2,f3,f4,fun _=>(congrArg V.agg (qY l[i])).symm,f6,f7,f8,f9,f12,by assumption⟩
   | 6,K =>
    cases K;have q0:=f0 (dt Q 0);have q5:=f5 (dt Q 5);have L:=M;rcases L with⟨p,q,a⟩ | ⟨b,p,q,d,I,a⟩ | ⟨b,t2,p,q,d,P,I,a⟩
    ·skip
     simp only [↓rA,rU,a,q0,q5,simprocAttr];refine qF hq ?_;rintro v bs rs ⟨⟨t1,N,rfl,O⟩,rfl,rfl⟩;simp only [↓rA,rB,C];exact⟨H,u,G,A,J,w,rfl,f0,f1,f2,f3,f4,f5,fun _=>⟨t1,N,O,rfl⟩,f7,f8,f9,f12,by((rw [a] at M;exact M))⟩
    ·simp only [Nb] at d;simp only [↓rA,rU,a,q0,q5,simprocAttr];refine qF hq ?_;rintro v bs rs ⟨⟨t1,N,rfl,O⟩,rfl,rfl⟩;simp only [↓rA,rB,C];exact⟨H,u,G,A,J,w,rfl,f0,f1,f2,f3,f4,f5,fun _=>⟨t1,N,O,rfl⟩,f7,f8,f9,f12,by((rw [a] at M;exact M))⟩
    ·simp only [Nb] at d;simp only [↓rA,rU,a,q0,q5,simprocAttr];refine qF hq ?_;rintro v bs rs ⟨⟨t1,N,rfl,O⟩,rfl,rfl⟩;simp only [↓rA,rB,C];exact⟨H,u,G,A,J,w,rfl,f0,f1,f2,f3,f4,f5,fun _=>⟨t1,N,O,rfl⟩,f7,f8,f9,f12,by((rw [a] at M;exact M))⟩
   | 7,K =>
    cases K;obtain⟨t1,N,O,q6⟩:=f6 (dt Q 6);have L:=M;rcases L with⟨p,q,a⟩ | ⟨b,p,q,d,I,a⟩ | ⟨b,t2,p,q,d,P,I,a⟩
    ·skip
     simp only [↓rA,rB,q6];exact⟨H,u,G,A,J,w,C,f0,f1,f2,f3,f4,f5,f6,fun _=>⟨t1,N,O,rfl⟩,f8,f9,f12,by assumption⟩
    ·simp only [Nb] at d;simp only [↓rA,rB,q6];exact⟨H,u,G,A,J,w,C,f0,f1,f2,f3,f4,f5,f6,fun _=>⟨t1,N,O,rfl⟩,f8,f9,f12,by assumption⟩
    ·simp only [Nb] at d;simp only [↓rA,rB,q6];exact⟨H,u,G,A,J,w,C,f0,f1,f2,f3,f4,f5,f6,fun _=>⟨t1,N,O,rfl⟩,f8,f9,f12,by assumption⟩
   | 8,K =>
    cases K;obtain⟨t1,N,O,q7⟩:=f7 (dt Q 7);have L:=M;rcases L with⟨p,q,a⟩ | ⟨b,p,q,d,I,a⟩ | ⟨b,t2,p,q,d,P,I,a⟩
    ·skip
     simp only [↓rA,rB,q7];exact⟨H,u,G,A,J,w,C,f0,f1,f2,f3,f4,f5,f6,f7,fun _=>⟨t1,O,rfl⟩,f9,f12,by assumption⟩
    ·simp only [Nb] at d;simp only [↓rA,rB,q7];exact⟨H,u,G,A,J,w,C,f0,f1,f2,f3,f4,f5,f6,f7,fun _=>⟨t1,O,rfl⟩,f9,f12,by assumption⟩
    ·simp only [Nb] at d;simp only [↓rA,rB,q7];exact⟨H,u,G,A,J,w,C,f0,f1,f2,f3,f4,f5,f6,f7,fun _=>⟨t1,O,rfl⟩,f9,f12,by assumption⟩
   | 9,K =>
    cases K;obtain⟨t1,N,O,q7⟩:=f7 (dt Q 7);have L:=M;rcases L with⟨p,q,a⟩ | ⟨b,p,q,d,I,a⟩ | ⟨b,t2,p,q,d,P,I,a⟩
    ·skip
     simp only [↓rA,rB,q7];exact⟨H,u,G,A,J,w,C,f0,f1,f2,f3,f4,f5,f6,f7,f8,fun _=>⟨N,rfl⟩,f12,by assumption⟩
    ·simp only [Nb] at d;simp only [↓rA,rB,q7];exact⟨H,u,G,A,J,w,C,f0,f1,f2,f3,f4,f5,f6,f7,f8,fun _=>⟨N,rfl⟩,f12,by assumption⟩
    ·simp only [Nb] at d;simp only [↓rA,rB,q7];exact⟨H,u,G,A,J,w,C,f0,f1,f2,f3,f4,f5,f6,f7,f8,fun _=>⟨N,rfl⟩,f12,by assumption⟩
   | 10,K =>
    cases K;have L:=M;rcases L with⟨p,q,a⟩ | ⟨b,p,q,d,I,a⟩ | ⟨b,t2,p,q,d,P,I,a⟩
    ·skip
     simp only [↓rA,rU,a,C,simprocAttr];refine qX fun b ae=>?_;simp only [↓rA,rB];exact⟨H,u,G,A,J,w,C,f0,f1,f2,f3,f4,f5,f6,f7,f8,f9,f12,.inr (.inl ⟨b,rfl,q,ae,rfl,congrArg (_::·) a⟩)⟩
    ·simp only [Nb] at d;rw [p] at hL;cases hL
    ·simp only [Nb] at d;rw [p] at hL;cases hL
   | 11,K =>
    cases K;obtain⟨t1,O,q8⟩:=f8 (dt Q 8);have L:=M;rcases L with⟨p,q,a⟩ | ⟨b,p,q,d,I,a⟩ | ⟨b,t2,p,q,d,P,I,a⟩
    ·skip
     exact absurd (dt Q 10) (by rw [p];simp)
    ·simp only [Nb] at d;simp only [↓rA,rU,a,q8,I,simprocAttr];exact⟨H,u,G,A,J,w,C,f0,f1,f2,f3,f4,f5,f6,f7,f8,f9,f12,.inr (.inr ⟨b,t1,p,rfl,d,O,I,rfl⟩)⟩
    ·simp only [Nb] at d;rw [q] at hL;cases hL
   | 12,K =>
    cases K;obtain⟨N,q9⟩:=f9 (dt Q 9);have L:=M;rcases L with⟨p,q,a⟩ | ⟨b,p,q,d,I,a⟩ | ⟨b,t2,p,q,d,P,I,a⟩
    ·skip
     simp only [↓rA,rB,q9];exact⟨H,u,G,A,J,w,C,f0,f1,f2,f3,f4,f5,f6,f7,f8,f9,fun _=>⟨N,rfl⟩,by assumption⟩
    ·simp only [Nb] at d;simp only [↓rA,rB,q9];exact⟨H,u,G,A,J,w,C,f0,f1,f2,f3,f4,f5,f6,f7,f8,f9,fun _=>⟨N,rfl⟩,by assumption⟩
    ·simp only [Nb] at d;simp only [↓rA,rB,q9];exact⟨H,u,G,A,J,w,C,f0,f1,f2,f3,f4,f5,f6,f7,f8,f9,fun _=>⟨N,rfl⟩,by assumption⟩
  ·clear C a H u G A J w;intro D S hD ⟨H,u,G,A,J,w,C,f0,f1,f2,f3,f4,f5,f6,f7,f8,f9,f12,M⟩;obtain⟨N,ad⟩:=f12 (hD 12 (by decide));rcases M with⟨p,q,a⟩ | ⟨b,p,q,d,I,a⟩ | ⟨b,t2,p,q,d,P,I,a⟩
   ·rw [hD 10 (by decide)] at p;cases p
   ·rw [hD 11 (by decide)] at q;cases q
   simp only [Nb] at d;refine qa ?_;by_cases n0:N=0
   ·simp only [↓rA,rU,a,C,J,I,n0,simprocAttr];intro y1;refine xf ?_;simp only [↓rA,rU,w,n0,ab,ag,simprocAttr];refine⟨by omega,fun y2=>?_⟩;refine⟨bs4 b2 b3 b4 b6 h l c e t R W U,[⟨y2,3,35⟩],?_,?_,?_⟩
    ·simp only [rB,a];simp
    ·exact List.Sublist.cons_cons _ (zn _)
    ·simp only [rU,H,u,G,A,simprocAttr];refine⟨y2,Z++[t2],by simp [ab],fun z hz=>?_,by simp,rfl⟩;rcases z6.1 hz with hz | hz
     ·exact ac z hz
     ·rw [kl.1 hz];omega
   ·simp only [↓rA,rU,a,C,G,ad,T,d,n0,simprocAttr];exact xX _ _ _ _ _
 ·have hq:=qce n c e t h l ins (some y) Z hn hk ht hu p1 (by omega) ac;simp only [↓rA,rU,a,H,u,J,w,T,zq,WR,simprocAttr];refine qF hq ?_;rintro v bs rs ⟨⟨t1,N,rfl,O⟩,rfl,rfl⟩;simp only [↓rA,rU,C,G,T,simprocAttr];exact wE _ _ _ _ _ _ _ (Le.refl _) O
theorem qLm (c:Cat) (a:Str):Le (.agg (qT c++[vstr a,vstr qH,vstr qH,nilS,vint 0])) (vSc c a tab0) :=
 wc (.c1 (.c1 (.c1 (.c1 (.c1 (.c1 (.c1 (.cons (Le.nil 4) (.c1 .nil)))))))))
theorem qLx:vf tab0:=⟨by simp,fun f a=>by cases a⟩
theorem qrn (n:Nat) (c:Cat) (a:Str) (x:E) (z:n<=1000000) (y:zD n c) (d:uh x) (hb:zV x<=big):Qf prog 263 [zO c,vstr a,vE x]:=by
 have k:=UW x d hb;have j:wx x=0->Qf prog 308 [vSc c a tab0,vE x]:=fun h=>qxq n z x false c a tab0 d (WU h).2.2 y qLx;simp only [vE,qY x] at k j ⊢;refine oE func263 fun F M C=>?_;refine qb fun D p=>?_;refine qb fun G q=>?_;refine qb fun H u=>?_;have e:=aI p (aI q u);refine qi _ k ?_;by_cases o:wx x=0
 case neg =>
  refine qa ?_;exact xX _ _ _ _ _
 refine qb fun I w=>?_;have e:=aI e w;refine qW (Ok.le (.cons (qLm c a) (.c1 .nil)) (j o)) ?_;rintro v J L ⟨⟨t1,K,rfl,A⟩,rfl,rfl⟩;refine qa ?_;exact wE _ _ _ _ _ _ _ (Le.refl _) A
theorem Jc (n:Nat) (c:Cat) (f:Ftr) (u:n<=1000000) (q:zD n c) (p:QK f) (hb:zV f.body<=big):OkI prog 198 [zO c,.agg (cFtr f)]:=by
 have h:=qrn n c f.entity f.body u q p.2 hb;simp only [vE,qY f.body,qs] at h ⊢;refine oE func198 fun F H x=>?_;refine qb fun y k=>?_;refine qb fun z o=>?_;have e:=aI k o;refine qa ?_
 repeat' (first
  | (refine qf (fun d=>?_) (fun d=>?_) <;> ((try refine qa ?_)))
  | (refine zm (fun d=>?_) (fun d=>?_) <;> ((try simp only [↓rA,rU,d,simprocAttr])))
  | (refine qo _ (zU _) ?_;try simp only [↓rA,rU,simprocAttr])
  | (refine qo _ (X1 _ _ _) ?_;try refine qa ?_)
  | exact kF _ _ _
  | (refine qF h ?_;rintro v j w ⟨⟨t1,G,rfl,C⟩,rfl,rfl⟩;try refine qa ?_)
  | (refine fun A a=>?_;replace a:=zS a;simp only [Nb] at a;have e:=aI e a;try refine qa ?_)
  | (refine qF (qde _ _ (by omega)) ?_;rintro v j w ⟨⟨D,rfl⟩,rfl,rfl⟩;try refine qa ?_))
theorem qpc (t:Tab):OkI prog 262 [.agg (cTab t)]:=by
 refine oE func262 fun F J x=>?_;refine qb fun d y=>?_;simp only [↓qJ,↓zx,↓zA,zw,qu,xY,List.toList_toArray,results262];rw [zu];by_cases z:(8:Int) < t.fields.length
 ·refine qa ?_
  repeat' (first
   | (refine qf (fun a=>?_) (fun a=>?_) <;> ((try refine qa ?_)))
   | (refine zm (fun a=>?_) (fun a=>?_) <;> ((try simp only [↓rA,rU,a,simprocAttr])))
   | (refine qo _ (zU _) ?_;try simp only [↓rA,rU,simprocAttr])
   | exact kF _ _ _)
 have C:t.fields.length<=8:=by omega
 rw [<-zu];by_cases q:zG t.name=true
 case neg =>
  have q:zG t.name=false:=by simpa using q
  refine qi _ (zU _) ?_;refine qa ?_;exact kF _ _ _
 by_cases u:zG t.entity=true
 case neg =>
  have u:zG t.entity=false:=by simpa using u
  refine qi _ (zU _) ?_;refine qi _ (zU _) ?_;refine qa ?_;exact kF _ _ _
 by_cases H:t.keep < 0
 ·refine qi _ (zU _) ?_;refine qi _ (zU _) ?_;refine qa ?_;exact kF _ _ _
 by_cases I:1099511627776 < t.keep
 ·refine qi _ (zU _) ?_;refine qi _ (zU _) ?_;refine qa ?_;exact kF _ _ _
 refine qi _ (zU _) ?_;refine qi _ (zU _) ?_;refine qa ?_;refine qG Ty.mixed (by rfl) t.fields.length (fun i S=>S.boxes=[(d,.c (cTab t))]/\S.rows=[]/\S.σ 1=ptr d/\S.σ 3=vint i) ⟨0,?_⟩ (fun i S o ⟨n,e,h,k⟩=>?_) (fun S ⟨n,e,h,k⟩=>?_)
 ·exact qD
 ·have D:=qj o;refine qn ?_;refine qo _ (zU _) ?_;refine qa ?_;apply qf <;> intro a
  ·refine qa ?_;exact kF _ _ _
  simp only [↓rA,rB,e];refine qG Ty.mixed (by kernel_rfl) i (fun j S=>S.boxes=[(d,.c (cTab t))]/\S.rows=[]/\S.σ 1=ptr d/\S.σ 3=vint i/\S.σ 4=vint j) ⟨0,?_⟩ (fun j S p ⟨n,e,h,k,w⟩=>?_) (fun S ⟨n,e,h,k,w⟩=>?_)
  ·exact qD
  ·have G:=qj p;have A:j < t.fields.length:=qPs p o;refine qn ?_;apply qf <;> intro a
   ·refine qa ?_;exact kF _ _ _
   ·refine qa ?_;exact⟨0,rfl⟩
  ·refine qn ?_;refine qo _ (X1 _ _ _) ?_;refine qa ?_;apply qf <;> intro a
   ·refine qa ?_;exact kF _ _ _
   ·refine qa ?_;exact⟨0,rfl⟩
 ·refine qn ?_;exact kF _ _ _
theorem Yd (c:Cat) (s:Str) (A:c.tables.length<=1000000):Ok prog 115 [zO c,vstr s] [] fun v j rs=>(∃ (t:Tab) (b:Bool),v=.tup [.agg (cTab t),qq b]/\(b=true->t ∈ c.tables))/\j=[]/\rs=[]:=by
 refine oE func115 fun F D w=>?_;refine qb fun a x=>?_;refine qb fun d y=>?_;refine qa ?_;refine qG Ty.mixed (by rfl) c.tables.length (fun i S=>S.boxes=[(d,.c [vstr qH,vstr qH,nilS,vint 0]),(a,.c (qT c))]/\S.rows=[]/\S.σ 1=vstr s/\S.σ 2=ptr a/\S.σ 4=ptr d/\S.σ 6=vint i) ⟨0,?_⟩ (fun i S e ⟨q,u,k,n,o,p⟩=>?_) (fun S ⟨q,u,k,n,o,p⟩=>?_)
 ·exact qD
 ·have C:=qj e;refine qn ?_;apply qf <;> intro z
  ·refine qn ?_;exact r0 ⟨⟨c.tables[i],true,rfl,fun _=>zs e⟩,rfl,rfl⟩
  ·refine qa ?_;exact⟨0,rfl⟩
 ·refine qn ?_;exact⟨_,[],[],jf (.cons qko (.c1 .nil)),zn _,zn _,⟨tab0,false,rfl,fun h=>by cases h⟩,rfl,rfl⟩
theorem qDg (l:List Str) (s:Str) (p:l.length<=1000000000):OkB prog 311 [.list none 1 (l.map fun s=>[vstr s]),vstr s]:=by
 refine oE func311 fun F u n=>?_;refine qa ?_;refine qG Ty.mixed (by rfl) l.length (fun i S=>S.boxes=[]/\S.rows=[]/\S.σ 0=.list none 1 (l.map fun s=>[vstr s])/\S.σ 1=vstr s/\S.σ 5=vint i) ⟨0,?_⟩ (fun i S k ⟨h,j,a,d,e⟩=>?_) (fun S ⟨h,j,a,d,e⟩=>?_)
 ·exact qD
 ·have q:=qj k;refine qn ?_;apply qf <;> intro o
  ·refine qa ?_;exact r0 ⟨⟨true,rfl⟩,rfl,rfl⟩
  ·refine qa ?_;simp
 ·refine qn ?_;exact r0 ⟨⟨false,rfl⟩,rfl,rfl⟩
abbrev Wm (l:List Str):V:=.list none 1 (l.map fun s=>[vstr s])
theorem Yw (l:List Str) (s:Str) (O:l.length<=1000000000):Ok prog 344 [Wm l,vstr s] [] fun v n rs=>(∃ k:List Str,k.length<=l.length+1/\v=Wm k)/\n=[]/\rs=[]:=by
 refine oE func344 fun F Q G=>?_;refine qa ?_;refine jR Ty.mixed (by rfl) (fun j=>l.length - j) (fun j S=>j<=l.length/\S.boxes=[]/\S.rows=[]/\S.σ 0=Wm l/\S.σ 1=vstr s/\S.σ 5=vint j) 0 ⟨0,?_⟩ fun j S ⟨N,h,L,H,J,K⟩=>?_
 ·exact qA
  done
 ·by_cases q:j < l.length
  ·have P:=qj q (show l.length<=9223372036854775807 by omega);cases o:Op.bytesLess l[j].data.toList s.data.toList
   ·by_cases p:l[j]=s
    ·have M:Op.bytesLess s.data.toList s.data.toList=false:=p▸o;refine qn ?_;exact r0 ⟨⟨l,qF2 _,rfl⟩,rfl,rfl⟩
    ·refine qn ?_;have u:(j:Int)<=l.length:=by omega
     have d:(List.take j (l.map fun s=>[vstr s])).length=j:=by rw [kB,zz];omega
     have e:(List.drop j (l.map fun s=>[vstr s])).length=l.length - j:=by rw [qA8,zz]
     refine jS.l ?_;refine qa ?_;intro y;refine⟨by omega,fun z A=>xf ?_⟩;refine qa ?_;refine⟨by omega,fun C=>yt ?_⟩;simp only [↓rA,rU,h,d,e,zr,simprocAttr];refine⟨by omega,fun D=>⟨_,[],[],?_,zn _,zn _,⟨l.take j++(s::l.drop j),by simp;omega,rfl⟩,rfl,rfl⟩⟩;rw [Wm,k8,z7,qOt,qO1];refine fun w I x a=>?_;have:=Le.list _ _ _ w I x a;simp_all
   ·refine qn ?_;exact⟨j+1,by omega,0,by omega,rfl⟩
  ·refine qn ?_;have u:(j:Int)<=l.length:=by omega
   have d:(List.take j (l.map fun s=>[vstr s])).length=j:=by rw [kB,zz];omega
   have e:(List.drop j (l.map fun s=>[vstr s])).length=l.length - j:=by rw [qA8,zz]
   refine jS.l ?_;refine qa ?_;intro y;refine⟨by omega,fun z A=>xf ?_⟩;refine qa ?_;refine⟨by omega,fun C=>yt ?_⟩;simp only [↓rA,rU,h,d,e,zr,simprocAttr];refine⟨by omega,fun D=>⟨_,[],[],?_,zn _,zn _,⟨l.take j++(s::l.drop j),by simp_all,rfl⟩,rfl,rfl⟩⟩;rw [Wm,k8,z7,qOt,qO1];refine fun w I x a=>?_;have:=Le.list _ _ _ w I x a;simp_all
theorem qnj {l:List E} {x:E} (h:x ∈ l):kY x<=sizeEs l:=by
 induction l with
 | nil=>cases h
 | cons a r d =>
  simp only [sizeEs];rcases xb.1 h with rfl | h
  ·omega
  ·have:=d h;omega
theorem qgz:∀ x:E,∀ (a b:List Str),uh x->a.length+kY x<=100000000->b.length+kY x<=100000000->Ok prog 346 [vE x,Wm a,Wm b] [] fun v u rs=>(∃ d e:List Str,d.length<=a.length+kY x/\e.length<=b.length+kY x/\v=.tup [Wm d,Wm e])/\u=[]/\rs=[]:=by
 intro x
 induction x using E.ind with
 | h h l R =>
 intro a b H N O;have P:=H.len;have I:=H.args;simp only [E.args,big] at P I;rw [uO] at N O ⊢;rw [vE,wI];refine oE func346 fun F w0 U=>?_;refine qb fun j W=>?_;simp only [↓qJ,↓zx,↓zA,zw,qu,xY,List.toList_toArray,results346];rw [zu];refine xe (fun S=>(∃ d,d.length<=a.length+1/\S.σ 1=Wm d)/\S.boxes=[(j,.c (cH h (kI l)))]/\S.rows=[]/\S.σ 2=Wm b/\S.σ 3=ptr j) ?_ ?_
 ·refine qa ?_
  repeat' (first
   | (refine qf (fun q=>?_) (fun q=>?_) <;> ((try refine qa ?_)))
   | (refine zm (fun q=>?_) (fun q=>?_) <;> ((try refine qa ?_)))
   | exact⟨a,qF2 _,rfl⟩
   | (refine qF (Yw a h.name (by omega)) ?_;rintro v u rs ⟨⟨T,Q,rfl⟩,rfl,rfl⟩;try refine qa ?_)
   | exact⟨_,by omega,rfl⟩)
 rintro S ⟨⟨d,X,k⟩,p,w,n,o⟩;rw [zu];refine xe (fun S=>(∃ e,e.length<=b.length+1/\S.σ 2=Wm e)/\S.boxes=[(j,.c (cH h (kI l)))]/\S.rows=[]/\S.σ 1=Wm d/\S.σ 3=ptr j) ?_ ?_
 ·refine qa ?_
  repeat' (first
   | (refine qf (fun q=>?_) (fun q=>?_) <;> ((try refine qa ?_)))
   | exact⟨b,qF2 _,rfl⟩
   | (refine qF (Yw b h.table (by omega)) ?_;rintro v u rs ⟨⟨T,Q,rfl⟩,rfl,rfl⟩;try refine qa ?_)
   | exact⟨_,by omega,rfl⟩)
 clear p w k n o S;rintro S ⟨⟨e,Z,n⟩,p,w,k,o⟩;refine qa ?_;refine qG Ty.mixed (by rfl) l.length (fun i S=>(∃ d e:List Str,d.length<=a.length+1+sizeEs (l.take i)/\e.length<=b.length+1+sizeEs (l.take i)/\S.σ 1=Wm d/\S.σ 2=Wm e)/\S.boxes=[(j,.c (cH h (kI l)))]/\S.rows=[]/\S.σ 3=ptr j/\S.σ 8=vint i) ⟨0,?_⟩ (fun i S y ⟨⟨z,A,D,G,k,n⟩,p,w,o,C⟩=>?_) (fun S ⟨⟨z,A,D,G,k,n⟩,p,w,o,C⟩=>?_)
 ·refine qB ?_;exact⟨d,e,by omega,by omega,rfl,rfl⟩
 ·have ad:=qj y;have K:=zs y;have ac:sizeEs (l.take (i+1))=sizeEs (l.take i)+kY l[i]:=by
   rw [zt y,jc];simp only [sizeEs];omega
  have ab:sizeEs (l.take (i+1))<=sizeEs l:=by
   have:=jc (l.take (i+1)) (l.drop (i+1));rw [qBq] at this;omega
  have J:=R l[i] K z A (I _ K) (by omega) (by omega);rw [vE,qY] at J;simp only [↓rA,rU,p,k,n,o,C,zq,y,qY,simprocAttr];refine qF J ?_;rintro v u rs ⟨⟨L,M,Y,aa,rfl⟩,rfl,rfl⟩;refine qa ?_;refine⟨0,⟨L,M,by omega,by omega,rfl,rfl⟩,?_⟩;rfl
 ·rw [xa (w3 _)] at D G;refine qn ?_;exact r0 ⟨⟨z,A,by omega,by omega,rfl⟩,rfl,rfl⟩
theorem qj7 (c:Cat) (y:c.features.length<=1000000):Ok prog 309 [zO c] [] fun v d rs=>(∃ l:List Str,l.length<=1000000/\v=Wm l)/\d=[]/\rs=[]:=by
 refine oE func309 fun F C w=>?_;refine qb fun a x=>?_;refine qa ?_;refine qG Ty.mixed (by rfl) c.features.length (fun i S=>(∃ (l:List Str) (u:V),l.length<=i/\Le u (Wm l)/\S.σ 3=u)/\S.boxes=[(a,.c (qT c))]/\S.rows=[]/\S.σ 1=ptr a/\S.σ 4=vint i) ⟨0,?_⟩ (fun i S n ⟨⟨l,u,p,hu,h⟩,k,o,e,j⟩=>?_) (fun S ⟨⟨l,u,p,hu,h⟩,k,o,e,j⟩=>?_)
 ·refine qB ?_;exact⟨[],nilS,w3 _,Le.nil 1,rfl⟩
 ·have A:=qj n;simp only [↓rA,rU,k,e,h,j,zq,n,qs,simprocAttr];refine qF (Ok.le (.cons hu (.c1 .nil)) (Yw l _ (by omega))) ?_;rintro v d rs ⟨⟨q,z,rfl⟩,rfl,rfl⟩;refine qa ?_;refine⟨0,⟨q,_,by omega,Le.refl _,rfl⟩,?_⟩;rfl
 ·refine qn ?_;exact⟨_,[],[],hu,zn _,zn _,⟨l,by omega,rfl⟩,rfl,rfl⟩
def qd3 (l:List Ftr) (s:Str):Ftr × Bool:=match l with
 | []=>(ftr0,false)
 | x::r=>if x.name=s then (x,true) else qd3 r s
theorem qr6 {l:List Ftr} {s:Str}:(qd3 l s).2=true->(qd3 l s).1 ∈ l:=by
 induction l with
 | nil=>exact qD
 | cons x r a =>
  simp only [qd3];split
  ·simp
  simp_all
theorem qx7 {l:List Ftr} {s:Str}:(qd3 l s).2=false->(qd3 l s).1=ftr0:=by
 induction l with
 | nil=>intro _;rfl
 | cons x r a =>
  simp only [qd3];split
  ·simp
  omega
theorem qx5 (l:List Ftr) (s:Str) (x:l.length<=1000000):zk prog 376 [qm l,vstr s] (.tup [.agg (cFtr (qd3 l s).1),qq (qd3 l s).2]):=by
 refine oE func376 fun F z u=>?_;refine qb fun k w=>?_;refine qa ?_;refine qG Ty.mixed (by rfl) l.length (fun i S=>qd3 (l.drop i) s=qd3 l s/\S.boxes=[(k,.c zFt)]/\S.rows=[]/\S.σ 0=qm l/\S.σ 1=vstr s/\S.σ 4=ptr k/\S.σ 6=vint i) ⟨0,?_⟩ (fun i S e ⟨a,p,q,h,n,o,j⟩=>?_) (fun S ⟨a,p,q,h,n,o,j⟩=>?_)
 ·exact qD
 ·have y:=qj e;rw [qGt e,qd3] at a;simp only [↓rA,rU,h,n,j,zq,e,qs l[i],simprocAttr];by_cases d:l[i].name=s
  ·simp only [↓rA,rU,p,q,h,o,j,d,zq,e,qs l[i],simprocAttr];rw [if_pos d] at a;refine Yq (jf (.cons ?_ (.cons (by rw [<-a];exact Le.refl _) .nil)));rw [<-a];rw [qs,<-d];exact Le.refl _
  ·refine qa ?_;rw [if_neg d] at a;exact⟨0,a,rfl⟩
 ·refine qn ?_;rw [qFs (w3 _),qd3] at a;refine Yq (jf (.cons ?_ (.cons (by rw [<-a];exact Le.refl _) .nil)));rw [<-a];exact qw7
theorem qgo (c:Cat) (s:Str) (d:c.features.length<=1000000):zk prog 345 [zO c,vstr s] (.tup [.agg (cFtr (qd3 c.features s).1),qq (qd3 c.features s).2]):=by
 have a:=qx5 c.features s d;simp only [qs] at a ⊢;refine oE func345 fun F o e=>?_;refine qb fun h k=>?_;refine qb fun j n=>?_;refine qi _ a ?_;exact qe
theorem qqw (n:Nat) (c:Cat) (s:Str) (O:n<=1000000) (d:zD n c):Ok prog 310 [zO c,vstr s] [] fun v p rs=>(∃ l:List Str,l.length<=100000000/\v=Wm l)/\p=[]/\rs=[]:=by
 have M:=km d.lf O;have h:=fun s=>qgo c s M;have q:uh (qd3 c.features s).1.body/\kY (qd3 c.features s).1.body<=1000000:=by
  cases e:(qd3 c.features s).2
  ·rw [qx7 e];exact⟨qNl,by decide⟩
  ·have:=qr6 e;exact⟨(d.ff _ this).1.2,d.sf _ this⟩
 generalize K:(qd3 c.features s).1=t at q;have hd:=qgz t.body [] [] q.1 (by simp only [List.length_nil];omega) (by simp only [List.length_nil];omega);rw [vE,qY] at hd;have j:=h s;rw [K] at j;simp only [qs] at h j;refine Ok.of_exM [(7,1)] Ty.mixed func310 rfl (by simp) (by rfl) fun F W Q=>?_;refine qb fun k R=>?_;refine qi _ j ?_;refine qb fun o T=>?_;refine qW (Ok.le (.c1 (.cons (Le.nil 1) (.cons (Le.nil 1) .nil))) hd) ?_;rintro v p rs ⟨⟨a,b,I,J,rfl⟩,rfl,rfl⟩;simp only [List.length_nil] at I J;refine qa ?_;refine xo.nilRow 9 1 9 (by rfl) (by decide) ?_;refine KW Ty.mixed (by rfl) a.length (fun i S=>∃ y,(∃ l:List Str,l.length<=i/\S.σ 9=.list (some y) 1 (l.map fun s=>[vstr s]))/\S.rows=[⟨y,1,9⟩]/\S.boxes=[(o,.c (cF t t.body.hd (kI t.body.args))),(k,.c (qT c))]/\S.σ 2=ptr k/\S.σ 5=ptr o/\S.σ 7=Wm a/\S.σ 10=vint i) ⟨0,1,nilv,?_⟩ (fun i S L ⟨y,⟨l,N,C⟩,G,D,x,z,A,w⟩=>?_) (fun S ⟨y,⟨l,N,C⟩,G,D,x,z,A,w⟩=>?_)
 ·refine qB ?_;simp
 ·have U:=qj L;refine qn ?_;refine qt _ (h _).v ?_;cases (qd3 c.features a[i]).2
  ·refine qb fun u H=>?_;refine qa ?_;exact⟨1,1,y,⟨l,by omega,rfl⟩,rfl,rfl⟩
  ·refine qb fun u H=>?_;refine qn ?_;intro X;refine xf ?_;refine qa ?_;refine⟨(by omega),fun P=>?_⟩;exact⟨1,1,P,⟨l++[a[i]],by simp_all,by simp⟩,rfl,rfl⟩
 ·refine qn ?_;exact⟨_,[],[],Le.list _ _ _,zn _,zn _,⟨l,by omega,rfl⟩,rfl,rfl⟩
abbrev lK (y:Option Value) (g:List Nat):V:=.list y 1 (g.map fun(x:Nat)=>[vint (x:Int)])
theorem qlc (n:Nat) (c:Cat) (J:n<=1000000) (I:zD n c):Ok prog 265 [zO c] [] fun v o rs=>(∃ (l:List Str) (gs:List (List Nat)),l.length<=1000000/\gs.length=l.length/\(∀ g ∈ gs,g.length<=l.length/\∀ x ∈ g,x < l.length)/\v=.tup [Wm l,.list none 1 (gs.map fun g=>[lK none g])])/\o=[]/\rs=[]:=by
 have Q:=km I.lf J;refine Ok.of_exM [(6,2)] Ty.mixed func265 rfl (by simp) (by rfl) fun F Z U=>?_;refine qb fun k W=>?_;refine qW (qj7 c Q) ?_;rintro v o rs ⟨⟨l,R,rfl⟩,rfl,rfl⟩;refine qa ?_;refine xo.nilRow 5 1 82 (by rfl) (by decide) ?_;refine qF7 Ty.mixed (by rfl) l.length (fun i S=>(∃ (z:Value) (gs:List (List Nat)),gs.length=i/\(∀ g ∈ gs,g.length<=l.length/\∀ x ∈ g,x < l.length)/\S.σ 5=.list (some z) 1 (gs.map fun g=>[lK none g])/\S.rows=[⟨z,1,82⟩])/\S.boxes=[(k,.c (qT c))]/\S.σ 1=ptr k/\S.σ 4=Wm l/\S.σ 6=vint i) ⟨5,_,Le.refl _,_,_,zc _,zc _,?_⟩ (fun i S O ⟨⟨z,gs,C,D,u,h⟩,A,p,q,w⟩=>?_) (fun S ⟨⟨z,gs,C,D,u,h⟩,A,p,q,w⟩=>?_)
 ·refine qB ?_;simp
 ·have Y:=qj O;refine qn ?_;refine jQ (qqw n c l[i] J I) ?_;rintro v o rs ⟨⟨a,X,rfl⟩,rfl,rfl⟩;refine⟨rfl,?_⟩;simp only [↓rA,rB,reduceCtorEq,h];refine xo.nilRow 8 1 3 (by rfl) (by decide) ?_;refine vg Ty.mixed (by rfl) l.length (fun j S=>(∃ (y:Value) (g:List Nat),g.length<=j/\(∀ x ∈ g,x < l.length)/\S.σ 8=lK (some y) g/\S.rows=[⟨y,1,3⟩,⟨z,1,82⟩])/\S.boxes=[(k,.c (qT c))]/\S.σ 1=ptr k/\S.σ 4=Wm l/\S.σ 5=.list (some z) 1 (gs.map fun g=>[lK none g])/\S.σ 6=vint i/\S.σ 7=Wm a/\S.σ 9=vint j) ⟨_,_,zc _,zc _,?_⟩ (fun j S P ⟨⟨y,g,N,H,M,h⟩,A,p,q,u,w,L,G⟩=>?_) (fun S ⟨⟨y,g,N,H,M,h⟩,A,p,q,u,w,L,G⟩=>?_)
  ·refine qB ?_;simp
  ·have T:=qj P;refine qn ?_;refine qF (qDg a l[j] (by omega)) ?_;rintro v o rs ⟨⟨t,rfl⟩,rfl,rfl⟩;cases t
   ·simp only [↓rA,rB,Nat.reduceEqDiff,h,G,T];refine⟨_,_,zc _,zc _,?_⟩;refine qB ?_;exact⟨y,g,by omega,H,rfl,rfl⟩
   ·refine qa ?_;intro K;refine xf ?_;refine qa ?_;refine⟨(by omega),fun e=>?_⟩;refine⟨_,[⟨e,1,3⟩,⟨z,1,82⟩],zc _,?_,?_⟩
    ·exact List.Sublist.cons_cons _ (List.Sublist.cons _ (zc _))
    refine qB ?_;refine⟨e,g++[j],by simp_all,fun x d=>?_,by simp,rfl⟩;rcases z6.1 d with d | d
    ·simp_all
    simp_all
  ·refine qn ?_;intro K;refine ZJ (l1:=[⟨K,1,82⟩,⟨y,1,3⟩]) ?_;refine qa ?_;refine⟨(by omega),fun e=>?_⟩;refine⟨5,.list (some e) 1 ((gs++[g]).map fun g=>[lK none g]),?_,_,[⟨e,1,82⟩],zc _,List.Sublist.cons_cons _ (zn _),?_⟩
   ·refine qB ?_;rw [k8];exact Le.rows (LeR.append (LeR.same _) (.cons (.cons (Le.list _ _ _) .nil) .nil))
   refine qB ?_;refine⟨e,gs++[g],by simp [C],fun x d=>?_,rfl,rfl⟩;rcases z6.1 d with d | d
   ·exact D x d
   simp_all
 ·refine qn ?_;exact⟨_,[],[],jf (.c1 (.cons (Le.list _ _ _) .nil)),zn _,zn _,⟨l,gs,R,C,D,rfl⟩,rfl,rfl⟩
end Go.Proofs.YtkdgbjhbpbgdeaaGreatDoor
namespace Go.Lo
def yD (gs:List (List Nat)) (t:Nat) (d:List Int) (i k:Nat):Int :=
 let x:=(gs.getD i []).getD k 0
 if x=t then 1 else d.getD x 0+1
def Z1 (d:List Int):Nat:=match d with
 | []=>0
 | x::r=>x.toNat+Z1 r
structure VV (gs:List (List Nat)) (t:Nat) (d:List Int):Prop where
 len:d.length=gs.length
 lo:∀ i,i < gs.length->1<=d.getD i 0/\d.getD i 0<=1000
 wit:∀ i,i < gs.length->d.getD i 0=1000∨∃ k,k < (gs.getD i []).length/\yD gs t d i k<=d.getD i 0
def VQ (gs:List (List Nat)) (t:Nat) (d:List Int) (i:Nat):Prop:=∀ k,k < (gs.getD i []).length->d.getD i 0<=yD gs t d i k
variable {d:List Int} {i:Nat}
theorem qa1 {v:Int} (h:i < d.length):(d.set i v).getD i 0=v:=by
 simp_all
theorem qda {j:Nat} {v:Int} (h:i ≠ j):(d.set i v).getD j 0=d.getD j 0:=by
 simp_all
theorem qef:∀ {d:List Int} {i:Nat} {v:Int},i < d.length->0<=v->v < d.getD i 0->Z1 (d.set i v) < Z1 d
 | x::r,0,v,_,h0,hv=>by
  simp only [List.set_cons_zero,Z1];have:v < x:=hv;omega
 | x::r,i+1,v,hi,h0,hv=>by
  simp only [List.set_cons_succ,Z1];have:=qef (d:=r) (i:=i) (by simp_all) h0 (by simp_all);omega
theorem qhm {gs:List (List Nat)} {t:Nat} {j k:Nat} {v:Int} (h:v<=d.getD i 0) (a:i < d.length):yD gs t (d.set i v) j k<=yD gs t d j k:=by
 simp only [yD];split
 ·simp
 ·rename_i n;by_cases e:i=(gs.getD j []).getD k 0
  ·simp_all
  simp_all
theorem VV.step {gs:List (List Nat)} {t:Nat} (h:VV gs t d) {k:Nat} (a:i < gs.length) (u:k < (gs.getD i []).length) (y:∀ g ∈ gs,∀ x ∈ g,x < gs.length) (o:yD gs t d i k < d.getD i 0):VV gs t (d.set i (yD gs t d i k))/\Z1 (d.set i (yD gs t d i k)) < Z1 d:=by
 have hid:i < d.length:=by rw [h.len];exact a
 have C:1<=yD gs t d i k:=by
  simp only [yD];split
  ·simp
  ·have q:gs.getD i [] ∈ gs:=by
    rw [vk,yb a];exact zs a
   have z:(gs.getD i []).getD k 0 < gs.length:=y _ q _ (by
    simp_all)
   have:=(h.lo _ z).1;omega
 refine⟨⟨by rw [List.length_set];exact h.len,fun j n=>?_,fun j n=>?_⟩,qef hid (by omega) o⟩
 ·by_cases e:i=j
  ·subst e;rw [qa1 hid];have:=(h.lo i a).2;omega
  ·rw [qda e];exact h.lo j n
 ·by_cases e:i=j
  ·subst e;rw [qa1 hid];exact .inr ⟨k,u,qhm (qQb o) hid⟩
  ·rw [qda e];rcases h.wit j n with p | ⟨A,w,p⟩
   ·omega
   ·exact .inr ⟨A,w,qQw (qhm (qQb o) hid) p⟩
end Go.Lo
namespace Go.Proofs.YtkdgbjhbpbgdeaaGreatDoor
abbrev lG (gs:List (List Nat)):V:=.list none 1 (gs.map fun g=>[lK none g])
end Go.Proofs.YtkdgbjhbpbgdeaaGreatDoor
namespace Go.Lo
theorem qNn {gs:List (List Nat)} {t:Nat} {d:List Int} (e:d.length=gs.length) (h:∀ i,i < gs.length->d.getD i 0=1000):VV gs t d :=
 ⟨e,fun i a=>by simp_all,fun i a=>.inl (h i a)⟩
end Go.Lo
namespace Go.Proofs.YtkdgbjhbpbgdeaaGreatDoor
theorem qvx (n:Nat):(List.replicate n [vint 0]).flatten=(List.replicate n (0:Int)).map vint:=by
 simp
theorem qG7 {d:List Int} {x:Nat} (h:x < d.length):(d.map vint).drop (x * 1)=vint d[x]::(d.map vint).drop (x+1):=by
 rw [qPh,qGt (by simp_all),qQ0]
theorem qK5 {d:List Int} {i:Nat} (h:i < d.length) (v:Int):(d.map vint).take (i * 1)++[vint v]++(d.map vint).drop (i * 1+1)=(d.set i v).map vint:=by
 obtain⟨A,B,j,a,e⟩:=X4 h;rw [a,e,qE7 (by omega)]
theorem qg8 {d:List Int} {i:Nat} (h:i < d.length):d.getD i 0=d[i]:=by simp_all
theorem qei (gs:List (List Nat)) (t:Nat) (hN:gs.length<=1000000) (hr:∀ g ∈ gs,∀ x ∈ g,x < gs.length) (hg:∀ g ∈ gs,g.length<=gs.length):Ok prog 266 [lG gs,vint t] [] fun v R rs =>
  (∃ (y:Option Value) (d:List Int),v=lI y d/\VV gs t d/\∀ i,i < gs.length->VQ gs t d i)/\R=[]/\rs=[]:=by
 refine Ok.freeze (Q:=fun v R rs=>(∃ (b:Nat) (d:List Int),v=slI b gs.length gs.length/\R=[(b,.c (d.map vint))]/\VV gs t d/\∀ i,i < gs.length->VQ gs t d i)/\rs=[]) ?_ fun v R rs h=>?_
 case refine_2 =>
  obtain⟨⟨b,d,rfl,rfl,h1,h2⟩,rfl⟩:=h;refine .inr ⟨b,gs.length,gs.length,1,_,d.map fun x=>[vint x],[],_,zp _,?_,.here,⟨_,d,rfl,h1,h2⟩,rfl,rfl⟩;have:=WH (g:=b) (rest:=[]) h1.len (w3 _);simp_all
 refine oE func266 fun F w0 I0=>?_;simp only [↓rA,rU,Int.toNat_natCast,simprocAttr];refine⟨⟨by omega,by omega⟩,?_⟩;refine qX fun b hb=>?_;refine qa ?_;have ax:(List.replicate gs.length (List.map V.lit [Value.int IntKind.i64 0])).flatten=(List.replicate gs.length (0:Int)).map vint:=qvx _;have aw:gs.length * 8<=140737488355328:=by omega
 refine qG Ty.mixed (by rfl) gs.length (fun i S=>(∃ es:List Int,es.length=gs.length/\(∀ j,j < i->es.getD j 0=1000)/\S.boxes=[(b,.c (es.map vint))])/\S.rows=[]/\S.σ 0=lG gs/\S.σ 1=vint t/\S.σ 5=slI b gs.length gs.length/\S.σ 6=vint i) ⟨0,?_⟩ (fun i S p ⟨⟨es,he,aa,q⟩,D,w,z,C,g6⟩=>?_) (fun S ⟨⟨es,he,aa,q⟩,D,w,z,C,g6⟩=>?_)
 ·refine qB ?_;exact⟨List.replicate gs.length 0,by simp,fun j N=>absurd N (qOe j),by simp⟩
 ·have au:=qj p;have an:i < es.length:=by omega
  obtain⟨A,B,hA,e1,e2⟩:=X4 an;have aj:A.length=i * 1:=by omega
  rw [e1] at q;refine qn ?_;refine⟨by simp_all,0,es.set i 1000,by simp_all,fun j N=>?_,?_⟩
  ·by_cases e:i=j
   ·simp_all
   ·rw [qda e];exact aa j (by omega)
  ·rw [qNk,e2,qE7 aj]
 ·refine qn ?_;have Z:VV gs t es:=qNn he aa;refine jR Ty.mixed (by rfl) (fun x:List Int × Bool=>2 * Z1 x.1+bif x.2 then 1 else 0) (fun(x:List Int × Bool) S=>VV gs t x.1/\(x.2=false->∀ i,i < gs.length->VQ gs t x.1 i)/\S.boxes=[(b,.c (x.1.map vint))]/\S.rows=[]/\S.σ 0=lG gs/\S.σ 1=vint t/\S.σ 5=slI b gs.length gs.length/\S.σ 7=qq x.2) (es,true) ⟨0,?_⟩ (fun⟨d,n⟩ S ⟨Z,hF,q,D,w,z,C,M⟩=>?_)
  ·exact qD
  ·cases n
   ·refine qa ?_;exact⟨_,[_],[],Le.refl _,zc _,zn _,⟨b,d,rfl,rfl,Z,hF rfl⟩,rfl⟩
   ·refine qa ?_;refine qG Ty.mixed (by rfl) gs.length (fun i S=>∃ (a:List Int) (n:Bool),VV gs t a/\Z1 a<=Z1 d/\(n=true->Z1 a < Z1 d)/\(n=false->a=d/\∀ j,j < i->VQ gs t d j)/\S.boxes=[(b,.c (a.map vint))]/\S.rows=[]/\S.σ 0=lG gs/\S.σ 1=vint t/\S.σ 5=slI b gs.length gs.length/\S.σ 7=qq n/\S.σ 8=vint i) ⟨0,?_⟩ (fun i S p ⟨a,n,o,J,K,O,q,D,w,z,C,M,H⟩=>?_) (fun S ⟨a,n,o,J,K,O,q,D,w,z,C,M,H⟩=>?_)
    ·refine qB ?_;exact⟨d,false,Z,w3 _,(fun h=>by cases h),fun _=>⟨rfl,fun j N=>absurd N (qOe j)⟩,rfl,rfl⟩
    ·have au:=qj p;have ac:gs.getD i []=gs[i]:=by simp [vk,p]
     have ah:=zs p;have am:=hg _ ah;have ai:=hr _ ah;generalize ab:gs[i]=g at ac am ai;refine qn ?_;refine qG Ty.mixed (by rfl) g.length (fun k S=>∃ (a:List Int) (n:Bool),VV gs t a/\Z1 a<=Z1 d/\(n=true->Z1 a < Z1 d)/\(n=false->a=d/\(∀ j,j < i->VQ gs t d j)/\∀ u,u < k->d.getD i 0<=yD gs t d i u)/\S.boxes=[(b,.c (a.map vint))]/\S.rows=[]/\S.σ 0=lG gs/\S.σ 1=vint t/\S.σ 5=slI b gs.length gs.length/\S.σ 7=qq n/\S.σ 8=vint i/\S.σ 9=vint k) ⟨0,?_⟩ (fun k S G ⟨a,n,o,J,K,O,q,D,w,z,C,M,H,T⟩=>?_) (fun S ⟨a,n,o,J,K,O,q,D,w,z,C,M,H,T⟩=>?_)
     ·refine qB ?_;simp_all
     ·have ad:=qj G;have av:=zs G;have L:=ai _ av;generalize X:g[k]=x at L;have ae:x < a.length:=by rw [o.len];exact L
      have hid:i < a.length:=by rw [o.len];exact p
      have al:(gs.getD i []).getD k 0=x:=by rw [ac,<-X];simp [vk,G]
      have aq:=o.lo x L;have ap:=o.lo i p;rw [qg8 ae] at aq;rw [qg8 hid] at ap;have ar:IntKind.i64.wrap (a[x]+1)=a[x]+1:=qv (by omega) (by omega);have ag:k < (gs.getD i []).length:=by rw [ac];exact G
      have I:yD gs t a i k=if x=t then 1 else a[x]+1:=by
       simp only [yD];rw [al,qg8 ae]
      have af:¬ yD gs t a i k < a[i]->n=false->a=d/\(∀ j,j < i->VQ gs t d j)/\∀ u,u < k+1->d.getD i 0<=yD gs t d i u:=fun h ak=>by
       obtain⟨Y,q2,q3⟩:=O ak;refine⟨Y,q2,fun u ao=>?_⟩;by_cases e:u=k
       ·subst e;rw [<-Y,qg8 hid];omega
       ·exact q3 u (by omega)
      have F:=aI ar (aI (qG7 ae) (qG7 hid));by_cases ht:x=t
      ·have W:((x:Int)=(t:Int))=True:=eq_true (by omega);rw [if_pos ht] at I;by_cases U:1 < a[i]
       ·simp only [↓rA,rU,q,D,w,z,C,H,T,zq,p,G,L,ab,X,F,W,U,ad,o.len,simprocAttr];have P:=o.step p ag hr (by rw [I,qg8 hid];omega);rw [I] at P;refine⟨by omega,0,_,true,P.1,by omega,(fun _=>by omega),(fun h=>by cases h),?_,rfl⟩;rw [qNk,<-qK5 hid]
       ·simp only [↓rA,rU,q,D,w,z,C,M,H,T,zq,p,G,L,ab,X,F,W,U,ad,simprocAttr];exact⟨0,a,n,o,J,K,af (by omega),rfl,rfl⟩
      ·have W:((x:Int)=(t:Int))=False:=eq_false (by omega);rw [if_neg ht] at I;by_cases U:a[x]+1 < a[i]
       ·simp only [↓rA,rU,q,D,w,z,C,H,T,zq,p,G,L,ab,X,F,W,U,ad,o.len,simprocAttr];have P:=o.step p ag hr (by rw [I,qg8 hid];omega);rw [I] at P;refine⟨by omega,0,_,true,P.1,by omega,(fun _=>by omega),(fun h=>by cases h),?_,rfl⟩;rw [qNk,<-qK5 hid]
       ·refine qn ?_;exact⟨0,a,n,o,J,K,af (by omega),rfl,rfl⟩
     ·refine qn ?_;refine⟨0,a,n,o,J,K,fun h=>?_,rfl,rfl⟩;obtain⟨Y,q2,q3⟩:=O h;refine⟨Y,fun j N=>?_⟩;by_cases e:j=i
      ·subst e;exact fun u ao=>q3 u (by simp_all)
      ·exact q2 j (by omega)
    ·refine qn ?_;refine⟨(a,n),?_,0,o,fun h=>?_,rfl,rfl⟩
     ·cases n
      ·simp_all
      simp_all
     simp_all
end Go.Proofs.YtkdgbjhbpbgdeaaGreatDoor
namespace Go.Lo
variable {gs:List (List Nat)}
theorem VV.le {t:Nat} {d j:List Int} (h:VV gs t d) (o:VV gs t j) (p:∀ i,i < gs.length->VQ gs t j i) (q:∀ g ∈ gs,∀ x ∈ g,x < gs.length):∀ (n:Nat) (i:Nat),i < gs.length->d.getD i 0<=n->j.getD i 0<=d.getD i 0
 | 0,i,a,z=>by have:=(h.lo i a).1;omega
 | n+1,i,a,z=>by
  rcases h.wit i a with e | ⟨k,y,e⟩
  ·rw [e];exact(o.lo i a).2
  ·have u:=p i a k y;refine qQw u (qQw ?_ e);simp only [yD] at e ⊢;split
   ·simp
   ·rename_i A;rw [if_neg A] at e;have w:gs.getD i [] ∈ gs:=by
     rw [vk,yb a];exact zs a
    have C:(gs.getD i []).getD k 0 < gs.length:=q _ w _ (by
     simp_all)
    have:=VV.le h o p q n _ C (by omega);omega
theorem VV.eq {t:Nat} {d e:List Int} (h:VV gs t d) (j:VV gs t e) (n:∀ i,i < gs.length->VQ gs t d i) (o:∀ i,i < gs.length->VQ gs t e i) (k:∀ g ∈ gs,∀ x ∈ g,x < gs.length) {i:Nat} (a:i < gs.length):d.getD i 0=e.getD i 0 :=
 Int.le_antisymm (VV.le j h n k 1000 i a (j.lo i a).2) (VV.le h j o k 1000 i a (h.lo i a).2)
theorem VV.next {t:Nat} {d:List Int} (h:VV gs t d) (o:∀ i,i < gs.length->VQ gs t d i) {i:Nat} (e:i < gs.length) {m:Int} (p:0 < m) (q:m < 999) (hd:d.getD i 0=m+1):∃ k,k < (gs.getD i []).length/\d.getD ((gs.getD i []).getD k 0) 0=m:=by
 rcases h.wit i e with a | ⟨k,j,a⟩
 ·omega
 ·have n:=o i e k j;refine⟨k,j,?_⟩;simp only [yD] at a n;omega
end Go.Lo
namespace Go.Proofs.YtkdgbjhbpbgdeaaGreatDoor
theorem qy4 (n:Nat) (c:Cat) (hn:n<=1000000) (hk:zD n c):Ok prog 199 [zO c] [] fun v L rs=>(∃ l:List Str,l.length<=1001/\v=Wm l)/\L=[]/\rs=[]:=by
 refine oE func199 fun F w0 I0=>?_;refine qb fun U h1=>?_;refine qW (qlc n c hn hk) ?_;rintro v L rs ⟨⟨l,gs,aF,au,ah,rfl⟩,rfl,rfl⟩;have R:∀ g ∈ gs,∀ x ∈ g,x < gs.length:=fun g D x K=>by rw [au];exact(ah g D).2 x K
 have D:∀ g ∈ gs,g.length<=gs.length:=fun g D=>by simp_all
 have hN:gs.length<=1000000:=by omega
 clear ah;refine qa ?_;refine qG Ty.mixed (by rfl) l.length (fun i S=>((S.σ 5=vint (-1)/\S.σ 6=vint 1000)∨∃ (a:Nat) (m:Int) (d:List Int),a < gs.length/\VV gs a d/\(∀ i,i < gs.length->VQ gs a d i)/\d.getD a 0=m/\m < 1000/\S.σ 5=vint a/\S.σ 6=vint m)/\S.boxes=[(U,.c (qT c))]/\S.rows=[]/\S.σ 3=Wm l/\S.σ 4=lG gs/\S.σ 7=vint i) ⟨0,?_⟩ (fun i S hi ⟨I,H,u,o,p,X⟩=>?_) (fun S ⟨I,H,u,o,p,X⟩=>?_)
 ·exact qA
 ·have an:=qj hi;have aj:i < gs.length:=by omega
  refine qn ?_;refine qF (qei gs i hN R D) ?_;rintro v L rs ⟨⟨y,d,rfl,P,Y⟩,rfl,rfl⟩;have hid:i < d.length:=by rw [P.len];exact aj
  have aq:∃ m5 T:Int,T<=1000/\S.σ 5=vint m5/\S.σ 6=vint T:=by
   rcases I with⟨q1,q2⟩ | ⟨a,m,d,_,_,_,_,hm,q1,q2⟩
   ·simp_all
   ·exact⟨_,_,by omega,q1,q2⟩
  obtain⟨m5,T,aH,N,G⟩:=aq;rw [N,G] at I;by_cases am:d[i] < T
  ·simp only [↓rA,rU,u,o,p,G,X,zq,hid,am,an,simprocAttr];refine⟨0,.inr ⟨i,d[i],d,aj,P,Y,qg8 hid,by omega,rfl,rfl⟩,?_⟩;rfl
  ·simp only [↓rA,rU,u,o,p,N,G,X,zq,hid,am,an,simprocAttr];refine⟨0,I,?_⟩;rfl
 ·rcases I with⟨N,G⟩ | ⟨a,m,d,k,P,Y,hm,aG,N,G⟩
  ·refine qn ?_;exact⟨_,[],[],Le.nil 1,zn _,zn _,⟨[],by simp,rfl⟩,rfl,rfl⟩
  ·have aC:¬ (a:Int) < 0:=by omega
   refine qn ?_;refine qF (qei gs a hN R D) ?_;rintro v L rs ⟨⟨y,A,rfl,Q,ad⟩,rfl,rfl⟩;have ax:A.getD a 0=m:=by rw [<-hm];exact VV.eq Q P ad Y R k
   have aD:a < l.length:=by omega
   have ap:=(Q.lo a k).1;rw [ax] at ap;have aJ:IntKind.i64.wrap (m - 1)=(((m - 1).toNat:Nat):Int):=by rw [qv (by omega) (by omega)];omega
   refine qn ?_;intro y1;refine Qi Ty.mixed (by rfl) (fun x:Nat × Nat=>x.1) (fun(x:Nat × Nat) S=>x.2 < gs.length/\x.1<=998/\(0 < x.1->A.getD x.2 0=x.1+1)/\(∃ (z:Value) (w:List Str),w.length+x.1<=1000/\S.σ 10=.list (some z) 1 (w.map fun s=>[vstr s])/\S.rows=[⟨z,1,9⟩])/\S.boxes=[(U,.c (qT c))]/\S.σ 3=Wm l/\S.σ 4=lG gs/\S.σ 9=lI y A/\S.σ 11=vint x.2/\S.σ 12=vint x.1) ((m - 1).toNat,a) ⟨_,_,zc _,zc _,?_⟩ (fun⟨q,a⟩ S ⟨k,hq,ae,⟨z,w,hw,W,u⟩,H,o,p,O,M,C⟩=>?_)
   ·simp only [rU,o,p,simprocAttr];refine⟨k,by omega,fun _=>by omega,y1,[l[a]],by simp;omega,rfl,rfl⟩
   ·simp only at k hq ae hw M C;by_cases ay:0 < q
    case neg =>
     have aa:¬ (0:Int) < (q:Int):=by omega
     refine qa ?_;exact⟨_,[],[],Le.list _ _ _,zn _,zn _,⟨w,by omega,rfl⟩,rfl,rfl⟩
    have aa:(0:Int) < (q:Int):=by omega
    obtain⟨k0,ak,al⟩:=Q.next ad k (m:=(q:Int)) aa (by omega) (ae ay)
    have ar:gs.getD a []=gs[a]:=by simp [vk,k]
    have ag:=zs k;have ai:=R _ ag;have av:=D _ ag;rw [ar] at ak al;generalize af:gs[a]=g at ai ak al av;simp only [↓rA,rB,C,aa];refine jR Ty.mixed (by rfl) (fun j:Nat=>k0 - j) (fun j S=>j<=k0/\S.σ 10=.list (some z) 1 (w.map fun s=>[vstr s])/\S.rows=[⟨z,1,9⟩]/\S.boxes=[(U,.c (qT c))]/\S.σ 3=Wm l/\S.σ 4=lG gs/\S.σ 9=lI y A/\S.σ 11=vint a/\S.σ 12=vint q/\S.σ 13=vint j) 0 ⟨0,?_⟩ (fun j S ⟨hj,W,u,H,o,p,O,M,C,ac⟩=>?_)
    ·exact qA
     done
    ·have J:j < g.length:=by omega
     have az:=qj J;have aA:IntKind.i64.wrap ((q:Int) - 1)=((q - 1:Nat):Int):=by rw [qv (by omega) (by omega)];omega
     have K:=ai _ (zs J);have aw:g.getD j 0=g[j]:=by simp [vk,J]
     generalize ao:g[j]=x at K aw;have ab:x < A.length:=by rw [Q.len];exact K
     have aB:x < l.length:=by omega
     by_cases Z:A[x]=(q:Int)
     ·simp only [↓rA,rU,u,o,p,O,W,M,C,ac,zq,k,J,ab,aB,af,ao,Z,simprocAttr];intro y1;refine xf ?_;simp only [↓rA,rU,C,aA,simprocAttr];refine⟨(by omega),fun y2=>?_⟩;refine⟨(q - 1,x),by omega,_,[⟨y2,1,9⟩],zc _,List.Sublist.cons_cons _ (zn _),?_⟩;simp only [rU,H,o,p,O,simprocAttr];refine⟨K,by omega,fun h=>?_,y2,w++[l[x]],by simp;omega,by simp,rfl⟩
      ·rw [qg8 ab,Z];omega
     ·simp only [↓rA,rU,H,u,o,p,O,W,M,C,ac,zq,k,J,ab,af,ao,Z,az,simprocAttr];have aE:j ≠ k0:=fun e=>by
       simp_all
      exact⟨j+1,by omega,0,by omega,rfl,rfl⟩
theorem uI (m:Nat) (h:m<=100000000):IntKind.i64.wrap (((m+1:Nat):Int) - 1)=(m:Int):=by
 rw [qv (by omega) (by omega)];omega
theorem qed (c:Cat) (x:c.tables.length<=1000000):OkI prog 195 [zO c]:=by
 refine oE func195 fun F G p=>?_;refine qb fun a u=>?_;refine qa ?_;refine qG Ty.mixed (by kernel_rfl) c.tables.length (fun i S=>S.boxes=[(a,.c (qT c))]/\S.rows=[]/\S.σ 1=ptr a/\S.σ 3=vint i) ⟨0,?_⟩ (fun i S n ⟨j,h,d,e⟩=>?_) (fun S ⟨j,h,d,e⟩=>?_)
 ·exact qD
 ·have A:=qj n;refine qn ?_;refine qF (qpc _) ?_;rintro v q D ⟨⟨k,rfl⟩,rfl,rfl⟩;by_cases o:k=0
  case neg =>
   refine qa ?_;exact kF _ _ _
  rcases i with _ | m
  ·simp only [↓rA,rB,Int.reduceLT,Int.reduceToNat,Nat.reduceAdd,Nat.reduceEqDiff,h,d,e,o];exact⟨0,rfl,rfl⟩
  ·have y:m < c.tables.length:=by omega
   have C:=uI m (by omega);have z:(0:Int) < ((m+1:Nat):Int):=by omega
   refine qn ?_;apply qf <;> intro w
   ·refine qa ?_;exact kF _ _ _
   ·refine qa ?_;exact⟨0,rfl⟩
 ·refine qn ?_;exact kF _ _ _
theorem qd6 (n:Nat) (c:Cat) (d:n<=1000000) (a:zD n c):zk prog 196 [zO c] (qm (c.features++c.drafts++c.past)):=by
 have j:=km a.lf d;have k:=km a.ld d;have o:=km a.lp d;refine oE func196 fun F q e=>?_;refine qb fun h p=>?_;refine qa ?_;refine jS.l ?_;simp only [↓rA,rB,Nat.reduceAdd,Nat.reduceEqDiff,Nat.reduceLT,Nat.reduceMul,results196,tU,Nat.reduceShiftRight,Nat.reduceMod];intro u;refine⟨by simp only [zz];omega,fun w=>⟨by simp only [zz];omega,fun x=>⟨by simp only [zr,zz];omega,fun y=>⟨_,[],[],?_,zn _,zn _,rfl,rfl,rfl⟩⟩⟩⟩;rw [qm,k8,k8];exact Le.list _ _ _
theorem qv2 (f:Ftr) (e:QK f) (hb:zV f.body<=big):OkI prog 197 [.agg (cFtr f)]:=by
 have d:=UW f.body e.2 hb;simp only [vE,qY f.body,qs] at d ⊢;refine oE func197 fun F n h=>?_;refine qb fun j k=>?_;refine qa ?_
 repeat' (first
  | (refine qf (fun a=>?_) (fun a=>?_) <;> ((try refine qa ?_)))
  | (refine qE (fun a=>?_) (fun a=>?_) <;> ((try refine qa ?_)))
  | (refine zm (fun a=>?_) (fun a=>?_) <;> ((try refine qa ?_)))
  | (refine qo _ (zU _) ?_;try simp only [↓rA,rU,simprocAttr])
  | (refine qo _ (X1 _ _ _) ?_;try refine qa ?_)
  | (refine qo _ (d) ?_;try refine qa ?_)
  | exact kF _ _ _)
theorem ql5 (n:Nat) (c:Cat) (x:n<=1000000) (d:zD n c):OkI prog 120 [zO c]:=by
 have X:=km d.lf x;have Y:=km d.ld x;have Z:=km d.lp x;have O:=km d.lt x;refine Ok.of_exM [(25,2)] Ty.mixed func120 rfl (by simp) (by rfl) fun F w0 T=>?_;refine qb fun e hb=>?_;simp only [↓qJ,↓zx,↓zA,zw,qu,xY,List.toList_toArray,results120];rw [zu];by_cases q1:(16:Int) < c.tables.length
 ·refine qa ?_;exact kF _ _ _
 by_cases q2:(32:Int) < c.features.length
 ·refine qa ?_;exact kF _ _ _
 by_cases q3:(32:Int) < c.drafts.length
 ·refine qa ?_;exact kF _ _ _
 by_cases q4:(32:Int) < c.past.length
 ·refine qa ?_;exact kF _ _ _
 refine qW (qed c O) ?_;rintro v D I ⟨⟨k,rfl⟩,rfl,rfl⟩;by_cases G:k=0
 case neg =>
  refine qa ?_;exact kF _ _ _
 refine qi _ (qd6 n c x d) ?_;have H:∀ f ∈ c.features++c.drafts++c.past,QK f/\zV f.body<=big:=fun f o=>by
  rcases z6.1 o with o | o
  ·rcases z6.1 o with o | o
   ·exact d.ff f o
   ·exact d.fd f o
  ·exact d.fp f o
 have Q:(c.features++c.drafts++c.past).length<=96:=by
  simp only [zr];omega
 generalize ae:c.features++c.drafts++c.past=a at H Q;have af:IntKind.i64.wrap ((c.features.length:Int)+c.drafts.length)=(c.features.length:Int)+c.drafts.length:=qv (by omega) (by omega);refine qa ?_;refine qG Ty.mixed (by kernel_rfl) a.length (fun i S=>S.boxes=[(e,.c (qT c))]/\S.rows=[]/\S.σ 1=ptr e/\S.σ 4=qm a/\S.σ 5=vint ((c.features.length:Int)+c.drafts.length)/\S.σ 6=vint i) ⟨0,?_⟩ (fun i S p ⟨h,u,q,y,A,z⟩=>?_) (fun S ⟨h,u,q,y,A,z⟩=>?_)
 ·exact qD
 ·have R:=qj p;have C:=qv2 a[i] (H _ (zs p)).1 (H _ (zs p)).2;rw [qs] at C;simp only [↓rA,rU,h,y,z,zq,p,qs a[i],simprocAttr];refine qF C ?_;rintro v D I ⟨⟨k,rfl⟩,rfl,rfl⟩;by_cases G:k=0
  case neg =>
   refine qa ?_;exact kF _ _ _
  simp only [↓qJ,↓zx,↓zA,zw,qgx,Je,Vb,qu,kM,wz,kO,List.nil_append,wl,Int.toNat_natCast,u,G];rw [zu,zu];simp only [↓qdz,↓qd1,↓wh,↓qJ,↓zx,↓QH,↓ZG,zw,qu,kM,kO,xY,zP,YG,ZC,jq,eq_self,if_true,decide_true,qL3];rw [zu];refine xe (fun S=>S.boxes=[(e,.c (qT c))]/\S.rows=[]/\S.σ 1=ptr e/\S.σ 4=qm a/\S.σ 5=vint ((c.features.length:Int)+c.drafts.length)/\S.σ 6=vint i/\∃ t:Bool,(t=false->0 < i)/\S.σ 7=qq t) ?_ ?_
  ·rcases i with _ | m
   ·refine qa ?_;simp
   ·have U:¬ ((m+1:Nat):Int)=0:=by omega
    refine qa ?_
    repeat' (first
     | (refine zm (fun w=>?_) (fun w=>?_) <;> ((try refine qa ?_)))
     | simp)
  rintro S ⟨h,u,q,y,A,z,t,P,W⟩;rw [zu];refine xe (fun S=>S.boxes=[(e,.c (qT c))]/\S.rows=[]/\S.σ 1=ptr e/\S.σ 4=qm a/\S.σ 5=vint ((c.features.length:Int)+c.drafts.length)/\S.σ 6=vint i) ?_ ?_
  ·cases t
   ·obtain⟨m,rfl⟩:∃ m,i=m+1:=⟨i - 1,by have:=P rfl;omega⟩;have hm:m < a.length:=by omega
    have ah:=uI m (by omega);have c1:=qs a[m+1];have M:=qs a[m];cases aa:Op.bytesLess a[m+1].name.data.toList a[m].name.data.toList <;> by_cases ab:(((m+1:Nat):Int) < (c.features.length:Int)+c.drafts.length) <;> cases ac:decide (a[m+1].name=a[m].name) <;> simp only [↓rA,rU, *,zq,WR,simprocAttr]
    all_goals exact kF _ _ _
   ·exact kK
  rintro S ⟨h,u,q,y,A,z⟩;refine qa ?_;refine qG Ty.mixed (by kernel_rfl) i (fun j S=>S.boxes=[(e,.c (qT c))]/\S.rows=[]/\S.σ 1=ptr e/\S.σ 4=qm a/\S.σ 5=vint ((c.features.length:Int)+c.drafts.length)/\S.σ 6=vint i/\S.σ 8=vint j) ⟨0,?_⟩ (fun j S L ⟨h,u,q,y,A,z,N⟩=>?_) (fun S ⟨h,u,q,y,A,z,N⟩=>?_)
  ·exact qD
  ·have ag:=qj L;have ad:j < a.length:=qPs L p;have c1:=qs a[i];have M:=qs a[j];refine qn ?_
   repeat' (first
    | (refine qf (fun w=>?_) (fun w=>?_) <;> ((try refine qa ?_)))
    | (refine qE (fun w=>?_) (fun w=>?_) <;> ((try refine qn ?_)))
    | exact kF _ _ _
    | exact⟨0,rfl⟩
    )
  ·refine qn ?_;exact⟨0,rfl⟩
 ·refine qn ?_;refine qG Ty.mixed (by rfl) c.features.length (fun i S=>S.boxes=[(e,.c (qT c))]/\S.rows=[]/\S.σ 1=ptr e/\S.σ 9=vint i) ⟨0,?_⟩ (fun i S p ⟨h,u,q,J⟩=>?_) (fun S ⟨h,u,q,J⟩=>?_)
  ·exact qD
  ·have R:=qj p;have K:=d.ff _ (zs p);have C:=Jc n c c.features[i] x d K.1 K.2;rw [qs] at C;simp only [↓rA,rU,h,q,J,zq,p,qs c.features[i],simprocAttr];refine jQ C ?_;rintro v D I ⟨⟨k,rfl⟩,rfl,rfl⟩;refine⟨rfl,?_⟩;by_cases G:k=0
   case neg =>
    refine qa ?_;exact kF _ _ _
   refine qa ?_;exact⟨0,rfl⟩
  ·refine qn ?_;refine qF (qy4 n c x d) ?_;rintro v D I ⟨⟨l,hl,rfl⟩,rfl,rfl⟩;refine qa ?_;refine qf (fun w=>?_) (fun w=>?_) <;>
   ·refine qa ?_;exact kF _ _ _
open Go.Nv
def qTp (c:Cat):Prop:=XR c.features/\∀ f ∈ c.features,qih c f.body
def qm4 (es:List Ent):Prop:=∀ e ∈ es,e.2.2=qq true
theorem qm4.find {es:List Ent} (h:qm4 es) (k:Value):VL.findM es k=none∨VL.findM es k=some (qq true):=by
 unfold VL.findM;cases a:es.find? (fun e=>uG k e.2.1) with
 | none=>simp
 | some e=>exact .inr (by rw [qA4,h e (qOc a)])
theorem qm4.snoc {es:List Ent} (h:qm4 es) (n:Nat) (k:Value):qm4 (es++[(n,k,qq true)]):=fun e a=>by
 rcases z6.1 a with a | a
 ·exact h e a
 simp_all
abbrev mV (es:List Ent) (cl:Nat):B:=.m ([.s,.i .i64],true) es cl
theorem qun (c:Cat) (w:zD 32 c):OkI prog 132 [zO c]:=by
 refine oE func132 fun F w0 I0=>?_;refine qb fun H h1=>?_;refine qb fun q h3=>?_;refine qB ?_;intro y;have J:∀ l ∈ [c.features,c.drafts,c.past],l.length<=32/\∀ f ∈ l,QK f/\zV f.body<=big:=fun l O=>by
  simp only [xb,y8,or_false] at O;rcases O with rfl | rfl | rfl
  ·exact⟨w.lf,w.ff⟩
  ·exact⟨w.ld,w.fd⟩
  ·exact⟨w.lp,w.fp⟩
 have Q:[[qm c.features],[qm c.drafts],[qm c.past]]=[c.features,c.drafts,c.past].map fun l=>[qm l]:=rfl;have ae:[c.features,c.drafts,c.past].length=3:=rfl;generalize [c.features,c.drafts,c.past]=D at J Q ae;rw [Q];refine zI Ty.mixed (by rfl) 3 (fun i S=>∃ es a,qm4 es/\S.boxes=[(q,mV es a),(H,.c (qT c))]/\(∃ R,S.rows=R)/\S.σ 3=mp q/\S.σ 18=.list (some y) 1 (D.map fun l=>[qm l])/\S.σ 19=vint 3/\S.σ 20=vint i) ⟨_,_,_,_,zc _,zc _,zp _,zp _,?_⟩ (fun i S hi ⟨es,a,n,p,⟨R,u⟩,k,d,h,o⟩=>?_) (fun S ⟨es,a,n,p,⟨R,u⟩,k,d,h,o⟩=>?_)
 ·exact⟨[],0,(fun e n=>by cases n),rfl,⟨_,rfl⟩,by rfl,by rfl,by rfl,by rfl⟩
 ·have ai:=qj hi;have M:i < D.length:=by omega
  obtain⟨af,P⟩:=J _ (zs M);have ad:(i:Int) < 3:=by omega
  simp only [↓rA,rU,d,h,o,ad,zq,M,simprocAttr];generalize D[i]=l at af P;refine zI Ty.mixed (by kernel_rfl) l.length (fun j S=>∃ es a,qm4 es/\S.boxes=[(q,mV es a),(H,.c (qT c))]/\(∃ R,S.rows=R)/\S.σ 3=mp q/\S.σ 4=vint i/\S.σ 5=qm l/\S.σ 18=.list (some y) 1 (D.map fun l=>[qm l])/\S.σ 19=vint 3/\S.σ 20=vint i/\S.σ 25=qm l/\S.σ 26=vint l.length/\S.σ 27=vint j) ⟨_,_,_,_,zc _,zc _,zp _,zp _,?_⟩ (fun j S N ⟨es,a,n,p,⟨R,u⟩,k,A,C,d,h,o,x,z,G⟩=>?_) (fun S ⟨es,a,n,p,⟨R,u⟩,k,A,C,d,h,o,x,z,G⟩=>?_)
  ·exact⟨es,a,n,by exact qA,⟨_,rfl⟩,by exact qA,by rfl,by rfl,by exact qA,by exact qA,by exact qA,by rfl,by rfl,by rfl⟩
  ·have aj:=qj N;obtain⟨L,K⟩:=P _ (zs N);have c1:=qs l[j];refine qn ?_;generalize hf:l[j]=f at L K;refine qX fun I Y=>?_;refine qi _ (wW _) ?_;cases q1:zG f.name
   ·refine qa ?_;exact kF _ _ _
   refine qi _ (wW _) ?_;cases q2:zG f.entity
   ·refine qa ?_;exact kF _ _ _
   by_cases q3:f.version < 1
   ·refine qa ?_;exact kF _ _ _
   by_cases q4:1099511627776 < f.version
   ·refine qa ?_;exact kF _ _ _
   refine qi _ (X2 _ _ _) ?_;generalize kj f.typ.kind f.typ.unit f.typ.of=k5;by_cases q5:k5=0
   case neg =>
    refine qa ?_;exact kF _ _ _
   refine qa ?_;have T:=qet f.body L.2 K;rw [vE,qY] at T;refine qo _ T ?_;generalize wx f.body=k6;by_cases q6:k6=0
   case neg =>
    refine qa ?_;exact kF _ _ _
   simp only [↓qJ,↓zx,↓zA,zw,qu,kM,wB,wz,wO,jd,wT,kO,z7,Jx,List.nil_append,Int.toNat_natCast,u,q6];rw [zu];simp only [↓qdz,↓qd1,↓wh,↓qJ,↓zx,↓QH,↓ZG,zw,qu,kM,kO,xY,zP,YG,ZC,jq,eq_self,if_true,decide_true,qL3];rw [zu];refine xe (fun S=>S.boxes=[(I,.c (cFtr f)),(q,mV es a),(H,.c (qT c))]/\(∃ R,S.rows=R)/\S.σ 3=mp q/\S.σ 4=vint i/\S.σ 5=qm l/\S.σ 18=.list (some y) 1 (D.map fun l=>[qm l])/\S.σ 19=vint 3/\S.σ 20=vint i/\S.σ 25=qm l/\S.σ 26=vint l.length/\S.σ 27=vint j/\S.σ 7=ptr I) ?_ ?_
   ·rcases j with _ | m
    ·simp only [↓rA,rU,k,A,C,d,h,o,x,z,G,qs f,simprocAttr];simp
    ·have hm:m < l.length:=by omega
     have ag:=uI m (by omega);have hp:(0:Int) < ((m+1:Nat):Int):=by omega
     have U:=qs l[m];cases Z:Op.bytesLess f.name.data.toList l[m].name.data.toList <;> by_cases aa:(i:Int) < 2 <;> cases ab:decide (f.name=l[m].name) <;> simp only [↓rA,rU,k,A,C,d,h,o,x,z,G,ag,hp,zq,hm,U,qs f,Z,aa,ab,simprocAttr]
     all_goals first | exact kF _ _ _ | simp
   rintro S ⟨p,⟨R,u⟩,k,A,C,d,h,o,x,z,G,W⟩;simp only [↓rA,rU,p,u,W,qs f,simprocAttr];refine qX fun ah X=>?_;simp only [↓rA,rU,p,k,Y,X,qs f,simprocAttr];rcases n.find (.agg #[.string f.name,.int .i64 f.version]) with ac | ac
   ·refine qa ?_;exact⟨_,_,_,_,((zc _).cons _).cons _,zc _,zp _,zp _,_,a+1,n.snoc _ _,rfl,⟨_,rfl⟩,k,A,C,d,h,o,x,z,rfl⟩
   ·refine qa ?_;exact kF _ _ _
  ·refine qn ?_;exact lP ⟨es,a,n,p,⟨_,rfl⟩,k,d,h,rfl⟩
 ·have e3:¬ ((3:Nat):Int) < 3:=by decide
  refine qa ?_;exact kF _ _ _
theorem qtd (n:Nat) (c:Cat) (Q:n<=1000000) (o:zD n c):Ok prog 84 [zO c] [] fun v y rs=>(∃ k:Int,v=vint k/\(k=0->zD 32 c/\qTp c))/\y=[]/\rs=[]:=by
 have bad:∀ (k:Int) (X:Bx) (Y:List VL.Row),k ≠ 0->∃ v N Z,Le (vint k) v/\N.Sublist X/\Z.Sublist Y/\(∃ k:Int,v=vint k/\(k=0->zD 32 c/\qTp c))/\N=[]/\Z=[]:=fun k X Y h=>⟨_,[],[],Le.refl _,zn _,zn _,⟨k,rfl,fun e=>absurd e h⟩,rfl,rfl⟩;have h1:=km o.lf Q;have h4:=km o.lt Q;refine oE func84 fun F w0 I0=>?_;refine qb fun C hb=>?_;simp only [↓qJ,↓zx,↓zA,zw,qu,xY,List.toList_toArray,results84];rw [zu];by_cases A:(16:Int) < c.tables.length
 ·simp only [↓rA,rU,A,simprocAttr];exact bad _ _ _ (by decide)
 by_cases G:(32:Int) < c.features.length
 ·simp only [↓rA,rU,A,G,simprocAttr];exact bad _ _ _ (by decide)
 by_cases M:(32:Int) < c.drafts.length
 ·simp only [↓rA,rU,A,G,M,simprocAttr];exact bad _ _ _ (by decide)
 by_cases W:(32:Int) < c.past.length
 ·simp only [↓rA,rU,A,G,M,W,simprocAttr];exact bad _ _ _ (by decide)
 have P:zD 32 c:={ o with lt:=by omega,lf:=by omega,ld:=by omega,lp:=by omega };simp only [↓rA,rU,A,G,M,W,simprocAttr];refine zI Ty.mixed (by kernel_rfl) c.tables.length (fun i S=>S.boxes=[(C,.c (qT c))]/\(∃ R,S.rows=R)/\S.σ 1=ptr C/\S.σ 33=qR c.tables/\S.σ 34=vint c.tables.length/\S.σ 35=vint i) ⟨_,_,_,_,zc _,zc _,zp _,zp _,?_⟩ (fun i S u ⟨I,⟨R,a⟩,D,aa,ab,H⟩=>?_) (fun S ⟨I,⟨R,a⟩,D,aa,ab,H⟩=>?_)
 ·exact⟨by rfl,⟨_,rfl⟩,by rfl,by rfl,by rfl,by rfl⟩
 ·have K:=qj u;have w:=qpb c.tables[i] (o.ft _ (zs u));refine qn ?_;generalize ht:c.tables[i]=t at w;refine qX fun b4 h5=>?_;refine qW w ?_;rintro v y rs ⟨⟨k,rfl⟩,rfl,rfl⟩;by_cases j:k=0
  case neg =>
   simp only [↓rA,rU,a,j,simprocAttr];simp_all
  rcases i with _ | m
  ·simp only [↓rA,rU,a,H,j,simprocAttr];exact⟨_,_,_,_,(zc _).cons _,zc _,zp _,zp _,by refine qB ?_;simp_all⟩
  ·have hm:m < c.tables.length:=by omega
   have ah:=uI m (by omega);have T:(0:Int) < ((m+1:Nat):Int):=by omega
   refine qn ?_;apply qf <;> intro hc
   ·simp only [↓rA,rU,a,simprocAttr];simp_all
   ·simp only [↓rA,rU,a,H,K,simprocAttr];exact⟨_,_,_,_,(zc _).cons _,zc _,zp _,zp _,by refine qB ?_;simp⟩
 ·refine qn ?_;refine qF (qun c P) ?_;rintro v y rs ⟨⟨k,rfl⟩,rfl,rfl⟩;by_cases j:k=0
  case neg =>
   simp only [↓rA,rU,a,j,simprocAttr];simp_all
  simp only [↓rA,rU,a,D,j,simprocAttr];refine zI Ty.mixed (by rfl) c.features.length (fun i S=>(∀ f ∈ c.features.take i,qih c f.body)/\S.boxes=[(C,.c (qT c))]/\(∃ R,S.rows=R)/\S.σ 1=ptr C/\S.σ 66=qm c.features/\S.σ 67=vint c.features.length/\S.σ 68=vint i) ⟨_,_,_,_,zc _,zc _,zp _,zp _,?_⟩ (fun i S u ⟨q,I,⟨R,a⟩,D,ac,ad,O⟩=>?_) (fun S ⟨q,I,⟨R,a⟩,D,ac,ad,O⟩=>?_)
  ·exact⟨fun f d=>absurd d (by simp),by rfl,⟨_,rfl⟩,by exact qA,by rfl,by rfl,by rfl⟩
  ·have K:=qj u;obtain⟨af,ae⟩:=o.ff _ (zs u);have w:=Jb c c.features[i] h1 h4 (fun x L=>(o.ff x L).1) o.ft af ae;have c1:=qs c.features[i];rw [c1] at w;refine qn ?_;have z:qih c c.features[i].body->∀ f ∈ c.features.take (i+1),qih c f.body:=fun ha f d=>by
    rw [zt u] at d;rcases z6.1 d with d | d
    ·exact q f d
    ·rw [kl.1 d];exact ha
   generalize c.features[i]=f at w z;refine qX fun b8 h8=>?_;refine qW w ?_;rintro v y rs ⟨⟨k,rfl,J⟩,rfl,rfl⟩;by_cases j:k=0
   case neg =>
    clear J z q;simp only [↓rA,rU,a,j,simprocAttr];simp_all
   replace z:=z (J j);clear J q;simp only [↓rA,rU,a,O,j,K,simprocAttr];exact⟨_,_,_,_,(zc _).cons _,zc _,zp _,zp _,z,by refine qB ?_;simp⟩
  ·refine qn ?_;refine qF (qJt c (by omega) fun x L=>(o.ff x L).1.2) ?_;rintro v y rs ⟨⟨p,rfl,ag,T⟩,rfl,rfl⟩;by_cases U:(0:Int) < p.length
   ·clear q;simp only [↓rA,rU,a,U,simprocAttr];simp_all
   ·simp only [↓rA,rU,a,U,simprocAttr];exact r0 ⟨⟨0,rfl,fun _=>⟨P,T (qL2 (by omega)),fun f d=>q f (by rw [xa (w3 _)];exact d)⟩⟩,rfl,rfl⟩
variable {P:Program}
theorem uQ (w:World) (d O e:TypeId) (u:P.underlying d=some (.slice e)) (size:Nat) (x:∀ w,(Go.sizeOf e).run P w=.ok size w)
  (a b:Addr) (h A j C:Nat) (p:a.block ≠ b.block) (M N:TypeId) (y z:Nat) (K:w.shape? a.block=some (M,y+1)) (L:w.shape? b.block=some (N,z)) (n:∀ o,w.frozen? ⟨b.block,o,none⟩=false) (q:b.spot=none) :
  (Extern.SlicesOverlaps.overlaps #[d,d] #[O] #[.slice (some a) h A,.slice (some b) j C]).run P w=.ok (.bool false) w:=by
 have I:(a.block != b.block)=true:=by simpa using p
 have J:(a.block == b.block)=false:=by simpa using p
 have G:w.frozen? b=false:=by
  have:=n b.off;obtain⟨Q,R,S⟩:=b;simp only at q;subst q;exact this
 have H:=n z;change Sem.run P (α:=Value) (do
  let some t := (#[d, d] : Array TypeId)[0]? | stuck "slices.overlaps: no parameter types"
  let .slice elem ← underlying t | stuck "slices.overlaps: slice type expected"
  let size <-sizeOf elem
  match (some a:Option Addr),(some b:Option Addr) with
  | some a,some b =>
   if h=0∨j=0∨size=0 then pure (Value.bool false)
   else if a.block != b.block && (<-frozen a) && (<-frozen b) then unsupported .addressObserved
   else do
    if a.block != b.block then do
     noView a;noView b
     if ← mayBeOne a b then return Value.bool ((← choose (.extern "sameAddr.stringBytes" 2)) == 1)
    pure (Value.bool (a.block == b.block && a.off < b.off+j * size && b.off < a.off+h * size))
  | _,_=>pure (Value.bool false)) w=_
 by_cases k:h=0∨j=0∨size=0
 ·simp [run_underlying u,x,k]
 ·cases D:w.frozen? a <;> cases F:w.frozen? { block:=a.block,off:=y+1 } <;>
   simp [run_underlying u,x,k,I,J,frozen,noView,viewAt,mayBeOne,stringish,shape,Sem.run,K,L,G,H,D,F]
variable {n:Nat}
theorem qbh {S:St} {d:Option Nat} {t a:TypeId} {b o c:Nat} {A:IntKind} {j:Int} {K:St->Prop}
  (h:qk (qh (P.underlying t)) fun u=>zR u fun e=>qk (qh (P.underlying a)) fun x=>qK (qh (∃ q,x=.int q)) (qk (qh (zK P e)) fun k=>qk (qh (QN P e)) fun w=>qk (qh (kG P e)) fun z=>qk (qh (zF S.boxes b)) fun cs =>
   qK (qh ((0 < w/\0 < k/\z.length=k/\yx (z.map .lit)=true)/\0 < j/\o+n * k<=cs.length/\c < n+j.toNat/\(n+j.toNat) * w<=140737488355328))
    (ZH (qL S.boxes S.rows) (n+j.toNat) (fun p c'=>K ((S.addBox p ((cs.drop o).take (n * k)++zC ((c' - n) * k))).put d (.lit (.slice (some ⟨p,0,none⟩) (n+j.toNat) c')))) .mk))) :
  Xm P S d t a (.lit (.slice (some ⟨b,o,none⟩) n c)) (.lit (.int A j)) K:=by
 refine qtt _ _ _ _ _ _ _ _ _ _ _ _ ?_;simp only [qu,qK,ZH] at h;revert h;unfold qk;cases P.underlying t with
 | none=>simp
 | some u =>
  cases u <;> simp only [zR] <;> try simp
  cases P.underlying a with
  | none=>simp
  | some x =>
   simp only [];rintro⟨y,h⟩;refine⟨y,?_⟩;revert h;split <;> try simp
   split <;> try simp
   split <;> try simp
   split <;> try simp
   simp_all
theorem KR (a b:Nat):zC (a+b)=zC a++zC b:=by unfold zC;simp
theorem xZ (n:Nat):(zC n).length=n:=xC n
theorem kq {W:Nat}:∀ {es:List (List V)},(∀ e ∈ es,e.length=W)->es.flatten.length=es.length * W
 | [],_=>by simp
 | e::es,h=>by
  rw [qKs,zr,kq fun x a=>h x (z8 _ a),h e x6,qKg,uu];omega
theorem qkv (g:List V) (own:Option Value):Ok prog 273 [nilS,vint 0,.list own 18 [g]] [] fun v a rs=>rs=[]/\∃ b c,1<=c/\v=.lit (.slice (some ⟨b,0,none⟩) 1 c)/\a=[(b,.c (g++zC ((c - 1) * 18)))]:=by
 refine oE func273 fun F j e=>?_;simp only [↓rA,rB,Int.reduceToNat,Nat.reduceEqDiff,reduceCtorEq,tU,Nat.reduceShiftRight,Nat.reduceMod];simp only [↓rA,rB,Nat.reduceEqDiff,reduceCtorEq,show ¬ ((1:Nat):Int)=0 by decide,tU,Nat.reduceShiftRight,Nat.reduceMod];refine jS.r ?_;simp only [↓rA,rB,Nat.reduceAdd,Nat.reduceLT,Nat.reduceLeDiff,Nat.reduceMul,tU,Nat.reduceShiftRight,Nat.reduceMod];refine fun b c h d=>?_;refine qa ?_;exact⟨_,[_],[],Le.refl _,zc _,zn _,rfl,b,c,d,rfl,by simp⟩
theorem qkz (cs:List V) (n c a:Nat) (g:List V) (own:Option Value) (p:g.length=18) (j:cs.length=c * 18) (d:n<=c) (q:n<=10000000):Ok prog 273 [.lit (.slice (some ⟨a,0,none⟩) n c),vint n,.list own 18 [g]] [(a,.c cs)] fun v e rs=>rs=[]/\∃ b c',n+1<=c'/\v=.lit (.slice (some ⟨b,0,none⟩) (n+1) c')/\e=[(b,.c (cs.take (n * 18)++g++zC ((c' - (n+1)) * 18)))]:=by
 refine oE func273 fun F u k=>?_;simp only [↓rA,rB,Nat.reduceEqDiff,reduceCtorEq,tU,Nat.reduceShiftRight,Nat.reduceMod];refine⟨d,?_⟩;simp only [↓rA,rB,Nat.reduceEqDiff,reduceCtorEq,show ¬ ((1:Nat):Int)=0 by decide,tU,Nat.reduceShiftRight,Nat.reduceMod];refine jS.r ?_;simp only [↓rA,rB,Nat.reduceAdd,Nat.reduceLT,tU,Nat.reduceShiftRight,Nat.reduceMod];refine⟨⟨j,d,by omega⟩,fun b c' o h=>?_⟩;simp only [↓rA,rU,wo,simprocAttr];exact⟨_,[_],[],Le.refl _,zc _,zn _,rfl,b,c',h,rfl,by simp⟩
theorem Ug (S:St) (cs g:List V) (b o n c:Nat) (own:Option Value) (hb:zF S.boxes b=some cs) (M:g.length=18):qib prog S 313 [.list own 18 [g],.lit (.slice (some ⟨b,o,none⟩) n c)] (qq false):=by
 intro w I R J d
 match R,d with
 | [x,y],d =>
  simp only [V.reps,V.rep,and_true] at d;obtain⟨⟨_,a,C,rfl,_,N⟩,rfl⟩:=d;obtain⟨q,z,rfl,j⟩:=N.resolve_left (by simp)
  match g,M,j with
  | T::gr,_,j =>
   simp only [V.lies] at j;have j:=j.1;simp only [V.ats] at j;obtain⟨⟨U,p,K,_⟩,_⟩:=j;obtain⟨arr,e,G,_,_,H⟩:=J.bx _ (xq hb);have O:q ≠ b:=fun h=>H z (h▸K);have u:∃ t k,w.shape? q=some (t,k+1):=by
    unfold World.cell? at p;unfold World.shape?;split at p
    ·rename_i A D f0 F;rw [F];simp only [Option.isSome_none,kA,if_false] at p;have:=(vx.1 p).1;exact⟨D,A.size - 1,by simp only [qAo,qQl,true_and];omega⟩
    ·cases p
   obtain⟨t,k,u⟩:=u;have Q:w.shape? b=some (e.1,arr.size):=by unfold World.shape?; rw [G]
   have L:∀ o,w.frozen? ⟨b,o,none⟩=false:=fun o=>by unfold World.frozen?; simp_all
   refine⟨.bool false,w,?_,.inl rfl,by rfl⟩;rw [run_callFunc_extern func313 (by rfl) (by rfl) (by kernel_rfl) (e:=Extern.SlicesOverlaps.overlaps #[25,25] #[4]) (by kernel_rfl)];have:=uQ (P:=prog) w 25 4 43 (by rfl) 18 (fun w=>by rfl) ⟨q,z,none⟩ ⟨b,o,none⟩ 1 C n c O t e.1 k arr.size u Q L rfl;simp_all
 | [],d=>simp [V.reps] at d
 | [_],d=>simp [V.reps] at d
 | _::_::_::_,d=>simp [V.reps] at d
theorem qJj (cs g:List V) (i n c':Nat) (j:g.length=18) (k:i < n) (h:n * 18<=cs.length) (hc:n+1<=c') :
  List.take (i * 18) (List.take (i * 18) cs++zC ((c' - i) * 18))++List.take (min 1 (n+1 - i) * 18) [g].flatten++List.drop (i * 18+min 1 (n+1 - i) * 18) (List.take (i * 18) cs++zC ((c' - i) * 18))
   = List.take (i * 18) cs++g++zC ((c' - (i+1)) * 18):=by
 have a:(List.take (i * 18) cs).length=i * 18:=by rw [kB];omega
 have d:min 1 (n+1 - i)=1:=by omega
 have e:(c' - i) * 18=18+(c' - (i+1)) * 18:=by omega
 rw [d,qBf a,show [g].flatten=g by simp,xa (l:=g) (by omega),e,KR,show i * 18+1 * 18=i * 18+18 by omega,<-qK1,qK3 a,qK3 (xZ 18)]
theorem qJh (cs g:List V) (i n c':Nat) (j:g.length=18) (k:i < n) (h:n * 18<=cs.length) (hc:n+1<=c') :
  List.take ((i+1) * 18) (List.take (i * 18) cs++g++zC ((c' - (i+1)) * 18))++List.take (min (n - i) (n+1 - (i+1)) * 18) (List.take ((n - i) * 18) (List.drop (i * 18) cs))++List.drop ((i+1) * 18+min (n - i) (n+1 - (i+1)) * 18) (List.take (i * 18) cs++g++zC ((c' - (i+1)) * 18))
   = List.take (i * 18) cs++g++List.drop (i * 18) (List.take (n * 18) cs)++zC ((c' - (n+1)) * 18):=by
 have a:(List.take (i * 18) cs++g).length=(i+1) * 18:=by rw [zr,kB];omega
 have d:min (n - i) (n+1 - (i+1))=n - i:=by omega
 have e:(c' - (i+1)) * 18=(n - i) * 18+(c' - (n+1)) * 18:=by omega
 rw [d,qBf a,<-qK1,qK3 a,e,KR,qK3 (xZ _),qQf,show n * 18 - i * 18=(n - i) * 18 by omega,qOv,Nat.min_self]
theorem qCb (cs g:List V) (i n c:Nat) (j:g.length=18) (k:i < n) (h:cs.length=c * 18) (hc:n+1<=c) :
  List.take (i * 18) (List.take ((i+1) * 18) cs++List.take (min (n+1 - i) (n+1 - (i+1)) * 18) (List.take ((n+1 - i) * 18) (List.drop (i * 18) cs))++List.drop ((i+1) * 18+min (n+1 - i) (n+1 - (i+1)) * 18) cs)++List.take (min 1 (n+1 - i) * 18) [g].flatten ++
    List.drop (i * 18+min 1 (n+1 - i) * 18) (List.take ((i+1) * 18) cs++List.take (min (n+1 - i) (n+1 - (i+1)) * 18) (List.take ((n+1 - i) * 18) (List.drop (i * 18) cs))++List.drop ((i+1) * 18+min (n+1 - i) (n+1 - (i+1)) * 18) cs)
   = List.take (i * 18) cs++g++List.drop (i * 18) (List.take (n * 18) cs)++List.drop ((n+1) * 18) cs:=by
 have d:min (n+1 - i) (n+1 - (i+1))=n - i:=by omega
 have e:min 1 (n+1 - i)=1:=by omega
 have a:(List.take ((i+1) * 18) cs).length=(i+1) * 18:=by rw [kB];omega
 rw [d,e,show [g].flatten=g by simp,xa (l:=g) (by omega),jm (List.take ((i+1) * 18) cs),qPc (by omega),qOv,show min (i * 18) ((i+1) * 18)=i * 18 by omega,show i * 18+1 * 18=(i+1) * 18 by omega,qK3 a,qOv,show min ((n - i) * 18) ((n+1 - i) * 18)=(n - i) * 18 by omega,show (i+1) * 18+(n - i) * 18=(n+1) * 18 by omega,qQf,show n * 18 - i * 18=(n - i) * 18 by omega];simp
theorem qkx (cs:List V) (i n c h:Nat) (g:List V) (own:Option Value) (d:g.length=18) (z:cs.length=c * 18) (w:i < n) (A:n<=c) (U:n<=10000000):Ok prog 273 [.lit (.slice (some ⟨h,0,none⟩) n c),vint i,.list own 18 [g]] [(h,.c cs)] fun v D rs=>rs=[]/\∃ b c' rest,n+1<=c'/\v=.lit (.slice (some ⟨b,0,none⟩) (n+1) c')/\rest.length=(c' - (n+1)) * 18/\D=[(b,.c (cs.take (i * 18)++g++(cs.take (n * 18)).drop (i * 18)++rest))]:=by
 have I:¬ (i:Int)=(n:Int):=by omega
 have x:IntKind.i64.wrap ((n:Int)+((1:Nat):Int))=((n+1:Nat):Int):=by rw [qv (by omega) (by omega)];rfl
 have y:IntKind.i64.wrap ((i:Int)+((1:Nat):Int))=((i+1:Nat):Int):=by rw [qv (by omega) (by omega)];rfl
 have J:IntKind.i64.wrap (((n+1:Nat):Int) - (i:Int))=((n+1 - i:Nat):Int):=by rw [qv (by omega) (by omega)];omega
 refine oE func273 fun F W S=>?_;simp only [↓rA,rB,Nat.reduceEqDiff,reduceCtorEq,tU,Nat.reduceShiftRight,Nat.reduceMod];refine⟨by omega,?_⟩;simp only [↓rA,rB,Nat.reduceEqDiff,reduceCtorEq,show ¬ ((1:Nat):Int)=0 by decide,I,x,tU,Nat.reduceShiftRight,Nat.reduceMod];refine⟨A,?_⟩;by_cases G:c < n+1
 ·have u:((c:Int) < ((n+1:Nat):Int)):=by omega
  have o:¬ c=0:=by omega
  have e:¬ c=i:=by omega
  have a:i+(n+1 - i)=n+1:=by omega
  have p:(0:Int) < ((n+1 - i:Nat):Int):=by omega
  have q:i<=c:=by omega
  have P:i * 18<=cs.length:=by omega
  have Q:c < n+1:=G;have R:(n+1) * 248<=140737488355328:=by omega
  simp only [↓rA,rB,Nat.reduceEqDiff,Nat.reduceMul,reduceCtorEq,results273,u,x,J,o,e,q,tU,Nat.reduceShiftRight,Nat.reduceMod];refine qbh ?_;simp only [rB,Nat.reduceAdd,Nat.reduceLT,a,p,P,Q,R,TypeDesc.int.injEq,exists_eq',tU,Nat.reduceShiftRight,Nat.reduceMod];refine fun C c' j k=>?_;replace j:=zS j
  try simp only [Nb] at j
  have X:¬ c'=0:=by omega
  have K:¬ c'=i:=by omega
  have L:¬ c'=i+1:=by omega
  have M:i<=n+1:=by omega
  have N:i<=n:=by omega
  have O:i+1<=n+1:=by omega
  simp only [rB,Nat.reduceEqDiff,reduceCtorEq,j,e,a,K,L,M,N,O,A,k,y];have T:(List.take (i * 18) cs++zC ((c' - i) * 18)).length=c' * 18:=by rw [zr,kB,xZ];omega
  refine⟨by omega,by omega,?_⟩;rw [qJj cs g i n c' d w (by omega) k];refine⟨?_,?_⟩
  ·rw [zr,zr,kB,xZ,d];omega
  ·refine⟨_,[_],[],Le.refl _,List.Sublist.cons_cons _ (zn _),zn _,rfl,C,c',_,k,rfl,xZ _,?_⟩;rw [qJh cs g i n c' d w (by omega) k]
 ·have u:¬ ((c:Int) < ((n+1:Nat):Int)):=by omega
  have o:¬ c=0:=by omega
  have e:¬ c=i:=by omega
  have a:n+1<=c:=by omega
  have p:¬ c=i+1:=by omega
  have q:i<=n:=by omega
  simp only [↓rA,rB,Nat.reduceAdd,Nat.reduceEqDiff,Nat.reduceLeDiff,Nat.reduceMul,reduceCtorEq,u,x,y,o,e,a,p,q,tU,Nat.reduceShiftRight,Nat.reduceMod];refine QL _ (Ug _ cs g h _ _ _ own (by exact qA) d) ?_;simp only [↓rA,rB,Nat.reduceEqDiff,Nat.reduceLeDiff,reduceCtorEq,results273,y,o,e,a,p,q,tU,Nat.reduceShiftRight,Nat.reduceMod];refine⟨by omega,by omega,by omega,by omega,?_⟩;have H:min (n+1 - i) (n+1 - (i+1))=n - i:=by omega
  refine⟨?_,?_⟩
  ·rw [H];simp only [zr,kB,qA8];omega
  ·refine⟨_,[_],[],Le.refl _,zc _,zn _,rfl,h,c,cs.drop ((n+1) * 18),a,rfl,by rw [qA8,z];omega,?_⟩;rw [qCb cs g i n c d w z a]
theorem qDc (cs:List V) (i n c a:Nat) (g:List V) (own:Option Value) (j:g.length=18) (e:cs.length=c * 18) (w:i<=n) (k:n<=c) (o:n<=10000000):Ok prog 273 [.lit (.slice (some ⟨a,0,none⟩) n c),vint i,.list own 18 [g]] [(a,.c cs)] fun v d rs=>rs=[]/\∃ b c' rest,n+1<=c'/\v=.lit (.slice (some ⟨b,0,none⟩) (n+1) c')/\rest.length=(c' - (n+1)) * 18/\d=[(b,.c (cs.take (i * 18)++g++(cs.take (n * 18)).drop (i * 18)++rest))]:=by
 rcases qNb i n with h | h
 ·exact qkx cs i n c a g own j e h k o
 ·obtain rfl:i=n:=qQa w h;refine Ok.mono (qkz cs i c a g own j e k o) fun v d rs ⟨p,b,c',q,u,x⟩=>⟨p,b,c',_,q,u,xZ _,?_⟩;simp_all
theorem qku (g:List V) (own:Option Value):Ok prog 201 [nilS,vint 0,.list own 4 [g]] [] fun v a rs=>rs=[]/\∃ b c,1<=c/\v=.lit (.slice (some ⟨b,0,none⟩) 1 c)/\a=[(b,.c (g++zC ((c - 1) * 4)))]:=by
 refine oE func201 fun F j e=>?_;simp only [↓rA,rB,Int.reduceToNat,Nat.reduceEqDiff,reduceCtorEq,tU,Nat.reduceShiftRight,Nat.reduceMod];simp only [↓rA,rB,Nat.reduceEqDiff,reduceCtorEq,show ¬ ((1:Nat):Int)=0 by decide,tU,Nat.reduceShiftRight,Nat.reduceMod];refine jS.r ?_;simp only [↓rA,rB,Nat.reduceAdd,Nat.reduceLT,Nat.reduceLeDiff,Nat.reduceMul,tU,Nat.reduceShiftRight,Nat.reduceMod];refine fun b c h d=>?_;refine qa ?_;exact⟨_,[_],[],Le.refl _,zc _,zn _,rfl,b,c,d,rfl,by simp⟩
theorem qky (cs:List V) (n c a:Nat) (g:List V) (own:Option Value) (p:g.length=4) (j:cs.length=c * 4) (d:n<=c) (q:n<=10000000):Ok prog 201 [.lit (.slice (some ⟨a,0,none⟩) n c),vint n,.list own 4 [g]] [(a,.c cs)] fun v e rs=>rs=[]/\∃ b c',n+1<=c'/\v=.lit (.slice (some ⟨b,0,none⟩) (n+1) c')/\e=[(b,.c (cs.take (n * 4)++g++zC ((c' - (n+1)) * 4)))]:=by
 refine oE func201 fun F u k=>?_;simp only [↓rA,rB,Nat.reduceEqDiff,reduceCtorEq,tU,Nat.reduceShiftRight,Nat.reduceMod];refine⟨d,?_⟩;simp only [↓rA,rB,Nat.reduceEqDiff,reduceCtorEq,show ¬ ((1:Nat):Int)=0 by decide,tU,Nat.reduceShiftRight,Nat.reduceMod];refine jS.r ?_;simp only [↓rA,rB,Nat.reduceAdd,Nat.reduceLT,tU,Nat.reduceShiftRight,Nat.reduceMod];refine⟨⟨j,d,by omega⟩,fun b c' o h=>?_⟩;simp only [↓rA,rU,wo,simprocAttr];exact⟨_,[_],[],Le.refl _,zc _,zn _,rfl,b,c',h,rfl,by simp⟩
theorem Uf (S:St) (cs g:List V) (b o n c:Nat) (own:Option Value) (hb:zF S.boxes b=some cs) (M:g.length=4):qib prog S 268 [.list own 4 [g],.lit (.slice (some ⟨b,o,none⟩) n c)] (qq false):=by
 intro w I R J d
 match R,d with
 | [x,y],d =>
  simp only [V.reps,V.rep,and_true] at d;obtain⟨⟨_,a,C,rfl,_,N⟩,rfl⟩:=d;obtain⟨q,z,rfl,j⟩:=N.resolve_left (by simp)
  match g,M,j with
  | T::gr,_,j =>
   simp only [V.lies] at j;have j:=j.1;simp only [V.ats] at j;obtain⟨⟨U,p,K,_⟩,_⟩:=j;obtain⟨arr,e,G,_,_,H⟩:=J.bx _ (xq hb);have O:q ≠ b:=fun h=>H z (h▸K);have u:∃ t k,w.shape? q=some (t,k+1):=by
    unfold World.cell? at p;unfold World.shape?;split at p
    ·rename_i A D f0 F;rw [F];simp only [Option.isSome_none,kA,if_false] at p;have:=(vx.1 p).1;exact⟨D,A.size - 1,by simp only [qAo,qQl,true_and];omega⟩
    ·cases p
   obtain⟨t,k,u⟩:=u;have Q:w.shape? b=some (e.1,arr.size):=by unfold World.shape?; rw [G]
   have L:∀ o,w.frozen? ⟨b,o,none⟩=false:=fun o=>by unfold World.frozen?; simp_all
   refine⟨.bool false,w,?_,.inl rfl,by rfl⟩;rw [run_callFunc_extern func268 (by rfl) (by rfl) (by kernel_rfl) (e:=Extern.SlicesOverlaps.overlaps #[24,24] #[4]) (by kernel_rfl)];have:=uQ (P:=prog) w 24 4 47 (by rfl) 4 (fun w=>by rfl) ⟨q,z,none⟩ ⟨b,o,none⟩ 1 C n c O t e.1 k arr.size u Q L rfl;simp_all
 | [],d=>simp [V.reps] at d
 | [_],d=>simp [V.reps] at d
 | _::_::_::_,d=>simp [V.reps] at d
theorem qJi (cs g:List V) (i n c':Nat) (j:g.length=4) (k:i < n) (h:n * 4<=cs.length) (hc:n+1<=c') :
  List.take (i * 4) (List.take (i * 4) cs++zC ((c' - i) * 4))++List.take (min 1 (n+1 - i) * 4) [g].flatten++List.drop (i * 4+min 1 (n+1 - i) * 4) (List.take (i * 4) cs++zC ((c' - i) * 4))
   = List.take (i * 4) cs++g++zC ((c' - (i+1)) * 4):=by
 have a:(List.take (i * 4) cs).length=i * 4:=by rw [kB];omega
 have d:min 1 (n+1 - i)=1:=by omega
 have e:(c' - i) * 4=4+(c' - (i+1)) * 4:=by omega
 rw [d,qBf a,show [g].flatten=g by simp,xa (l:=g) (by omega),e,KR,show i * 4+1 * 4=i * 4+4 by omega,<-qK1,qK3 a,qK3 (xZ 4)]
theorem qJg (cs g:List V) (i n c':Nat) (j:g.length=4) (k:i < n) (h:n * 4<=cs.length) (hc:n+1<=c') :
  List.take ((i+1) * 4) (List.take (i * 4) cs++g++zC ((c' - (i+1)) * 4))++List.take (min (n - i) (n+1 - (i+1)) * 4) (List.take ((n - i) * 4) (List.drop (i * 4) cs))++List.drop ((i+1) * 4+min (n - i) (n+1 - (i+1)) * 4) (List.take (i * 4) cs++g++zC ((c' - (i+1)) * 4))
   = List.take (i * 4) cs++g++List.drop (i * 4) (List.take (n * 4) cs)++zC ((c' - (n+1)) * 4):=by
 have a:(List.take (i * 4) cs++g).length=(i+1) * 4:=by rw [zr,kB];omega
 have d:min (n - i) (n+1 - (i+1))=n - i:=by omega
 have e:(c' - (i+1)) * 4=(n - i) * 4+(c' - (n+1)) * 4:=by omega
 rw [d,qBf a,<-qK1,qK3 a,e,KR,qK3 (xZ _),qQf,show n * 4 - i * 4=(n - i) * 4 by omega,qOv,Nat.min_self]
theorem qCa (cs g:List V) (i n c:Nat) (j:g.length=4) (k:i < n) (h:cs.length=c * 4) (hc:n+1<=c) :
  List.take (i * 4) (List.take ((i+1) * 4) cs++List.take (min (n+1 - i) (n+1 - (i+1)) * 4) (List.take ((n+1 - i) * 4) (List.drop (i * 4) cs))++List.drop ((i+1) * 4+min (n+1 - i) (n+1 - (i+1)) * 4) cs)++List.take (min 1 (n+1 - i) * 4) [g].flatten ++
    List.drop (i * 4+min 1 (n+1 - i) * 4) (List.take ((i+1) * 4) cs++List.take (min (n+1 - i) (n+1 - (i+1)) * 4) (List.take ((n+1 - i) * 4) (List.drop (i * 4) cs))++List.drop ((i+1) * 4+min (n+1 - i) (n+1 - (i+1)) * 4) cs)
   = List.take (i * 4) cs++g++List.drop (i * 4) (List.take (n * 4) cs)++List.drop ((n+1) * 4) cs:=by
 have d:min (n+1 - i) (n+1 - (i+1))=n - i:=by omega
 have e:min 1 (n+1 - i)=1:=by omega
 have a:(List.take ((i+1) * 4) cs).length=(i+1) * 4:=by rw [kB];omega
 rw [d,e,show [g].flatten=g by simp,xa (l:=g) (by omega),jm (List.take ((i+1) * 4) cs),qPc (by omega),qOv,show min (i * 4) ((i+1) * 4)=i * 4 by omega,show i * 4+1 * 4=(i+1) * 4 by omega,qK3 a,qOv,show min ((n - i) * 4) ((n+1 - i) * 4)=(n - i) * 4 by omega,show (i+1) * 4+(n - i) * 4=(n+1) * 4 by omega,qQf,show n * 4 - i * 4=(n - i) * 4 by omega];simp
theorem qkw (cs:List V) (i n c h:Nat) (g:List V) (own:Option Value) (d:g.length=4) (z:cs.length=c * 4) (w:i < n) (A:n<=c) (U:n<=10000000):Ok prog 201 [.lit (.slice (some ⟨h,0,none⟩) n c),vint i,.list own 4 [g]] [(h,.c cs)] fun v D rs=>rs=[]/\∃ b c' rest,n+1<=c'/\v=.lit (.slice (some ⟨b,0,none⟩) (n+1) c')/\rest.length=(c' - (n+1)) * 4/\D=[(b,.c (cs.take (i * 4)++g++(cs.take (n * 4)).drop (i * 4)++rest))]:=by
 have I:¬ (i:Int)=(n:Int):=by omega
 have x:IntKind.i64.wrap ((n:Int)+((1:Nat):Int))=((n+1:Nat):Int):=by rw [qv (by omega) (by omega)];rfl
 have y:IntKind.i64.wrap ((i:Int)+((1:Nat):Int))=((i+1:Nat):Int):=by rw [qv (by omega) (by omega)];rfl
 have J:IntKind.i64.wrap (((n+1:Nat):Int) - (i:Int))=((n+1 - i:Nat):Int):=by rw [qv (by omega) (by omega)];omega
 refine oE func201 fun F W S=>?_;simp only [↓rA,rB,Nat.reduceEqDiff,reduceCtorEq,tU,Nat.reduceShiftRight,Nat.reduceMod];refine⟨by omega,?_⟩;simp only [↓rA,rB,Nat.reduceEqDiff,reduceCtorEq,show ¬ ((1:Nat):Int)=0 by decide,I,x,tU,Nat.reduceShiftRight,Nat.reduceMod];refine⟨A,?_⟩;by_cases G:c < n+1
 ·have u:((c:Int) < ((n+1:Nat):Int)):=by omega
  have o:¬ c=0:=by omega
  have e:¬ c=i:=by omega
  have a:i+(n+1 - i)=n+1:=by omega
  have p:(0:Int) < ((n+1 - i:Nat):Int):=by omega
  have q:i<=c:=by omega
  have P:i * 4<=cs.length:=by omega
  have Q:c < n+1:=G;have R:(n+1) * 64<=140737488355328:=by omega
  simp only [↓rA,rB,Nat.reduceEqDiff,Nat.reduceMul,reduceCtorEq,results201,u,x,J,o,e,q,tU,Nat.reduceShiftRight,Nat.reduceMod];refine qbh ?_;simp only [rB,Nat.reduceAdd,Nat.reduceLT,a,p,P,Q,R,TypeDesc.int.injEq,exists_eq',tU,Nat.reduceShiftRight,Nat.reduceMod];refine fun C c' j k=>?_;replace j:=zS j
  try simp only [Nb] at j
  have X:¬ c'=0:=by omega
  have K:¬ c'=i:=by omega
  have L:¬ c'=i+1:=by omega
  have M:i<=n+1:=by omega
  have N:i<=n:=by omega
  have O:i+1<=n+1:=by omega
  simp only [rB,Nat.reduceEqDiff,reduceCtorEq,j,e,a,K,L,M,N,O,A,k,y];have T:(List.take (i * 4) cs++zC ((c' - i) * 4)).length=c' * 4:=by rw [zr,kB,xZ];omega
  refine⟨by omega,by omega,?_⟩;rw [qJi cs g i n c' d w (by omega) k];refine⟨?_,?_⟩
  ·rw [zr,zr,kB,xZ,d];omega
  ·refine⟨_,[_],[],Le.refl _,List.Sublist.cons_cons _ (zn _),zn _,rfl,C,c',_,k,rfl,xZ _,?_⟩;rw [qJg cs g i n c' d w (by omega) k]
 ·have u:¬ ((c:Int) < ((n+1:Nat):Int)):=by omega
  have o:¬ c=0:=by omega
  have e:¬ c=i:=by omega
  have a:n+1<=c:=by omega
  have p:¬ c=i+1:=by omega
  have q:i<=n:=by omega
  simp only [↓rA,rB,Nat.reduceAdd,Nat.reduceEqDiff,Nat.reduceLeDiff,Nat.reduceMul,reduceCtorEq,u,x,y,o,e,a,p,q,tU,Nat.reduceShiftRight,Nat.reduceMod];refine QL _ (Uf _ cs g h _ _ _ own (by exact qA) d) ?_;simp only [↓rA,rB,Nat.reduceEqDiff,Nat.reduceLeDiff,reduceCtorEq,results201,y,o,e,a,p,q,tU,Nat.reduceShiftRight,Nat.reduceMod];refine⟨by omega,by omega,by omega,by omega,?_⟩;have H:min (n+1 - i) (n+1 - (i+1))=n - i:=by omega
  refine⟨?_,?_⟩
  ·rw [H];simp only [zr,kB,qA8];omega
  ·refine⟨_,[_],[],Le.refl _,zc _,zn _,rfl,h,c,cs.drop ((n+1) * 4),a,rfl,by rw [qA8,z];omega,?_⟩;rw [qCa cs g i n c d w z a]
theorem qC8 (cs:List V) (i n c a:Nat) (g:List V) (own:Option Value) (j:g.length=4) (e:cs.length=c * 4) (w:i<=n) (k:n<=c) (o:n<=10000000):Ok prog 201 [.lit (.slice (some ⟨a,0,none⟩) n c),vint i,.list own 4 [g]] [(a,.c cs)] fun v d rs=>rs=[]/\∃ b c' rest,n+1<=c'/\v=.lit (.slice (some ⟨b,0,none⟩) (n+1) c')/\rest.length=(c' - (n+1)) * 4/\d=[(b,.c (cs.take (i * 4)++g++(cs.take (n * 4)).drop (i * 4)++rest))]:=by
 rcases qNb i n with h | h
 ·exact qkw cs i n c a g own j e h k o
 ·obtain rfl:i=n:=qQa w h;refine Ok.mono (qky cs i c a g own j e k o) fun v d rs ⟨p,b,c',q,u,x⟩=>⟨p,b,c',_,q,u,xZ _,?_⟩;simp_all
variable {es:List (List V)} {W:Nat}
theorem Vq (h:∀ e ∈ es,e.length=W) (i:Nat) (d:i<=es.length) (rest:List V):(es.flatten++rest).take (i * W)=(es.take i).flatten:=by
 have j:(es.take i).flatten.length=i * W:=by rw [kq fun e a=>h e (qAq a),kB,qKt d]
 conv=>lhs;rw [<-qBq i es,qK0,jm]
 simp_all
theorem Vr (h:∀ e ∈ es,e.length=W) (i:Nat) (d:i<=es.length) (rest:List V):(es.flatten++rest).drop (i * W)=(es.drop i).flatten++rest:=by
 have j:(es.take i).flatten.length=i * W:=by rw [kq fun e a=>h e (qAq a),kB,qKt d]
 conv=>lhs;rw [<-qBq i es,qK0,jm]
 simp_all
theorem qE4 (j:∀ e ∈ es,e.length=W) (i:Nat) (k:i < es.length) (rest:List V):(List.take (i * W) (es.flatten++rest)++List.take ((es.length - (i+1)) * W) (List.drop ((i+1) * W) (es.flatten++rest))++List.drop (i * W+(es.length - (i+1)) * W) (es.flatten++rest)).length=(es.flatten++rest).length:=by
 have d:(es.flatten++rest).length=es.length * W+rest.length:=by rw [zr,kq j]
 have a:(i+1) * W=i * W+W:=by rw [uu,qOo]
 have h:es.length * W=i * W+W+(es.length - (i+1)) * W:=by rw [<-a,<-uu];congr 1;omega
 rw [zr,zr,kB,kB,qA8,qA8,d,a,h];omega
theorem qy1 (a:∀ e ∈ es,e.length=W) (i:Nat) (h:i < es.length) (rest Y:List V):(List.take (i * W) (es.flatten++rest)++List.take ((es.length - (i+1)) * W) (List.drop ((i+1) * W) (es.flatten++rest))++Y).take ((es.length - 1) * W)=(es.take i++es.drop (i+1)).flatten:=by
 have j:((es.drop (i+1)).flatten).length=(es.length - (i+1)) * W:=by rw [kq fun e d=>a e (qEu d),qA8]
 have k:((es.take i).flatten).length=i * W:=by rw [kq fun e d=>a e (qAq d),kB,qKt (qO9 h)]
 rw [Vq a i (qO9 h),Vr a (i+1) h,qBf j,<-qK0];refine qBf ?_;rw [qK0,zr,j,k,<-uu];congr 1;omega
theorem qoh {c b:Nat} {F Z:List V} (k:Z.take ((n - 1) * W)=F) (h:Z.length=c * W) (j:1<=n) (o:n<=c):∃ a:List V,a.length=(c - (n - 1)) * W/\[(b,B.c (Z.take ((n - 1) * W)++zC (1 * W)++Z.drop ((n - 1) * W+1 * W)))]=[(b,B.c (F++a))]:=by
 refine⟨zC (1 * W)++Z.drop ((n - 1) * W+1 * W),?_,by simp_all⟩;have d:c * W=(n - 1) * W+1 * W+(c - n) * W:=by rw [<-uu,<-uu];congr 1;omega
 have e:(c - (n - 1)) * W=1 * W+(c - n) * W:=by rw [<-uu];congr 1;omega
 rw [zr,xZ,qA8,h,d,e];omega
abbrev slB (b n c:Nat):V:=.lit (.slice (some ⟨b,0,none⟩) n c)
theorem qSg:(∀ (es:List (List V)) (j:∀ e ∈ es,e.length=18) (hd:es.length<=10000000),Ok prog 274 [.list none 18 es] [] fun v h rs=>rs=[]/\((es=[]/\v=nilS/\h=[])∨∃ b c rest,es.length<=c/\rest.length=(c - es.length) * 18/\v=slB b es.length c/\h=[(b,.c (es.flatten++rest))]))/\∀ (es:List (List V)) (j:∀ e ∈ es,e.length=4) (hd:es.length<=10000000),Ok prog 202 [.list none 4 es] [] fun v h rs=>rs=[]/\((es=[]/\v=nilS/\h=[])∨∃ b c rest,es.length<=c/\rest.length=(c - es.length) * 4/\v=slB b es.length c/\h=[(b,.c (es.flatten++rest))]):=by
 constructor
 all_goals
  intro es j hd
  match es,j,hd with
  | [],_,_ =>
   refine Ok.list0 (fun c=>?_) fun p c=>?_
   ·first | refine oE func274 fun F k a=>?_ | refine oE func202 fun F k a=>?_
    refine qa ?_;exact r0 ⟨rfl,.inl ⟨rfl,rfl⟩⟩
   ·first | refine oE func274 fun F k a=>?_ | refine oE func202 fun F k a=>?_
    refine qa ?_;refine jS.r ?_;refine qb fun n u=>?_;refine qB ?_;refine jS.l ?_;refine qa ?_;exact⟨_,[_],[],Le.refl _,zc _,zn _,rfl,.inr ⟨n,0,[],rfl,rfl,rfl⟩⟩
  | x::d,j,hd =>
   have z:=kq j;simp only [List.length_cons] at hd
   first | refine oE func274 fun F k a=>?_ | refine oE func202 fun F k a=>?_
   refine qa ?_;refine jS.r ?_;refine qb fun n u=>?_;refine qB ?_;refine jS.r ?_;refine qa ?_;refine⟨⟨rfl,by omega⟩,fun o q w y=>?_⟩;simp only [wo,J0,decide_true,qL3,kA,if_false,List.filter_nil] at w ⊢;refine qB ?_;exact⟨_,[_],[],Le.refl _,zc _,zn _,rfl,o,q,_,y,xZ _,rfl,rfl⟩
def qa7:=qSg.1
def qta:=qSg.2
theorem qE6 (es:List (List V)) (u:∀ e ∈ es,e.length=18) (hd:es.length<=10000000) (i:Nat) (y:i < es.length) (b c:Nat) (hc:es.length<=c) (rest:List V) (O:rest.length=(c - es.length) * 18) :
  Ok prog 275 [slB b es.length c,vint i,vint (i+1:Nat)] [(b,.c (es.flatten++rest))] fun v C rs=>rs=[]/\v=slB b (es.length - 1) c/\∃ A,A.length=(c - (es.length - 1)) * 18/\C=[(b,.c ((es.take i++es.drop (i+1)).flatten++A))]:=by
 have J:=kq u;have M:¬ (i:Int)=((i+1:Nat):Int):=by omega
 refine oE func275 fun F S Q=>?_;simp only [↓rA,rU,M,simprocAttr];refine⟨by omega,by omega,by omega,by omega,by omega,by omega,jS.l ?_⟩;have w:¬ c=0:=by omega
 have q:i+(es.length - (i+1))=es.length - 1:=by omega
 have z:es.length - 1<=c:=by omega
 have N:i<=c:=by omega
 have k:(((i+1:Nat):Int)).toNat=i+1:=by omega
 have o:(es.flatten++rest).length=c * 18:=by rw [zr,J,O,<-uu];omega
 have G:(i+1) * 18+(es.length - (i+1)) * 18<=(es.flatten++rest).length:=by rw [o,<-uu];omega
 have d:=qE4 u i y rest;have p:=qy1 u i y rest (List.drop (i * 18+(es.length - (i+1)) * 18) (es.flatten++rest));rw [o] at d;have P:es.length - (es.length - 1)=1:=by omega
 have I:¬ c=es.length - 1:=by omega
 by_cases a:c=i+1
 ·have L:i<=c:=by omega
  have D:es.length - (i+1)=0:=by omega
  have H:(i+1) * 18<=(es.flatten++rest).length:=by rw [o,a];exact w3 _
  have R:es.length - 1=i:=by omega
  have x:es.length=i+1:=by omega
  rw [D,qRr,List.take_zero,wl,qRw] at d p;have j:=qoh (b:=b) p d (by omega) hc;have n:i+1 - i=1:=by omega
  have K:¬ i+1=i:=by omega
  subst a;rw [x,qQn,n,qOo] at j;rw [x] at q z ⊢;simp only [↓rA,rU,w,k,L,qRt,H,n,simprocAttr];refine⟨fun h=>absurd h (by decide),fun _=>?_⟩;simp only [↓rA,rU,k,qRt,n,K,simprocAttr];refine⟨by omega,?_⟩;exact⟨_,[_],[],Le.refl _,zc _,zn _,rfl,rfl,j⟩
 ·have j:=qoh (b:=b) p d (by omega) hc;simp only [↓rA,rU,w,q,z,a,k,N,G,simprocAttr];refine⟨by omega,by omega,by omega,?_⟩;refine qB ?_;refine⟨fun h=>absurd h (by decide),fun _=>?_⟩;simp only [↓rA,rU,w,q,a,k,P,I,simprocAttr];refine⟨by omega,?_⟩;exact⟨_,[_],[],Le.refl _,zc _,zn _,rfl,rfl,j⟩
theorem Ok.boxP {f:FuncId} {args:List V} {k:Nat} {j:Bx} {p:List (List V)->Prop} (o:∀ es,p es->∀ e ∈ es,e.length=k) (h:Ok P f args j fun v a rs=>rs=[]/\∃ es,p es/\((es=[]/\v=nilS/\a=[])∨∃ b c rest,es.length<=c/\v=slB b es.length c/\a=[(b,.c (es.flatten++rest))])):Ok P f args j fun v a rs=>(∃ es,p es/\v=.list none k es)/\a=[]/\rs=[]:=by
 refine Ok.norows' (Q:=fun v a rs=>a=[]/\rs=[]/\∃ es,p es/\((es=[]/\v=nilS)∨∃ y,v=.list (some y) k es)) (Ok.freeze h fun v a rs h=>?_) fun v a rs h=>?_
 ·obtain⟨rfl,es,d,⟨n,rfl,rfl⟩ | ⟨b,c,rest,q,rfl,rfl⟩⟩:=h
  ·simp_all
  ·exact .inr ⟨b,es.length,c,k,_,es,[],_,zp _,⟨qBf (kq (o es d)),o es d,rfl,q⟩,.here,rfl,rfl,es,d,.inr ⟨_,rfl⟩⟩
 ·obtain⟨rfl,rfl,es,d,⟨n,rfl⟩ | ⟨y,rfl⟩⟩:=h
  ·exact⟨.list none k es,[],[],by rw [n];exact Le.nil k,zn _,zn _,⟨es,d,rfl⟩,rfl,rfl⟩
  ·exact⟨.list none k es,[],[],Le.list _ _ _,zn _,zn _,⟨es,d,rfl⟩,rfl,rfl⟩
theorem Ok.boxL {f:FuncId} {args:List V} {k:Nat} (q:∀ e ∈ es,e.length=k) (h:Ok P f args [] fun v a rs=>rs=[]/\((es=[]/\v=nilS/\a=[])∨∃ b c rest,es.length<=c/\v=slB b es.length c/\a=[(b,.c (es.flatten++rest))])):zk P f args (.list none k es) :=
 Ok.mono (Ok.boxP (p:=fun x=>x=es) (fun _ h=>h▸q) (Ok.mono h fun v a rs ⟨d,j⟩=>⟨d,es,rfl,j⟩)) fun v a rs ⟨⟨_,d,j⟩,n,o⟩=>⟨d▸j,n,o⟩
theorem Qb (l:List Ftr):∀ e ∈ l.map cFtr,e.length=18:=fun e a=>by
 obtain⟨f,_,rfl⟩:=x9.1 a;rfl
theorem qx6 (x:Ftr) (s:Str) (b:Nat):Ok prog 270 [.agg (cFtr x),ptr b] [(b,.c [vstr s])] fun v a rs=>v=qq (decide (x.name=s))/\a=[(b,.c [vstr s])]/\rs=[]:=by
 rw [qs];refine oE func270 fun F j d=>?_;refine qb fun e h=>?_;refine qa ?_;exact⟨_,[_],[],Le.refl _,List.Sublist.cons _ (zc _),zn _,rfl,rfl,rfl⟩
theorem u5 (l:List Ftr) (s:Str) (n:l.length<=1000000):Ok prog 203 [qm l,vstr s] [] fun v d rs=>(v=vint (-1)∨∃ m:Nat,m < l.length/\v=vint m)/\d=[]/\rs=[]:=by
 have h:zg prog 270=true:=by kernel_rfl
 refine oE func203 fun F o j=>?_;refine qb fun a k=>?_;refine qa ?_;refine qr [_] [] (zp _) (Wp l _ a [vstr s] (fun x=>decide (x.name=s)) h (fun x _=>qx6 x s a) (by unfold big;omega)) ?_;rintro v d rs ⟨⟨_,rfl⟩ | ⟨i,e,_,_,rfl⟩,rfl,rfl⟩
 ·refine qa ?_;exact r0 ⟨.inl rfl,rfl,rfl⟩
 ·refine qa ?_;exact r0 ⟨.inr ⟨i,e,rfl⟩,rfl,rfl⟩
theorem Xo.idx {α:Type} {p:α->Bool} {l:List α} {v:V} (h:Xo p l v):(v=vint (-1)/\l.findIdx p=l.length)∨(v=vint (l.findIdx p)/\l.findIdx p < l.length):=by
 rcases h with⟨h,rfl⟩ | ⟨i,j,a,d,rfl⟩
 ·simp_all
 ·have e:l.findIdx p=i:=(List.findIdx_eq j).2 ⟨a,d⟩;simp_all
theorem Zc (l:List Ftr) (i:Nat) (a:i < l.length) (u:l.length<=1000000):zk prog 206 [qm l,vint i] (qm (l.take i++l.drop (i+1))):=by
 have n:=qj a;have j:((l.take i++l.drop (i+1)).map cFtr).length=(l.map cFtr).length - 1:=by
  rw [zz,zr,kB,qA8,zz];omega
 refine Ok.boxL (Qb _) ?_;refine oE func206 fun F x q=>?_;refine qa ?_;refine qr [] [] (zp _) (qa7 (l.map cFtr) (Qb l) (by rw [zz];omega)) ?_;rintro v e p ⟨rfl,⟨d,_⟩ | ⟨b,c,rest,h,k,rfl,rfl⟩⟩
 ·rw [qPj] at d;rw [d] at a;exact absurd a (qOe _)
 ·simp only [↓rA,rB,simprocAttr,n,tU];refine qr [_] [] (zp _) (qE6 (l.map cFtr) (Qb l) (by rw [zz];omega) i (by simp_all) b c h rest k) ?_;rintro v e p ⟨rfl,rfl,o,w,rfl⟩;simp only [↓rA,rB,simprocAttr,results206];exact⟨_,[_],[],Le.refl _,zc _,zn _,rfl,.inr ⟨b,c,o,by omega,by rw [j],by simp⟩⟩
abbrev gtF (y x:Ftr):Bool:=!(Op.bytesLess x.name.data.toList y.name.data.toList || decide (x.name=y.name))
theorem qB9 (x y:Ftr) (b:Nat):Ok prog 272 [.agg (cFtr x),ptr b] [(b,.c (cFtr y))] fun v a rs=>v=qq (gtF y x)/\a=[(b,.c (cFtr y))]/\rs=[]:=by
 rw [qs x,qs y];refine oE func272 fun F j d=>?_;refine qb fun e h=>?_;refine qa ?_;exact⟨_,[_],[],Le.refl _,List.Sublist.cons _ (zc _),zn _,rfl,rfl,rfl⟩
abbrev insAt (l:List Ftr) (k:Nat) (f:Ftr):List Ftr:=l.take k++f::l.drop k
abbrev ClQ (es:List (List V)) (v:V) (X:Bx) (W:Nat):Prop:=(es=[]/\v=nilS/\X=[])∨∃ b c rest,es.length<=c/\rest.length=(c - es.length) * W/\v=slB b es.length c/\X=[(b,.c (es.flatten++rest))]
abbrev qAp (es:List (List V)) (k:Nat) (g:List V) (W:Nat) (v:V) (X:Bx):Prop:=∃ b c rest,es.length+1<=c/\v=slB b (es.length+1) c/\X=[(b,.c ((es.take k++g::es.drop k).flatten++rest))]
theorem qam (a:∀ e ∈ es,e.length=W) {k:Nat} (d:k<=es.length) (g rest h:List V):(es.flatten++rest).take (k * W)++g++((es.flatten++rest).take (es.length * W)).drop (k * W)++h=(es.take k++g::es.drop k).flatten++h:=by
 rw [Vq a k d,qBf (kq a)];have j:=Vr a k d [];simp_all
theorem qDd (es:List (List V)) (q:∀ e ∈ es,e.length=18) (hd:es.length<=1000000) (k:Nat) (p:k<=es.length) (g:List V) (z:g.length=18) (own:Option Value) {v:V} {X:Bx} (h:ClQ es v X 18):Ok prog 273 [v,vint k,.list own 18 [g]] X fun v a rs=>qAp es k g 18 v a/\rs=[]:=by
 rcases h with⟨rfl,rfl,rfl⟩ | ⟨b,c,rest,x,A,rfl,rfl⟩
 ·obtain rfl:k=0:=by simp_all
  refine Ok.mono (qkv g own) fun v a rs ⟨d,b,c,j,n,o⟩=>⟨⟨b,c,zC ((c - 1) * 18),j,n,by simp_all⟩,d⟩
 ·have y:(es.flatten++rest).length=c * 18:=by rw [zr,kq q,A,<-uu];omega
  refine Ok.mono (qDc (es.flatten++rest) k es.length c b g own z y p x (by omega)) fun v a rs ⟨d,u,w,C,j,n,_,o⟩=>⟨⟨u,w,C,j,n,?_⟩,d⟩;rw [o,qam q p]
theorem qC9 (es:List (List V)) (q:∀ e ∈ es,e.length=4) (hd:es.length<=1000000) (k:Nat) (p:k<=es.length) (g:List V) (z:g.length=4) (own:Option Value) {v:V} {X:Bx} (h:ClQ es v X 4):Ok prog 201 [v,vint k,.list own 4 [g]] X fun v a rs=>qAp es k g 4 v a/\rs=[]:=by
 rcases h with⟨rfl,rfl,rfl⟩ | ⟨b,c,rest,x,A,rfl,rfl⟩
 ·obtain rfl:k=0:=by simp_all
  refine Ok.mono (qku g own) fun v a rs ⟨d,b,c,j,n,o⟩=>⟨⟨b,c,zC ((c - 1) * 4),j,n,by simp_all⟩,d⟩
 ·have y:(es.flatten++rest).length=c * 4:=by rw [zr,kq q,A,<-uu];omega
  refine Ok.mono (qC8 (es.flatten++rest) k es.length c b g own z y p x (by omega)) fun v a rs ⟨d,u,w,C,j,n,_,o⟩=>⟨⟨u,w,C,j,n,?_⟩,d⟩;rw [o,qam q p]
def qMf (l:List Ftr) (f:Ftr) (a k:Nat) (L:Nat->Bool) (S:St):Prop :=
 S.σ 0=qm l/\S.σ 3=ptr a/\S.σ 5=vint k/\(L 0=true->S.σ 13=qm l)/\(L 2=true->S.σ 15=vint k)/\(L 3=true->S.σ 16=.agg (cFtr f))/\(L 4=true->∃ y,S.σ 17=.list y 18 [cFtr f]) /\
 (∃ X,(S.boxes=X++[(a,.c (cFtr f))]/\a ∉ X.map (·.1))/\((L 1=false/\L 5=false/\X=[])∨(L 1=true/\L 5=false/\ClQ (l.map cFtr) (S.σ 14) X 18)∨(L 1=true/\L 5=true/\qAp (l.map cFtr) k (cFtr f) 18 (S.σ 18) X/\(L 6=true->S.σ 4=S.σ 18))))/\(L 6=true->L 5=true)
theorem Ke (l:List Ftr) (f:Ftr) (hl:l.length<=1000000):zk prog 205 [qm l,.agg (cFtr f)] (qm (insAt l (l.findIdx (gtF f)) f)):=by
 have k1:zg prog 272=true:=by kernel_rfl
 refine Ok.boxL (Qb _) ?_;have c1:=qs f;rw [c1];refine Ok.of_exM [(4,3)] Ty.mixed func205 rfl (by simp) (by rfl) fun F w0 I0=>?_;refine qb fun A h3=>?_;refine qa ?_;refine qr [(A,.c (cFtr f))] [] (zp _) (Wp l _ A (cFtr f) (gtF f) k1 (fun x _=>qB9 x f A) (by unfold big;omega)) ?_;rintro v K U ⟨hv,rfl,rfl⟩;obtain⟨z,rfl,P⟩:∃ z:Int,v=vint z/\((z=-1/\l.findIdx (gtF f)=l.length)∨(z=(l.findIdx (gtF f):Nat)/\l.findIdx (gtF f) < l.length)):=(Xo.idx (p:=gtF f) (l:=l) hv).elim (fun h=>⟨_,h.1,.inl ⟨rfl,h.2⟩⟩) (fun h=>⟨_,h.1,.inr ⟨rfl,h.2⟩⟩);have Q:l.findIdx (gtF f)<=l.length:=P.elim (fun h=>Nat.le_of_eq h.2) fun h=>qO9 h.2;generalize l.findIdx (gtF f)=k at P Q ⊢;simp only [↓qJ,↓zx,↓zA,zw,qu,kM,wz,wO,QJ,kO,wl,List.toList_toArray,results205];rw [zu];refine xe (fun S=>S.boxes=[(A,.c (cFtr f))]/\S.rows=[]/\S.σ 0=qm l/\S.σ 3=ptr A/\S.σ 5=vint k) ?_ ?_
 ·rcases P with⟨rfl,rfl⟩ | ⟨rfl,N⟩
  ·exact kK
  ·have q:¬ (k:Int) < 0:=by omega
   exact kK
 rintro S ⟨j,gr,g0,g3,g5⟩;simp only [↓rA,rB,simprocAttr];have R:=Qb l;have aa:k<=(l.map cFtr).length:=by rw [zz];exact Q
 refine yp Ty.mixed (by rfl) (by rfl) (qMf l f A k) ?_ ?_ ?_
 ·exact⟨by omega,by omega,by omega,nofun,nofun,nofun,nofun,⟨[],⟨by simp_all,by simp⟩,.inl ⟨rfl,rfl,rfl⟩⟩,nofun⟩
 ·intro L S i o1 d G I ⟨u,o,w,f0,f2,f3,f4,⟨X,⟨j,C⟩,n⟩,f6⟩
  match i,d with
  | 0,d =>
   cases d;refine qa ?_;exact lP ⟨u,o,w,fun _=>rfl,f2,f3,f4,⟨X,⟨j,C⟩,n⟩,f6⟩
  | 1,d =>
   cases d;have d0:=f0 (dt I 0);rcases n with⟨e,a,rfl⟩ | ⟨e,_⟩ | ⟨e,_⟩
   ·refine qa ?_;refine zB [] _ (zp _) (qa7 (l.map cFtr) R (by rw [zz];omega)) ?_;rintro v K U ⟨rfl,H⟩ J;refine qa ?_;exact lP ⟨u,o,w,f0,f2,f3,f4,⟨K,⟨rfl,fun N=>by rw [k8] at J;exact(w4.1 J).2.2 _ N _ (by simp) rfl⟩,.inr (.inl ⟨rfl,a,H⟩)⟩,f6⟩
   ·rw [G] at e;cases e
   ·rw [G] at e;cases e
  | 2,d =>
   cases d;refine qa ?_;exact lP ⟨u,o,w,f0,fun _=>rfl,f3,f4,⟨X,⟨j,C⟩,n⟩,f6⟩
  | 3,d =>
   cases d;have Z:zF S.boxes A=some (cF f f.body.hd (kI f.body.args)):=by rw [j,vL C,c1];simp [zF]
   simp only [↓rA,rU,o,Z,simprocAttr];exact lP ⟨u,o,w,f0,f2,fun _=>rfl,f4,⟨X,⟨j,C⟩,n⟩,f6⟩
  | 4,d =>
   cases d;have d3:=f3 (dt I 3);rw [c1] at d3;refine qa ?_;refine fun y=>?_;exact lP ⟨u,o,w,f0,f2,f3,fun _=>⟨_,rfl⟩,⟨X,⟨j,C⟩,n⟩,f6⟩
  | 5,d =>
   cases d;have T:=dt I 1;have d2:=f2 (dt I 2);obtain⟨y,d4⟩:=f4 (dt I 4);rcases n with⟨e,_⟩ | ⟨e,a,H⟩ | ⟨_,a,_⟩
   ·rw [T] at e;cases e
   ·generalize ab:S.σ 14=v14 at H;refine qa ?_;refine zB X _ (zp _) (qDd _ R (by simp_all) k aa (cFtr f) rfl y H) ?_;rintro v K U ⟨O,rfl⟩ J;refine qa ?_;exact lP ⟨u,o,w,f0,f2,f3,f4,⟨K,⟨rfl,fun N=>by rw [k8] at J;exact(w4.1 J).2.2 _ N _ (by simp) rfl⟩,.inr (.inr ⟨T,rfl,O,fun h=>by rw [f6 h] at a;cases a⟩)⟩,fun _=>rfl⟩
   ·rw [G] at a;cases a
  | 6,d =>
   cases d;have D:=dt I 5;rcases n with⟨_,a,_⟩ | ⟨_,a,_⟩ | ⟨e,_,O,_⟩
   ·rw [D] at a;cases a
   ·rw [D] at a;cases a
   ·generalize Y:S.σ 18=ac at O;refine qa ?_;exact lP ⟨u,o,w,f0,f2,f3,f4,⟨X,⟨j,C⟩,.inr (.inr ⟨e,D,show qAp _ _ _ _ (S.σ 18) _ by simp_all,fun _=>Y.symm⟩)⟩,fun _=>D⟩
 ·intro L S G ⟨u,o,w,f0,f2,f3,f4,⟨X,⟨j,C⟩,n⟩,f6⟩;have D:=G 5 (by simp);rcases n with⟨_,a,_⟩ | ⟨_,a,_⟩ | ⟨e,_,⟨b,c,rest,H,W,rfl⟩,M⟩
  ·rw [D] at a;cases a
  ·rw [D] at a;cases a
  ·have M:=M (G 6 (by simp));rw [W] at M;simp only [↓rA,rB,simprocAttr,M,j];rw [zz] at H;have hn:((insAt l k f).map cFtr).length=l.length+1:=by
    simp only [insAt,zz,zr,kB,List.length_cons,qA8];omega
   refine⟨_,[_],[],Le.refl _,List.Sublist.cons_cons _ (zn _),zn _,rfl,.inr ⟨b,c,rest,by omega,by simp_all,?_⟩⟩;simp
theorem qip (v:Val):zk prog 188 [.agg (qS v)] (qq (decide (wQ v=0))):=by
 refine oE func188 fun F h a=>?_;refine qb fun d e=>?_;refine qi _ (qnc v) ?_;exact qe
def qJf (v:Val) (t:Typ):Bool:=decide (wQ v=0) && (decide (v.kind=0) || decide (v.kind=t.kind))
theorem qxu (v:Val) (t:Typ):zk prog 116 [.agg (qS v),w8 t] (qq (qJf v t)):=by
 refine oE func116 fun F k a=>?_;refine qb fun d h=>?_;refine qb fun e j=>?_;refine qi _ (qip v) ?_;cases p:decide (wQ v=0) <;> cases q:decide (v.kind=0) <;> refine qa ?_ <;> exact qc (qQ (by simp [qJf,p,q]))
theorem ql4 (c:Cat) (f:Fct) (D:c.tables.length<=1000000) (C:f.fields.length<=big):Ok prog 79 [zO c,.agg (KN f)] [] fun v o rs=>(∃ k:Int,v=vint k/\(k=0->xz f=true/\∀ v ∈ f.fields,wQ v=0))/\o=[]/\rs=[]:=by
 unfold big at C;refine oE func79 fun F Q J=>?_;refine qb fun q K=>?_;refine qb fun j L=>?_;refine qi _ (qr4 f) ?_;cases e:xz f
 ·refine qa ?_;refine⟨_,[],[],Le.refl _,zn _,zn _,⟨_,rfl,?_⟩,rfl,rfl⟩;simp
 by_cases I:f.kind=3
 ·have A:f.fields=[]:=by
   unfold xz at e;simp only [I,if_true,k7,decide_eq_true_eq] at e;exact qL2 e.2.2.2.2
  clear e;refine qa ?_;refine⟨_,[],[],Le.refl _,zn _,zn _,⟨_,rfl,?_⟩,rfl,rfl⟩;simp [A]
 refine qW (Yd c f.table D) ?_;rintro v o rs ⟨⟨t,b,rfl,O⟩,rfl,rfl⟩;refine qb fun n M=>?_;cases b
 ·refine qa ?_;refine⟨_,[],[],Le.refl _,zn _,zn _,⟨_,rfl,?_⟩,rfl,rfl⟩;simp
 by_cases N:f.fields.length=t.fields.length
 case neg =>
  have G:¬ (f.fields.length:Int)=t.fields.length:=by omega
  refine qa ?_;refine⟨_,[],[],Le.refl _,zn _,zn _,⟨_,rfl,?_⟩,rfl,rfl⟩;simp
 have G:(f.fields.length:Int)=t.fields.length:=by omega
 refine qa ?_;refine qG Ty.mixed (by kernel_rfl) f.fields.length (fun i S=>(∀ v ∈ f.fields.take i,wQ v=0)/\S.boxes=[(n,.c (cTab t)),(j,.c (KN f)),(q,.c (qT c))]/\S.rows=[]/\S.σ 3=ptr j/\S.σ 5=ptr n/\S.σ 7=vint i) ⟨0,?_⟩ (fun i S p ⟨h,y,z,u,w,x⟩=>?_) (fun S ⟨h,y,z,u,w,x⟩=>?_)
 ·exact⟨fun v a=>absurd a (by simp),by exact qD⟩
 ·have P:=qj p;have hit:i < t.fields.length:=by omega
  refine qn ?_;refine qt _ (qxu f.fields[i] t.fields[i].typ).v ?_;have H:qJf f.fields[i] t.fields[i].typ=true->∀ v ∈ f.fields.take (i+1),wQ v=0:=fun d v a=>by
   rw [zt p] at a;rcases z6.1 a with a | a
   ·exact h v a
   ·rw [kl.1 a];unfold qJf at d;exact of_decide_eq_true (k7 _ _▸d).1
  cases d:qJf f.fields[i] t.fields[i].typ
  ·refine qa ?_;refine⟨_,[],[],Le.refl _,zn _,zn _,⟨_,rfl,?_⟩,rfl,rfl⟩;simp
  ·refine qa ?_;exact⟨0,H d,rfl⟩
 ·rw [xa (w3 _)] at h;refine qn ?_;refine r0 ⟨⟨_,rfl,fun _=>h⟩,rfl,rfl⟩
theorem V8 (a b:Chg) (e:qia a):OkB prog 189 [.agg (yn a),.agg (yn b)]:=by
 have j:=X7 a.table b.table e.1;have h:=Ze a.feature b.feature e.2;simp only [qs] at h;simp only [wJ];refine oE func189 fun F u k=>?_;refine qb fun n p=>?_;refine qb fun o q=>?_;refine qa ?_
 repeat' (first
  | (refine qf (fun d=>?_) (fun d=>?_) <;> ((try refine qa ?_)))
  | (refine qE (fun d=>?_) (fun d=>?_) <;> ((try refine qa ?_)))
  | (refine qo _ (j) ?_;try simp only [↓rA,rU,simprocAttr])
  | (refine qo _ (h) ?_;try simp only [↓rA,rU,simprocAttr])
  | exact⟨_,[],[],Le.refl _,zn _,zn _,⟨_,rfl⟩,rfl,rfl⟩)
theorem qae (n:Nat) (c:Cat) (s:Str) (d:n<=1000000) (a:zD n c):OkI prog 258 [zO c,vstr s]:=by
 have C:=km a.lf d;have D:=km a.ld d;have G:=km a.lp d;refine Ok.of_exM [(1,4)] Ty.mixed func258 rfl (by simp) (by rfl) fun F L A=>?_;refine qb fun h H=>?_;simp only [↓rA,rB,Nat.reduceAdd,Nat.reduceEqDiff,Nat.reduceLT,Nat.reduceMul,reduceCtorEq,results258,tU,Nat.reduceShiftRight,Nat.reduceMod];refine fun M=>⟨by simp only [zz];omega,fun N=>⟨by simp only [zz];omega,fun O=>⟨by simp only [zr,zz];omega,fun P=>?_⟩⟩⟩;have y:(c.features++c.drafts++c.past).length<=3000000:=by simp only [zr];omega
 have x:c.features.map cFtr++c.drafts.map cFtr++c.past.map cFtr=(c.features++c.drafts++c.past).map cFtr:=by simp only [k8]
 generalize J:c.features++c.drafts++c.past=e at y x;refine qG Ty.mixed (by rfl) e.length (fun i S=>(∃ z,S.σ 5=.list (some z) 18 (e.map cFtr))/\S.boxes=[(h,.c (qT c))]/\(∃ k:Int,S.σ 6=vint k)/\S.σ 1=vstr s/\S.σ 7=vint i) ⟨0,?_⟩ (fun i S w ⟨⟨z,o⟩,u,⟨k,p⟩,j,q⟩=>?_) (fun S ⟨⟨z,o⟩,u,⟨k,p⟩,j,q⟩=>?_)
 ·refine qB ?_;simp
 ·have K:=qj w;have c1:=qs e[i];refine qn ?_;apply qf <;> intro I
  ·refine qn ?_;exact⟨0,⟨_,rfl⟩,rfl,_,rfl⟩
  ·refine qa ?_;exact⟨0,⟨_,rfl⟩,rfl,_,rfl⟩
 ·refine qn ?_;exact kF _ _ _
theorem qe9 (c:Chg) (q:qia c):OkB prog 118 [.agg (yn c)]:=by
 have d:=fun b=>V8 c b q;simp only [wJ] at d ⊢;refine oE func118 fun F C u=>?_;refine qb fun w y=>?_;refine qb fun x A=>?_;by_cases j:c.kind=1
 ·have a:=d ⟨c.kind,c.table,ftr0,qH⟩;simp only [j] at a;refine qW (Ok.le (.cons ?_ (.cons ?_ .nil)) a) ?_
  ·rw [<-j];exact Le.refl _
  ·refine wc ?_
   repeat first | exact .nil | refine .c1 ?_ | refine .cons (Le.nil _) ?_
  rintro v e h ⟨⟨z,rfl⟩,rfl,rfl⟩;refine qa ?_;exact r0 ⟨⟨_,rfl⟩,rfl,rfl⟩
 by_cases k:c.kind=2
 ·have a:=d ⟨c.kind,tab0,c.feature,qH⟩;simp only [k] at a;refine qW (Ok.le (.cons ?_ (.cons ?_ .nil)) a) ?_
  ·rw [<-k];exact Le.refl _
  ·refine wc ?_
   repeat first | exact .nil | refine .c1 ?_ | refine .cons (Le.nil _) ?_
  rintro v e h ⟨⟨z,rfl⟩,rfl,rfl⟩;refine qa ?_;exact r0 ⟨⟨_,rfl⟩,rfl,rfl⟩
 by_cases n:c.kind=3
 ·have a:=d ⟨c.kind,tab0,ftr0,c.name⟩;simp only [n] at a;refine qW (Ok.le (.cons ?_ (.cons ?_ .nil)) a) ?_
  ·rw [<-n];exact Le.refl _
  ·refine wc ?_
   repeat first | exact .nil | refine .c1 ?_ | refine .cons (Le.nil _) ?_
  rintro v e h ⟨⟨z,rfl⟩,rfl,rfl⟩;refine qa ?_;exact r0 ⟨⟨_,rfl⟩,rfl,rfl⟩
 by_cases o:c.kind=4
 ·have a:=d ⟨c.kind,tab0,ftr0,c.name⟩;simp only [o] at a;refine qW (Ok.le (.cons ?_ (.cons ?_ .nil)) a) ?_
  ·rw [<-o];exact Le.refl _
  ·refine wc ?_
   repeat first | exact .nil | refine .c1 ?_ | refine .cons (Le.nil _) ?_
  rintro v e h ⟨⟨z,rfl⟩,rfl,rfl⟩;refine qa ?_;exact r0 ⟨⟨_,rfl⟩,rfl,rfl⟩
 by_cases p:c.kind=5
 ·have a:=d ⟨c.kind,tab0,ftr0,c.name⟩;simp only [p] at a;refine qW (Ok.le (.cons ?_ (.cons ?_ .nil)) a) ?_
  ·rw [<-p];exact Le.refl _
  ·refine wc ?_
   repeat first | exact .nil | refine .c1 ?_ | refine .cons (Le.nil _) ?_
  rintro v e h ⟨⟨z,rfl⟩,rfl,rfl⟩;refine qa ?_;exact r0 ⟨⟨_,rfl⟩,rfl,rfl⟩
 refine qa ?_;exact r0 ⟨⟨_,rfl⟩,rfl,rfl⟩
def GF (f:Ftr):Prop:=QK f/\zV f.body<=big/\kY f.body<=1000000
def Qh (n:Nat) (l:List Ftr):Prop:=l.length<=n/\∀ f ∈ l,GF f
theorem Qh.without {l:List Ftr} (h:Qh n l) (k:Nat):Qh n (l.take k++l.drop (k+1)):=by
 refine⟨?_,fun f a=>?_⟩
 ·have:=h.1;rw [zr,kB,qA8];omega
 ·rcases z6.1 a with a | a
  ·exact h.2 f (qAq a)
  ·exact h.2 f (qEu a)
theorem Qh.insert {l:List Ftr} (h:Qh n l) {f:Ftr} (d:GF f) (k:Nat):Qh (n+1) (l.take k++(f::l.drop k)):=by
 refine⟨?_,fun g a=>?_⟩
 ·have:=h.1;rw [zr,qKg,kB,qA8];omega
 ·rcases z6.1 a with a | a
  ·exact h.2 g (qAq a)
  ·rcases xb.1 a with rfl | a
   ·omega
   ·exact h.2 g (qEu a)
theorem Qh.up {m:Nat} {l:List Ftr} (h:Qh n l) (a:n<=m):Qh m l:=⟨km h.1 a,h.2⟩
theorem zD.fl {n c} (h:zD n c):Qh n c.features:=⟨h.lf,fun f a=>⟨(h.ff f a).1,(h.ff f a).2,h.sf f a⟩⟩
theorem zD.dl {n c} (h:zD n c):Qh n c.drafts:=⟨h.ld,fun f a=>⟨(h.fd f a).1,(h.fd f a).2,h.sd f a⟩⟩
theorem zD.pl {n c} (h:zD n c):Qh n c.past:=⟨h.lp,fun f a=>⟨(h.fp f a).1,(h.fp f a).2,h.sp f a⟩⟩
theorem zD.of {j:List Tab} {a b d:List Ftr} (k:j.length<=n) (o:∀ t ∈ j,vf t) (h:Qh n a) (hb:Qh n b) (hd:Qh n d):zD n ⟨j,a,b,d⟩ :=
 ⟨k,h.1,hb.1,hd.1,o,fun f e=>⟨(h.2 f e).1,(h.2 f e).2.1⟩,fun f e=>⟨(hb.2 f e).1,(hb.2 f e).2.1⟩,fun f e=>⟨(hd.2 f e).1,(hd.2 f e).2.1⟩,fun f e=>(h.2 f e).2.2,fun f e=>(hb.2 f e).2.2,fun f e=>(hd.2 f e).2.2⟩
abbrev WI (n:Nat) (P:Program) (f:FuncId) (e:List V):Prop:=Ok P f e [] fun v a d=>(∃ (c:Cat) (k:Int),v=.tup [zO c,vint k]/\zD n c)/\a=[]/\d=[]
theorem u6 (n:Nat) (k:Int) (X:Bx) (Y:List VL.Row):∃ v d e,Le (.tup [.agg [nilS,nilS,nilS,nilS],vint k]) v/\d.Sublist X/\e.Sublist Y/\(∃ (c:Cat) (k:Int),v=.tup [zO c,vint k]/\zD n c)/\d=[]/\e=[] :=
 ⟨_,[],[],jf (.cons (wc (.cons (Le.nil 4) (.cons (Le.nil 18) (.cons (Le.nil 18) (.cons (Le.nil 18) .nil))))) (.c1 .nil)),zn _,zn _,⟨⟨[],[],[],[]⟩,k,rfl,zD.of (KM _) (fun t h=>absurd h y8) ⟨KM _,fun f a=>absurd a y8⟩ ⟨KM _,fun f a=>absurd a y8⟩ ⟨KM _,fun f a=>absurd a y8⟩⟩,rfl,rfl⟩
theorem Z7 (n:Nat) (e:List Tab) (a b d:List Ftr) (k:Int) (X:Bx) (Y:List VL.Row) (h:zD n ⟨e,a,b,d⟩):∃ v j o,Le (.tup [.agg [qR e,qm a,qm b,qm d],vint k]) v/\j.Sublist X/\o.Sublist Y/\(∃ (c:Cat) (k:Int),v=.tup [zO c,vint k]/\zD n c)/\j=[]/\o=[] :=
 ⟨_,[],[],Le.refl _,zn _,zn _,⟨⟨e,a,b,d⟩,k,rfl,h⟩,rfl,rfl⟩
theorem Qw {k:Int} {N:Nat} (h:k=-1∨0<=k/\k < N):k=-1∨∃ m:Nat,m < N/\k=m :=
 h.imp id fun⟨a,d⟩=>⟨k.toNat,by omega,by omega⟩
theorem qsh (n:Nat) (c:Cat) (s:Str) (h:n<=1000000) (a:zD n c):WI n prog 194 [zO c,vstr s]:=by
 have hd:=km a.ld h;refine oE func194 fun F z j=>?_;refine qb fun o w=>?_;refine qb fun p x=>?_;refine qW (j6 c.drafts s hd) ?_;rintro v u y ⟨⟨k,rfl,d⟩,rfl,rfl⟩;rcases Qw d with rfl | ⟨m,e,rfl⟩
 ·refine qa ?_;exact u6 _ _ _ _
 ·have q:¬ (m:Int) < 0:=by omega
  refine qi _ (vq c.drafts m e hd) ?_;refine qa ?_;exact Z7 _ _ _ _ _ _ _ _ (zD.of a.lt a.ft a.fl (a.dl.without m) a.pl)
theorem qca (n:Nat) (c:Cat) (f:Ftr) (A:n<=999999) (a:zD n c) (e:GF f):WI (n+1) prog 191 [zO c,.agg (cFtr f)]:=by
 have hd:=km a.ld A;have p:=Jc n c f (by omega) a e.1 e.2.1;have o:=fun k:Int=>yA c.drafts { f with version:=k } (by omega);simp only [qs] at p o ⊢;refine oE func191 fun F M D=>?_;refine qb fun G w=>?_;refine qb fun H x=>?_;refine qb fun I y=>?_;have j:=aI w (aI x y);by_cases C:f.version=0
 case neg =>
  refine qa ?_;exact u6 _ _ _ _
 have u:(f.version=0)=True:=eq_true C;simp only [↓rA,rU,j,u,simprocAttr];refine qF (j6 c.drafts f.name (by omega)) ?_;rintro v d h ⟨⟨k,rfl,z⟩,rfl,rfl⟩;rcases Qw z with rfl | ⟨m,K,rfl⟩
 case inr =>
  have q:(0:Int)<=(m:Int):=by omega
  refine qa ?_;exact u6 _ _ _ _
 simp only [↓rA,rU,j,simprocAttr];refine qF p ?_;rintro v d h ⟨⟨k,rfl⟩,rfl,rfl⟩;by_cases L:k=0
 case neg =>
  refine qa ?_;exact u6 _ _ _ _
 refine qa ?_;refine qF (qae n c f.name (by omega) a) ?_;rintro v d h ⟨⟨k,rfl⟩,rfl,rfl⟩;refine qa ?_;apply qf <;> intro J
 ·refine qa ?_;exact u6 _ _ _ _
 refine qa ?_;refine qF (qae n c f.name (by omega) a) ?_;rintro v d h ⟨⟨k,rfl⟩,rfl,rfl⟩;refine qi _ (o (IntKind.i64.wrap (k+1))) ?_;refine qa ?_;exact Z7 _ _ _ _ _ _ _ _ (zD.of (qIa a.lt) a.ft (a.fl.up (qF2 _)) (a.dl.insert (by exact e) _) (a.pl.up (qF2 _)))
theorem Qh.get {l:List Ftr} (h:Qh n l) {i:Nat} (a:i < l.length):GF l[i]:=h.2 _ (zs a)
theorem qc5 (n:Nat) (c:Cat) (s:Str) (w:n<=999999) (a:zD n c):WI (n+1) prog 192 [zO c,vstr s]:=by
 have hd:=km a.ld w;have C:=km a.lf w;have T:=km a.lp w;refine Ok.of_exM [(8,1)] Ty.mixed func192 rfl (by simp) (by rfl) fun F U O=>?_;refine qb fun P H=>?_;refine qb fun Q I=>?_;have d:=aI H I;refine qa ?_;refine qF (j6 c.drafts s (by omega)) ?_;rintro v G N ⟨⟨k,rfl,p⟩,rfl,rfl⟩;rcases Qw p with rfl | ⟨m,u,rfl⟩
 ·refine qa ?_;exact u6 _ _ _ _
 have q:¬ (m:Int) < 0:=by omega
 have L:(0:Int)<=(m:Int):=by omega
 have e:=a.dl.get u;simp only [↓rA,rU,d,q,L,zq,u,qs c.drafts[m],simprocAttr];refine qX fun R J=>?_;have d:=aI d J;refine qa ?_;refine qo _ (vq c.drafts m u (by omega)) ?_;have x:=a.dl.without m;generalize c.drafts.take m++c.drafts.drop (m+1)=D at x;refine qa ?_;refine qF (j6 c.features s (by omega)) ?_;rintro v G N ⟨⟨k,rfl,p⟩,rfl,rfl⟩;generalize S:c.drafts[m]=g at e;have h:=fun(l:List Ftr) (C:l.length<=1000000)=>yA l g C;simp only [qs] at h;rcases Qw p with rfl | ⟨j,o,rfl⟩
 ·refine qa ?_;refine qo _ (h c.features (by omega)) ?_;refine qa ?_;exact Z7 _ _ _ _ _ _ _ _ (zD.of (qIa a.lt) a.ft (a.fl.insert e _) (x.up (qF2 _)) (a.pl.up (qF2 _)))
 have r:¬ (j:Int) < 0:=by omega
 have M:(0:Int)<=(j:Int):=by omega
 have K:=a.fl.get o;have z:=yA c.past c.features[j] (by omega);simp only [qs] at z;simp only [↓rA,rU,d,M,zq,o,qs c.features[j],simprocAttr];refine qt _ z.v ?_;refine qa ?_;refine qo _ (vq c.features j o (by omega)) ?_;have y:=a.fl.without j;generalize c.features.take j++c.features.drop (j+1)=A at y;refine qa ?_;refine qo _ (h A (by have:=y.1;omega)) ?_;refine qa ?_;exact Z7 _ _ _ _ _ _ _ _ (zD.of (qIa a.lt) a.ft (y.insert e _) (x.up (qF2 _)) (a.pl.insert K _))
theorem V9 (n:Nat) (c:Cat) (s:Str) (u:n<=999999) (a:zD n c):WI (n+1) prog 193 [zO c,vstr s]:=by
 have hd:=km a.ld u;have D:=km a.lf u;have T:=km a.lp u;refine Ok.of_exM [(8,1),(9,1)] Ty.mixed func193 rfl (by simp) (by rfl) fun F W N=>?_;refine qb fun O H=>?_;refine qb fun P I=>?_;have e:=aI H I;refine qa ?_;refine qF (j6 c.features s (by omega)) ?_;rintro v x G ⟨⟨k,rfl,d⟩,rfl,rfl⟩;rcases Qw d with rfl | ⟨m,o,rfl⟩
 ·refine qa ?_;exact u6 _ _ _ _
 have q:¬ (m:Int) < 0:=by omega
 have L:(0:Int)<=(m:Int):=by omega
 refine qa ?_;refine qF (qrf c.past s (by omega)) ?_;rintro v x G ⟨⟨k,rfl,d⟩,rfl,rfl⟩;rcases Qw d with rfl | ⟨j,h,rfl⟩
 ·refine qa ?_;exact u6 _ _ _ _
 have r:¬ (j:Int) < 0:=by omega
 have M:(0:Int)<=(j:Int):=by omega
 refine qa ?_;refine qF (j6 c.drafts s (by omega)) ?_;rintro v x G ⟨⟨k,rfl,d⟩,rfl,rfl⟩;rcases Qw d with rfl | ⟨i,S,rfl⟩
 case inr =>
  have U:(0:Int)<=(i:Int):=by omega
  refine qa ?_;exact u6 _ _ _ _
 have K:=a.fl.get o;have y:=a.pl.get h;have z:=yA c.drafts c.features[m] (by omega);simp only [qs] at z;simp only [↓rA,rU,e,M,zq,h,qs c.past[j],simprocAttr];refine qX fun Q J=>?_;have e:=aI e J;generalize R:c.past[j]=p at y;have C:=fun(l:List Ftr) (D:l.length<=1000000)=>yA l p D;simp only [qs] at C;simp only [↓rA,rU,e,L,zq,o,qs c.features[m],simprocAttr];refine qt _ z.v ?_;refine qa ?_;refine qt _ (vq c.features m o (by omega)).v ?_;have w:=a.fl.without m;generalize c.features.take m++c.features.drop (m+1)=A at w;refine qa ?_;refine qt _ (C A (by have:=w.1;omega)).v ?_;refine qa ?_;refine qo _ (vq c.past j h (by omega)) ?_;refine qa ?_;exact Z7 _ _ _ _ _ _ _ _ (zD.of (qIa a.lt) a.ft (w.insert y _) (a.dl.insert K _) ((a.pl.without j).up (qF2 _)))
theorem qau (t:Bool) (X:Bx) (Y:List VL.Row):∃ v a d,Le (qq t) v/\a.Sublist X/\d.Sublist Y/\(∃ t:Bool,v=qq t)/\a=[]/\d=[] :=
 ⟨_,[],[],Le.refl _,zn _,zn _,⟨t,rfl⟩,rfl,rfl⟩
theorem YJ (t:Tab):OkB prog 126 [.agg (cTab t)]:=by
 refine oE func126 fun F j d=>?_;refine qb fun e h=>?_;refine qa ?_
 repeat' (first
  | (refine qE (fun a=>?_) (fun a=>?_) <;> ((try simp only [↓rA,rB,simprocAttr,results126,a,tU])))
  | exact qau _ _ _)
theorem Kl (f:Ftr):OkB prog 123 [.agg (cFtr f)]:=by
 rw [qs];refine oE func123 fun F n e=>?_;refine qb fun h k=>?_;refine qb fun j d=>?_;refine qa ?_;simp only [List.append_eq,List.cons_append,List.nil_append];refine qa ?_
 repeat' (first
  | (refine qE (fun a=>?_) (fun a=>?_) <;> ((try simp only [↓rA,rB,yo,simprocAttr,d,a,tU])))
  | exact qau _ _ _)
theorem Wi (x:Chg):OkB prog 128 [.agg (yR x)]:=by
 have e:=YJ x.table;have a:=Kl x.feature;rw [qs] at a;rw [yR,qs];refine oE func128 fun F o j=>?_;refine qb fun k n=>?_;refine qW e ?_;rintro v d h ⟨⟨t,rfl⟩,rfl,rfl⟩;cases t
 ·refine qa ?_;exact qau _ _ _
 ·refine qW a ?_;rintro v d h ⟨⟨t,rfl⟩,rfl,rfl⟩;refine qa ?_;exact qau _ _ _
theorem qp5 (x:Chg):OkB prog 122 [.agg (yR x)]:=by
 have d:=Kl x.feature;rw [qs] at d;rw [yR,qs];refine oE func122 fun F o e=>?_;refine qb fun h k=>?_;refine qa ?_
 repeat' (first
  | (refine qf (fun a=>?_) (fun a=>?_) <;> ((try refine qa ?_)))
  | (refine qE (fun a=>?_) (fun a=>?_) <;> ((try refine qa ?_)))
  | exact qau _ _ _
  | (refine qF d ?_;rintro v j n ⟨⟨t,rfl⟩,rfl,rfl⟩;simp only [↓rA,rU,simprocAttr]))
theorem qp4 (x:Chg):OkB prog 125 [.agg (yR x)]:=by
 have d:=YJ x.table;rw [yR,qs];refine oE func125 fun F o e=>?_;refine qb fun h k=>?_;refine qa ?_
 repeat' (first
  | (refine qf (fun a=>?_) (fun a=>?_) <;> ((try refine qa ?_)))
  | (refine qE (fun a=>?_) (fun a=>?_) <;> ((try refine qa ?_)))
  | exact qau _ _ _
  | (refine qF d ?_;rintro v j n ⟨⟨t,rfl⟩,rfl,rfl⟩;simp only [↓rA,rU,simprocAttr]))
theorem zD.up {m:Nat} {c:Cat} (h:zD n c) (a:n<=m):zD m c:={ h with lt:=km h.lt a,lf:=km h.lf a,ld:=km h.ld a,lp:=km h.lp a }
theorem KD {c:Cat} (h:zD n c) (k:Int) (X:Bx) (Y:List VL.Row):∃ v a d,Le (.tup [.agg (qT c),vint k]) v/\a.Sublist X/\d.Sublist Y/\(∃ (c:Cat) (k:Int),v=.tup [zO c,vint k]/\zD (n+1) c)/\a=[]/\d=[] :=
 ⟨_,[],[],Le.refl _,zn _,zn _,⟨c,k,rfl,h.up (qF2 n)⟩,rfl,rfl⟩
theorem Qh.insAt {n:Nat} {l:List Ftr} (h:Qh n l) {f:Ftr} (a:GF f) (k:Nat):Qh (n+1) (insAt l k f):=h.insert a k
theorem qyq (n:Nat) (c:Cat) (x:Chg) (k:n<=999999) (a:zD n c):WI (n+1) prog 130 [zO c,.agg (yR x)]:=by
 have hd:=km a.ld k;rw [yR,qs];refine oE func130 fun F C o=>?_;refine qb fun p d=>?_;refine qb fun u e=>?_;refine qb fun w h=>?_;have z:=aI d (aI e h);refine qa ?_;refine qF (u5 c.drafts x.name (by omega)) ?_;rintro v y A ⟨rfl | ⟨m,j,rfl⟩,rfl,rfl⟩
 ·refine qa ?_;exact KD a _ _ _
 ·have q:¬ (m:Int) < 0:=by omega
  refine qa ?_;refine qo _ (Zc c.drafts m j (by omega)) ?_;refine qa ?_;exact Z7 _ _ _ _ _ _ _ _ (zD.of (qIa a.lt) a.ft (a.fl.up (qF2 _)) ((a.dl.without m).up (qF2 _)) (a.pl.up (qF2 _)))
theorem qgw (n:Nat) (c:Cat) (x:Chg) (u:n<=999999) (a:zD n c):WI (n+1) prog 127 [zO c,.agg (yR x)]:=by
 have hd:=km a.ld u;have G:=km a.lf u;have Z:=km a.lp u;rw [yR,qs];refine oE func127 fun F w0 S=>?_;refine qb fun T I=>?_;refine qb fun U J=>?_;refine qb fun W K=>?_;have e:=aI I (aI J K);refine qa ?_;refine qF (u5 c.drafts x.name (by omega)) ?_;rintro v H P ⟨rfl | ⟨m,p,rfl⟩,rfl,rfl⟩
 ·refine qa ?_;exact KD a _ _ _
 have q:¬ (m:Int) < 0:=by omega
 have N:(0:Int)<=(m:Int):=by omega
 have h:=a.dl.get p;simp only [↓rA,rU,e,q,N,zq,p,qs c.drafts[m],simprocAttr];generalize Y:c.drafts[m]=g at h;refine qX fun X L=>?_;have e:=aI e L;refine qa ?_;refine qo _ (Zc c.drafts m p (by omega)) ?_;have w:=a.dl.without m;generalize c.drafts.take m++c.drafts.drop (m+1)=D at w;refine qa ?_;refine qF (u5 c.features x.name (by omega)) ?_;have k:=fun(l:List Ftr) (G:l.length<=1000000)=>Ke l g G;simp only [qs g] at k;rintro v H P ⟨rfl | ⟨j,o,rfl⟩,rfl,rfl⟩
 ·refine qa ?_;refine qo _ (k c.features (by omega)) ?_;have d:=a.fl.insAt h (c.features.findIdx (gtF g));generalize insAt c.features _ g=A at d;refine qa ?_;exact Z7 _ _ _ _ _ _ _ _ (zD.of (qIa a.lt) a.ft d (w.up (qF2 _)) (a.pl.up (qF2 _)))
 have r:¬ (j:Int) < 0:=by omega
 have O:(0:Int)<=(j:Int):=by omega
 have M:=a.fl.get o;have z:=Ke c.past c.features[j] (by omega);simp only [qs c.features[j]] at z;simp only [↓rA,rU,e,O,zq,o,qs c.features[j],simprocAttr];refine qt _ z.v ?_;have C:=a.pl.insAt M (c.past.findIdx (gtF c.features[j]));generalize insAt c.past _ c.features[j]=Q at C;refine qa ?_;refine qo _ (Zc c.features j o (by omega)) ?_;have y:=a.fl.without j;generalize c.features.take j++c.features.drop (j+1)=A at y;refine qa ?_;refine qo _ (k A (by have:=y.1;omega)) ?_;have d:=y.insAt h (A.findIdx (gtF g));generalize insAt A _ g=R at d;refine qa ?_;exact Z7 _ _ _ _ _ _ _ _ (zD.of (qIa a.lt) a.ft d (w.up (qF2 _)) C)
theorem qb6 (n:Nat) (c:Cat) (x:Chg) (I:n<=999999) (a:zD n c):WI (n+1) prog 129 [zO c,.agg (yR x)]:=by
 have hd:=km a.ld I;have hl:=km a.lf I;have hp:=km a.lp I;rw [yR,qs];refine oE func129 fun F w0 I0=>?_;refine qb fun K W=>?_;refine qb fun L X=>?_;refine qb fun M Y=>?_;have y:=aI W (aI X Y);refine qa ?_;refine qF (u5 c.features x.name (by omega)) ?_;rintro v U rs ⟨rfl | ⟨m,H,rfl⟩,rfl,rfl⟩
 ·refine qa ?_;exact KD a _ _ _
 have q:¬ (m:Int) < 0:=by omega
 have q':(0:Int)<=(m:Int):=by omega
 have hg:=a.fl.get H;refine qa ?_;refine zI Ty.mixed (by rfl) c.past.length (fun i S=>S.boxes=[(M,.c [nilS,nilS,nilS,nilS]),(L,.c (vint x.kind::(cTab x.table++(cF x.feature x.feature.body.hd (kI x.feature.body.args)++[vstr x.name])))),(K,.c (qT c))]/\S.rows=[]/\S.σ 2=ptr K/\S.σ 3=ptr L/\S.σ 4=ptr M/\S.σ 6=vint m/\(S.σ 7=vint (-1)∨∃ j:Nat,j < c.past.length/\S.σ 7=vint j)/\S.σ 19=qm c.past/\S.σ 20=vint c.past.length/\S.σ 21=vint i) ⟨_,_,_,_,zc _,zc _,zp _,zp _,?_⟩ (fun i S k ⟨O,h,o,z,C,w,d,p,u,N⟩=>?_) (fun S ⟨O,h,o,z,C,w,d,p,u,N⟩=>?_)
 ·exact⟨rfl,rfl,by rfl,by rfl,by rfl,by rfl,.inl (by rfl),by rfl,by rfl,by rfl⟩
 ·have ab:=qj k;simp only [↓rA,rU,O,h,p,u,N,zq,k,qs c.past[i],simprocAttr];refine qX fun b9 Z=>?_;have y:=aI y Z;refine qa ?_;apply qf <;> intro hc
  ·refine qa ?_;exact⟨_,_,_,_,(zc _).cons _,zc _,zp _,zp _,rfl,h,o,z,C,w,.inr ⟨i,k,rfl⟩,p,u,rfl⟩
  ·refine qa ?_;exact⟨_,_,_,_,(zc _).cons _,zc _,zp _,zp _,rfl,h,o,z,C,w,d,p,u,rfl⟩
 rcases d with d | ⟨j,G,d⟩
 ·refine qn ?_;exact KD a _ _ _
 have r:¬ (j:Int) < 0:=by omega
 have r':(0:Int)<=(j:Int):=by omega
 refine qn ?_;refine qF (u5 c.drafts x.name (by omega)) ?_;rintro v U rs ⟨rfl | ⟨e,_,rfl⟩,rfl,rfl⟩
 case inr =>
  have r2:(0:Int)<=(e:Int):=by omega
  refine qa ?_;exact KD a _ _ _
 have P:=Ke c.drafts c.features[m] (by omega);simp only [qs c.features[m]] at P;simp only [↓rA,rU,h,o,w,y,q',zq,H,qs c.features[m],simprocAttr];refine qt _ P.v ?_;have hid:=a.dl.insAt hg (c.drafts.findIdx (gtF c.features[m]));generalize insAt c.drafts _ c.features[m]=D at hid;refine qa ?_;refine qt _ (Zc c.features m H (by omega)).v ?_;have J:=a.fl.without m;generalize c.features.take m++c.features.drop (m+1)=A at J;have aa:=a.pl.get G;have R:=Ke A c.past[j] (by have:=J.1;omega);simp only [qs c.past[j]] at R;simp only [↓rA,rU,h,o,d,y,r',zq,G,qs c.past[j],simprocAttr];refine qt _ R.v ?_;have k:=J.insAt aa (A.findIdx (gtF c.past[j]));generalize insAt A _ c.past[j]=A' at k;refine qa ?_;refine qo _ (Zc c.past j G (by omega)) ?_;have T:=a.pl.without j;generalize c.past.take j++c.past.drop (j+1)=Q at T;refine qa ?_;exact Z7 _ _ _ _ _ _ _ _ (zD.of (qIa a.lt) a.ft k hid (T.up (qF2 _)))
end Go.Proofs.YtkdgbjhbpbgdeaaGreatDoor
namespace Go.Proofs
open Go.Shelf
def Tryz.growF_ren:Go.Shelf.Ren:=⟨fun | 4=>271 | n=>n,fun | 22=>25 | 25=>43 | 3=>3 | 4=>4 | 9=>9 | 20=>20 | 0=>0 | n=>n,fun | n=>n⟩
theorem Tryz.growF:Go.Proofs.Lays8.n4 Tryz.prog Tryz.growF_ren:={
 mixed:=by rfl
 f4:=⟨Tryz.f271.name,by decide,ly Tryz.func271⟩
 t0:=Tryz.underlying0
 a0:=Tryz.isAgg0
 z0:=Tryz.sizeOf0
 v0:=Tryz.zeroValue0
 t3:=Tryz.underlying3
 a3:=Tryz.isAgg3
 z3:=Tryz.sizeOf3
 v3:=Tryz.zeroValue3
 t4:=Tryz.underlying4
 a4:=Tryz.isAgg4
 z4:=Tryz.sizeOf4
 v4:=Tryz.zeroValue4
 t9:=Tryz.underlying9
 a9:=Tryz.isAgg9
 z9:=Tryz.sizeOf9
 v9:=Tryz.zeroValue9
 t20:=Tryz.underlying20
 a20:=Tryz.isAgg20
 z20:=Tryz.sizeOf20
 v20:=Tryz.zeroValue20
 t22:=Tryz.underlying25
 a22:=Tryz.isAgg25
 z22:=Tryz.sizeOf25
 v22:=Tryz.zeroValue25 }
end Go.Proofs
namespace Go.VL
open Go.RowKit Go.Shelf Go.Lib Go.Proofs
theorem Ok.growNil {P:Program} {d:Ren} (L:Lays8.n4 P d) (k J:Nat) (Q:List Value) (X:zK P (d.t 25)=some k) (hz:kG P (d.t 25)=some Q) (H:QN P (d.t 25)=some J) (M:0 < k) (ad:Q.length=k) (n:Nat) (hn:0 < n) (af:n * J<=140737488355328) (ag:n<=1000000000) :
  Ok P (d.f 4) [.lit (.slice none 0 0),.lit (.int .i64 n)] [] fun v R rs=>∃ y,v=.list (some y) k []/\R=[]/\rs=[⟨y,k,d.t 25⟩]:=by
 obtain⟨u,F,rfl⟩:=qMp.1 (uM X);have N:=X0 hz;rw [F,Option.bind_some] at N;obtain⟨z,ac,rfl⟩:=qMp.1 N;unfold QN at H;rw [F,qA4] at H;obtain rfl:=KL H;have ae:z.cells.size=u.size:=by rw [<-ad,Array.length_toList]
 intro w I xs Y q;obtain rfl:xs=[.slice none 0 0,.int .i64 n]:=qcc Y;refine(Any8.slices_Grow_grow L u z F ac M none 0 0 n [] w (w3 _) (by omega) (by simp_all) (by omega) (by simp) (fun _=>rfl) (fun a h=>by cases h)).mono fun e O ⟨D,j⟩=>?_;rw [qJ0] at D j;have T:=grownCap_ge w n 0 (d.t 25);have K:=grownCap_le_maxLen w n 0 (d.t 25) (by unfold maxLen;omega);generalize grownCap w n 0 (d.t 25)=G at D j T K;generalize S:(#[]++Builtin.zeroCells z.cells (n - 0)++Builtin.zeroCells z.cells (G - n):Array Value)=x at j;have ab:x.size=G * u.size:=by
  rw [<-S];simp only [Array.size_append,size_zeroCells,ae];rw [show (#[]:Array Value).size=0 from rfl,Nat.sub_zero,qJ0,<-uu];congr 1;omega
 have A:qV (fun b=>b < w.heap.size) w I O I:=by
  rw [j];exact(qV.drew _ w I).trans (qV.new (w:=w.drew) _ q.inn)
 have aa:O.heap[w.heap.size]? = some (.cells x (d.t 25) (0,0)):=by rw [j];exact yB w.drew _
 have ah:∀ o,¬ I w.heap.size o:=fun o h=>WR _ (q.inn _ _ h);refine⟨_,_,[],[⟨.slice (some ⟨w.heap.size,0,none⟩) 0 G,u.size,d.t 25⟩],I,D,?_,A.mono fun p C=>C.1,⟨by simp,fun r Z=>?_,(by show ([w.heap.size]:List Nat).Nodup;simp),fun p o W=>qMn (q.inn p o W) A.size,q.glob.mono A.stays⟩,fun p C h=>?_,_,rfl,rfl,rfl⟩
 ·simp only [V.rep];simp
 ·rw [kl.1 Z];exact⟨M,⟨d.t 25,[],by simp [V6],.inr ⟨_,_,x,rfl,KM _,aa,KM _,K,ab,by simp [V6]⟩⟩,fun g U o _=>by
   simp [Value.ownBlock] at U;simp_all⟩
 ·have h2:p ∈ [w.heap.size]:=C;simp_all
end Go.VL
namespace Go.Proofs.YtkdgbjhbpbgdeaaGreatDoor
open Go.Shelf
theorem qDl (n:Nat) (d:0 < n) (e:n<=1000):Ok prog 271 [nilS,vint n] [] fun v a rs=>∃ y,v=.list (some y) 18 []/\a=[]/\rs=[⟨y,18,43⟩]:=by
 exact Ok.growNil Tryz.growF 18 _ _ Ty.sz43 Ty.zr43 Ty.by43 (by decide) (by rfl) n d (by omega) (by omega)
theorem qxw:zk prog 271 [nilS,vint 0] nilS:=by
 refine oE func271 fun F d a=>?_;exact qe
theorem qaq {α:Type} (L:List (List α)) (i:Nat) (h:i < L.length):(L.take (i+1)).flatten=(L.take i).flatten++L[i]:=by
 rw [zt h,qK0];simp
theorem qcx {α:Type} (L:List (List α)) (i:Nat):(L.take i).flatten.length<=L.flatten.length:=by
 have:L.flatten=(L.take i).flatten++(L.drop i).flatten:=by rw [<-qK0,qBq]
 simp_all
theorem qs2 (own:Option Value) (L:List (List Ftr)) (O:L.length<=1000) (G:L.flatten.length<=1000):zk prog 204 [.list own 1 (L.map fun l=>[qm l])] (qm L.flatten):=by
 refine oE func204 fun F Q M=>?_;simp only [↓rA,rB,simprocAttr,results204,tU];refine qG Ty.mixed (by rfl) L.length (fun i S=>S.boxes=[]/\S.rows=[]/\S.σ 0=.list own 1 (L.map fun l=>[qm l])/\S.σ 3=vint (L.take i).flatten.length/\S.σ 9=.list own 1 (L.map fun l=>[qm l])/\S.σ 10=vint L.length/\S.σ 11=vint i) ⟨0,?_⟩ (fun i S d ⟨e,a,h,j,A,k,n⟩=>?_) (fun S ⟨e,a,h,j,A,k,n⟩=>?_)
 ·refine qB ?_;rfl
 ·have q:=qj d;have C:=qcx L i;have D:=qcx L (i+1);have p:=qaq L i d;have I:IntKind.i64.wrap (((L.take i).flatten.length:Nat)+(L[i].length:Nat))=(((L.take (i+1)).flatten.length:Nat):Int):=by
   rw [p,zr] at D ⊢;rw [qv (by omega) (by omega)];omega
  have H:¬ (((L.take (i+1)).flatten.length:Nat):Int) < 0:=by omega
  simp only [↓rA,rU,e,a,h,j,A,k,n,zq,d,I,H,q,simprocAttr];simp
 rw [qNc] at j;simp only [↓rA,rU,e,j,k,n,zq,WR,simprocAttr];rcases qOz L.flatten.length with u | u
 case' inl =>
  rw [u];refine qo _ qxw ?_;simp only [↓rA,rB,simprocAttr,a,h,tU];refine xo.nilRow 6 18 43 (by rfl) (by decide) ?_;obtain⟨y,J⟩:∃ y:Value,y=nilv:=⟨_,rfl⟩
 case' inr =>
  refine qF (qDl _ u G) ?_;rintro v N P ⟨y,rfl,rfl,rfl⟩;simp only [↓rA,rB,simprocAttr,a,h,tU];have J:=trivial
 all_goals
  refine KW Ty.mixed (by rfl) L.length (fun i S=>∃ y,S.boxes=[]/\S.rows=[⟨y,18,43⟩]/\S.σ 6=.list (some y) 18 ((L.take i).flatten.map cFtr)/\S.σ 25=.list own 1 (L.map fun l=>[qm l])/\S.σ 26=vint L.length/\S.σ 27=vint i) ⟨0,1,y,?_⟩ (fun i S d ⟨y,e,a,o,w,x,z⟩=>?_) (fun S ⟨y,e,a,o,w,x,z⟩=>?_)
  ·refine qB ?_;rfl
  ·have q:=qj d;have C:=qcx L (i+1);have p:=qaq L i d;rw [p,zr] at C;simp only [↓rA,rU,e,a,o,w,x,z,zq,d,q,simprocAttr];refine⟨by omega,fun K=>⟨0,1,K,rfl,?_⟩⟩;simp_all
  ·rw [qNc] at o;refine qn ?_;exact⟨_,[],[],Le.list _ _ _,zn _,zn _,rfl,rfl,rfl⟩
open Go.Nv
theorem GF.ver {f:Ftr} (h:GF f) (k:Int):GF { f with version:=k }:=h
theorem qe6 (n:Nat) (c:Cat) (x:Chg) (G:n<=400) (d:zD n c) (H:GF x.feature):WI (n+1) prog 124 [zO c,.agg (yR x)]:=by
 have hd:=km d.ld G;have hl:=km d.lf G;have hp:=km d.lp G;have ht:=km d.lt G;have K:=Jb c x.feature (by omega) (by omega) (fun f Q=>(d.ff f Q).1) d.ft H.1 H.2.1;have J:=fun k:Int=>Ke c.drafts { x.feature with version:=k } (by omega);rw [yR,qs];simp only [qs] at K J;generalize Q:x.feature=f at H K J ⊢;refine oE func124 fun F w0 I0=>?_;refine qb fun M h2=>?_;refine qb fun N h3=>?_;refine qb fun O h4=>?_;have a:=aI h2 (aI h3 h4);refine qb fun P h6=>?_;have a:=aI a h6;by_cases v0:f.version=0
 case neg =>
  refine qa ?_;exact KD d _ _ _
 have e0:(f.version=0)=True:=eq_true v0;simp only [↓rA,rU,a,e0,simprocAttr];refine qF (u5 c.drafts f.name (by omega)) ?_;rintro v Y rs ⟨rfl | ⟨m,hm,rfl⟩,rfl,rfl⟩
 case inr =>
  have q:(0:Int)<=(m:Int):=by omega
  simp only [↓rA,rU,a,q,simprocAttr];exact KD d _ _ _
 simp only [↓rA,rU,a,simprocAttr];refine qF K ?_;rintro v Y rs ⟨⟨k,rfl,-⟩,rfl,rfl⟩;by_cases W:k=0
 case neg =>
  simp only [↓rA,rU,a,W,simprocAttr];exact KD d _ _ _
 simp only [↓rA,rU,a,W,simprocAttr];refine fun y=>?_;refine qo _ (qs2 (some y) [c.features,c.past] (by simp) (by simp;omega)) ?_;generalize hL:[c.features,c.past].flatten=j;have aa:j.length<=1000:=by rw [<-hL];simp;omega
 simp only [↓rA,rU,simprocAttr];refine zI Ty.mixed (by rfl) j.length (fun i S=>(∃ k:Int,S.boxes=[(P,.c (cF { f with version:=k } f.body.hd (kI f.body.args))),(O,.c [nilS,nilS,nilS,nilS]),(N,.c (vint x.kind::(cTab x.table++(cF f f.body.hd (kI f.body.args)++[vstr x.name])))),(M,.c (qT c))])/\(∃ R,S.rows=R)/\S.σ 2=ptr M/\S.σ 3=ptr N/\S.σ 4=ptr O/\S.σ 6=ptr P/\S.σ 36=qm j/\S.σ 37=vint j.length/\S.σ 38=vint i) ⟨_,_,_,_,zc _,zc _,zp _,zp _,?_⟩ (fun i S w ⟨⟨k,A⟩,⟨R,C⟩,h,I,u,e,z,o,p⟩=>?_) (fun S ⟨⟨k,A⟩,⟨R,C⟩,h,I,u,e,z,o,p⟩=>?_)
 ·exact⟨⟨1,rfl⟩,⟨_,rfl⟩,by rfl,by rfl,by rfl,by rfl,by rfl,by rfl,by rfl⟩
 ·have U:=qj w;have Z:=qs j[i];simp only [↓rA,rU,A,C,z,o,p,zq,w,Z,simprocAttr];generalize j[i]=g;refine qX fun b9 h9=>?_;have a:=aI a h9;simp only [↓rA,rU,A,e,a,simprocAttr];by_cases L:g.name=f.name
  case neg =>
   simp only [↓rA,rU,e,p,a,L,U,simprocAttr];exact⟨_,_,_,_,(zc _).cons _,zc _,zp _,zp _,⟨k,rfl⟩,⟨_,rfl⟩,h,I,u,e,z,o,rfl⟩
  by_cases X:1099511627776<=g.version
  ·simp only [↓rA,rU,C,h,u,a,L,X,simprocAttr];exact KD d _ _ _
  ·simp only [↓rA,rU,e,p,a,L,X,U,simprocAttr];exact⟨_,_,_,_,(zc _).cons _,zc _,zp _,zp _,⟨if IntKind.i64.wrap (g.version+1) > k then IntKind.i64.wrap (g.version+1) else k,rfl⟩,⟨_,rfl⟩,h,I,u,e,z,o,rfl⟩
 ·have w:=d.dl.insAt (GF.ver H k) (c.drafts.findIdx (gtF { f with version:=k }));have T:=J k;generalize insAt c.drafts _ _=D at w T;simp only [↓rA,rU,A,h,e,o,p,a,zq,WR,simprocAttr];refine qo _ T ?_;simp only [↓rA,rU,C,h,u,a,simprocAttr];exact Z7 _ _ _ _ _ _ _ _ (zD.of (qIa d.lt) d.ft (d.fl.up (qF2 _)) w (d.pl.up (qF2 _)))
theorem qzw (l:List Tab):Ok prog 200 [qR l] [] fun v d rs=>(∃ b,v=VZ 267 b/\d=[(b,.c [qR l])])/\rs=[]:=by
 refine oE func200 fun F j e=>?_;refine qb fun a h=>?_;refine qa ?_;exact⟨_,[_],[],Le.refl _,zc _,zn _,⟨a,rfl,rfl⟩,rfl⟩
theorem qzx (l:List Tab) (O:l.length<=1000000) (y b:Nat) (J:Nat->Bx->Prop) (n:Bx->Prop) (a:Bx) (A:J l.length a)
  (D:∀ i (G:i < l.length) a,J (i+1) a->Q3 prog y [vint i,.agg (cTab l[i])] a fun v d rs=>((v=qq true/\J i d)∨(v=qq false/\n d))/\rs=[]) :
  Ok prog 267 [.lit (.func (.yield y) #[] #[]),ptr b] ((b,.c [qR l])::a) fun v d rs=>(∃ e,(J 0 e∨n e)/\d=(b,.c [qR l])::e)/\rs=[]:=by
 refine Ok.permR (Q:=fun v d rs=>(∃ e,(J 0 e∨n e)/\d.Perm ((b,.c [qR l])::e))/\rs=[]) ?_ fun v d rs ⟨⟨e,h,K⟩,C⟩=>⟨_,K,⟨e,h,rfl⟩,C⟩;refine oE func267 fun F P N=>?_;simp only [↓rA,rB,simprocAttr,results267,tU];refine zI Ty.mixed (by rfl) l.length (fun i S=>∃ a,J (l.length - i) a/\S.boxes=(b,.c [qR l])::a/\S.rows=[]/\S.σ 0=.lit (.func (.yield y) #[] #[])/\S.σ 1=ptr b/\S.σ 3=vint ((l.length:Int) - 1 - i)) ⟨_,_,_,_,zc _,zc _,zp _,zp _,?_⟩ (fun i S G ⟨a,j,x,z,o,p,q⟩=>?_) (fun S ⟨a,j,x,z,o,p,q⟩=>?_)
 ·have L:IntKind.i64.wrap ((l.length:Int) - 1)=(l.length:Int) - 1:=qv (by omega) (by omega);exact⟨a,A,rfl,rfl,by rfl,by rfl,by refine qB ?_;simp⟩
 ·obtain⟨k,H⟩:∃ k,l.length - i=k+1:=⟨l.length - i - 1,by omega⟩;have w:(l.length:Int) - 1 - i=(k:Int):=by omega
  rw [H] at j;rw [w] at q;have I:k < l.length:=by omega
  have M:(0:Int)<=(k:Int):=by omega
  have L:IntKind.i64.wrap ((k:Int) - 1)=(k:Int) - 1:=qv (by omega) (by omega);refine qn ?_;refine ye a [(b,.c [qR l])] (x8 (l₁:=[(b,B.c [qR l])]) (l₂:=a)) (D k I a j) ?_;rintro v d rs ⟨⟨rfl,u⟩ | ⟨rfl,u⟩,rfl⟩ _
  ·refine qa ?_;exact⟨_,_,_,_,zc _,zc _,x8,zp _,d,by rw [show l.length - (i+1)=k by omega];omega,rfl,rfl,o,p,by refine qB ?_;exact congrArg _ (congrArg _ (by omega))⟩
  ·refine qa ?_;exact⟨_,_,[],Le.refl _,zc _,zn _,⟨d,.inr u,x8⟩,rfl⟩
 ·have M:¬ (0:Int)<=(l.length:Int) - 1 - l.length:=by omega
  rw [qRt] at j;refine qa ?_;exact⟨_,_,[],Le.refl _,zc _,zn _,⟨a,.inl j,zp _⟩,rfl⟩
abbrev bsA (a d h j n:Nat) (c:Cat) (x:Chg) (k e:Int) (r z:List V):Bx:=[(n,.c [vint k]),(j,.c [vint e]),(h,.c r),(d,.c (vint x.kind::(cTab x.table++(cF x.feature x.feature.body.hd (kI x.feature.body.args)++[vstr x.name])))),(a,.c z)]
abbrev Km:List V:=[nilS,nilS,nilS,nilS]
def qMh (n a d e h j:Nat) (c:Cat) (x:Chg) (k:Nat) (L:Nat->Bool) (S:St):Prop :=
 S.σ 2=ptr a/\S.σ 3=ptr d/\S.σ 4=ptr e/\S.σ 5=ptr h/\S.σ 6=ptr j/\(L 0=true->S.σ 31=ptr a)/\(L 1=true->S.σ 32=qR c.tables)/\(L 3=true->S.σ 34=vint k)/\(L 4=true->S.σ 35=pt d 1)/\(L 5=true->S.σ 36=.agg (cTab x.table))/\(L 6=true->∃ y,S.σ 37=.list y 4 [cTab x.table])/\(L 8=true->S.σ 39=ptr a)/\(L 2=true->L 1=true) /\
 ∃ X z,(S.boxes=X++(n,.c [qR c.tables])::bsA a d e h j c x k 0 Km [z,qm c.features,qm c.drafts,qm c.past]/\∀ q ∈ [j,h,e,d,a],q ∉ X.map (·.1)) /\
  ((L 2=false/\L 7=false/\X=[])∨(L 2=true/\L 7=false/\ClQ (c.tables.map cTab) (S.σ 33) X 4)∨(L 2=true/\L 7=true/\qAp (c.tables.map cTab) k (cTab x.table) 4 (S.σ 38) X))/\((L 9=false/\z=qR c.tables)∨(L 9=true/\L 7=true/\z=S.σ 38))
theorem qAa (c:Cat) (x:Chg) (hl:c.tables.length<=1000000):Ok prog 121 [zO c,.agg (yR x)] [] fun v K rs =>
  ((v=.tup [zO c,vint 121]/\K=[])∨∃ k b cap rest,k<=c.tables.length/\c.tables.length+1<=cap/\v=.tup [.agg [slB b (c.tables.length+1) cap,qm c.features,qm c.drafts,qm c.past],vint 0]/\K=[(b,.c (((c.tables.map cTab).take k++cTab x.table::(c.tables.map cTab).drop k).flatten++rest))])/\rs=[]:=by
 rw [yR,qs];refine Ok.of_exM [(9,3)] Ty.mixed func121 rfl (by simp) (by rfl) fun F w0 I0=>?_;refine qb fun a h2=>?_;refine qb fun d h3=>?_;refine qb fun o h4=>?_;refine qb fun p u=>?_;refine qb fun j h6=>?_;have Z:=aI h2 (aI h3 (aI h4 (aI u h6)));refine qa ?_;refine zB [] _ (zp _) (qzw c.tables) ?_;rintro v K rs ⟨⟨C,rfl,rfl⟩,rfl⟩ W;have R:(C ≠ j/\j ≠ C)/\(C ≠ p/\p ≠ C)/\(C ≠ o/\o ≠ C)/\(C ≠ d/\d ≠ C)/\(C ≠ a/\a ≠ C):=by
  have:C ∉ [j,p,o,d,a]:=(js.1 W).1;simp only [xb,y8,or_false,not_or] at this;exact⟨⟨this.1,qKh this.1⟩,⟨this.2.1,qKh this.2.1⟩,⟨this.2.2.1,qKh this.2.2.1⟩,⟨this.2.2.2.1,qKh this.2.2.2.1⟩,⟨this.2.2.2.2,qKh this.2.2.2.2⟩⟩
 simp only [↓rA,rB,simprocAttr,results121];refine UD rfl (gf:=267) (first:=#[]) (cap:=#[.pointer (some ⟨C,0,none⟩)]) rfl Ty.cb267 ((C,.c [qR c.tables])::bsA a d o p j c x c.tables.length 0 Km (qT c)) [] (by rfl)
  (fun l r v K rs=>rs=[]/\∃ k:Nat,k<=c.tables.length/\(K=(l,.obj (.loop r))::(C,.c [qR c.tables])::bsA a d o p j c x k 0 Km (qT c)∨K=(l,.obj (.loop { r with state:=.done,pending:=some .ret }))::(C,.c [qR c.tables])::bsA a d o p j c x k 121 (qT c) (qT c))) ?_ ?_
 ·intro l r ae af al has ai;have ak:(l ≠ j/\j ≠ l)/\(l ≠ p/\p ≠ l)/\(l ≠ o/\o ≠ l)/\(l ≠ d/\d ≠ l)/\(l ≠ a/\a ≠ l):=by
   simp only [rB,simprocAttr] at ae;have:=zS ae;simp only [Nb] at this;exact⟨this.2.1.symm,this.2.2.1.symm,this.2.2.2.1.symm,this.2.2.2.2.1.symm,this.2.2.2.2.2.1.symm⟩
  have Z:=aI Z ak;refine Ok.permR (Ok.permL (qzx c.tables hl l C (fun _ Jo=>∃ k:Nat,k<=c.tables.length/\Jo=(l,.obj (.loop r))::bsA a d o p j c x k 0 Km (qT c)) (fun Jo=>∃ k:Nat,k<=c.tables.length/\Jo=(l,.obj (.loop { r with state:=.done,pending:=some .ret }))::bsA a d o p j c x k 121 (qT c) (qT c)) ((l,.obj (.loop r))::bsA a d o p j c x c.tables.length 0 Km (qT c)) ⟨_,w3 _,rfl⟩ fun i hi Jo ⟨k,T,hJ⟩=>?_) ?_) ?_
  ·subst hJ;refine Q3.of_round (M:=[]) Ty.mixed af al has ai rfl (by simp) (by rfl) (by rfl) fun F w0 I0=>?_;generalize U:wV _ _ _=aa;have ap:aa 15=vint i:=by rw [<-U];rfl
   have aq:aa 16=.agg (cTab c.tables[i]):=by rw [<-U];rfl
   have H:aa 2=ptr a:=by rw [<-U];rfl
   have P:aa 3=ptr d:=by rw [<-U];rfl
   have I:aa 4=ptr o:=by rw [<-U];rfl
   have J:aa 5=ptr p:=by rw [<-U];rfl
   have D:aa 6=ptr j:=by rw [<-U];rfl
   clear U;refine qb fun b8 h8=>?_;refine qa ?_;refine⟨[_],bsA a d o p j c x k 0 Km (qT c),rfl,?_⟩;refine qB ?_;apply qf <;> intro A
   ·simp only [↓rA,rU,H,I,J,Z,h8,simprocAttr];exact⟨[_],bsA a d o p j c x k 121 (qT c) (qT c),_,rfl,(zc _).cons _,.inr ⟨rfl,k,T,rfl⟩,rfl⟩
   ·refine qa ?_;apply qf <;> intro A
    ·simp only [↓rA,rU,D,Z,h8,simprocAttr];exact⟨[_],bsA a d o p j c x i 0 Km (qT c),_,rfl,(zc _).cons _,.inl ⟨rfl,i,qO9 hi,rfl⟩,rfl⟩
    ·simp only [↓rA,rU,simprocAttr];exact⟨[_],bsA a d o p j c x k 0 Km (qT c),_,rfl,(zc _).cons _,.inl ⟨rfl,k,T,rfl⟩,rfl⟩
  ·exact List.Perm.swap _ _ _
  ·rintro v K rs ⟨⟨Jn,⟨k,T,rfl⟩ | ⟨k,T,rfl⟩,rfl⟩,rfl⟩
   ·exact⟨_,List.Perm.swap _ _ _,rfl,k,T,.inl rfl⟩
   ·exact⟨_,List.Perm.swap _ _ _,rfl,k,T,.inr rfl⟩
 ·rintro l r v K rs af ⟨rfl,k,T,rfl | rfl⟩
  ·refine⟨_,.inl ⟨rfl,fun _=>?_⟩⟩;simp only [↓rA,rB,simprocAttr];have hw:∀ e ∈ c.tables.map cTab,e.length=4:=fun e Q=>by obtain⟨t,_,rfl⟩:=x9.1 Q;rfl
   have aj:k<=(c.tables.map cTab).length:=by rw [zz];exact T
   refine yp Ty.mixed (by rfl) (by rfl) (qMh C a d o p j c x k) ?_ ?_ ?_
   ·exact⟨by rfl,by rfl,by rfl,by rfl,by rfl,nofun,nofun,nofun,nofun,nofun,nofun,nofun,nofun,[],qR c.tables,⟨rfl,fun _ _ h=>by cases h⟩,.inl ⟨rfl,rfl,rfl⟩,.inl ⟨rfl,rfl⟩⟩
   ·intro L S i o1 n hL Q ⟨H,P,I,J,D,f0,f1,f3,f4,f5,f6,f8,f2,X,z,⟨N,w⟩,A,O⟩;have gg:∀ q ∈ [j,p,o,d,a],zF S.boxes q=zF ((C,.c [qR c.tables])::bsA a d o p j c x k 0 Km [z,qm c.features,qm c.drafts,qm c.past]) q:=fun q R=>by rw [N,vL (w q R)]
    have ac:zF S.boxes a=some [z,qm c.features,qm c.drafts,qm c.past]:=by rw [gg a (by simp)];simp [zF,Z,R]
    have ag:zF S.boxes d=some (vint x.kind::(cTab x.table++(cF x.feature x.feature.body.hd (kI x.feature.body.args)++[vstr x.name]))):=by rw [gg d (by simp)];simp [zF,Z,R]
    have ah:zF S.boxes j=some [vint k]:=by rw [gg j (by simp)];simp [zF,R]
    match i,n with
    | 0,n =>
     cases n;refine qa ?_;exact lP ⟨H,P,I,J,D,fun _=>rfl,f1,f3,f4,f5,f6,f8,f2,⟨X,z,⟨N,w⟩,A,O⟩⟩
    | 1,n =>
     cases n;have d0:=f0 (dt Q 0);have am:z=qR c.tables:=O.elim (fun h=>h.2) fun h=>by
      simp_all
     simp only [↓rA,rU,d0,ac,am,simprocAttr];exact lP ⟨H,P,I,J,D,f0,fun _=>rfl,f3,f4,f5,f6,f8,fun _=>rfl,⟨X,z,⟨N,w⟩,A,O⟩⟩
    | 2,n =>
     cases n;have l1:=dt Q 1;have d1:=f1 l1;rcases A with⟨G,u,rfl⟩ | ⟨G,_⟩ | ⟨G,_⟩
     ·refine qa ?_;refine zB [] _ (zp _) (qta (c.tables.map cTab) hw (by rw [zz];omega)) ?_;rintro v K rs ⟨rfl,A⟩ W;refine qa ?_;exact lP ⟨H,P,I,J,D,f0,f1,f3,f4,f5,f6,f8,fun _=>l1,⟨K,z,⟨rfl,fun q R hm=>by rw [k8] at W;exact(w4.1 W).2.2 _ hm _ (z8 _ R) rfl⟩,.inr (.inl ⟨rfl,u,A⟩),O⟩⟩
     ·rw [hL] at G;cases G
     ·rw [hL] at G;cases G
    | 3,n =>
     cases n;simp only [↓rA,rU,D,ah,simprocAttr];exact lP ⟨H,P,I,J,D,f0,f1,fun _=>rfl,f4,f5,f6,f8,f2,⟨X,z,⟨N,w⟩,A,O⟩⟩
    | 4,n =>
     cases n;refine qa ?_;exact lP ⟨H,P,I,J,D,f0,f1,f3,fun _=>rfl,f5,f6,f8,f2,⟨X,z,⟨N,w⟩,A,O⟩⟩
    | 5,n =>
     cases n;have d4:=f4 (dt Q 4);simp only [↓rA,rU,d4,ag,simprocAttr];exact lP ⟨H,P,I,J,D,f0,f1,f3,f4,fun _=>rfl,f6,f8,f2,⟨X,z,⟨N,w⟩,A,O⟩⟩
    | 6,n =>
     cases n;have d5:=f5 (dt Q 5);refine qa ?_;refine fun y=>?_;exact lP ⟨H,P,I,J,D,f0,f1,f3,f4,f5,fun _=>⟨_,rfl⟩,f8,f2,⟨X,z,⟨N,w⟩,A,O⟩⟩
    | 7,n =>
     cases n;have l2:=dt Q 2;have d3:=f3 (dt Q 3);obtain⟨y,d6⟩:=f6 (dt Q 6);rcases A with⟨G,_⟩ | ⟨G,u,A⟩ | ⟨_,u,_⟩
     ·rw [l2] at G;cases G
     ·generalize an:S.σ 33=ar at A;refine qa ?_;refine zB X _ (zp _) (qC9 _ hw (by rw [zz];omega) k aj (cTab x.table) rfl y A) ?_;rintro v K rs ⟨hi,rfl⟩ W;refine qa ?_;exact lP ⟨H,P,I,J,D,f0,f1,f3,f4,f5,f6,f8,f2,⟨K,z,⟨rfl,fun q R hm=>by rw [k8] at W;exact(w4.1 W).2.2 _ hm _ (z8 _ R) rfl⟩,.inr (.inr ⟨l2,rfl,hi⟩),O.elim .inl fun h=>absurd h.2.1 (by simp_all)⟩⟩
     ·rw [hL] at u;cases u
    | 8,n =>
     cases n;refine qa ?_;exact lP ⟨H,P,I,J,D,f0,f1,f3,f4,f5,f6,fun _=>rfl,f2,⟨X,z,⟨N,w⟩,A,O⟩⟩
    | 9,n =>
     cases n;have l7:=dt Q 7;have d8:=f8 (dt Q 8);rcases A with⟨_,u,_⟩ | ⟨_,u,_⟩ | ⟨G,_,hi⟩
     ·rw [l7] at u;cases u
     ·rw [l7] at u;cases u
     ·obtain⟨b,cap,rest,ad,ab,ao⟩:=id hi;have sa:=fun(Y:Bx) (q:List V)=>X6 (Y:=Y) (z:=q) (w a (by simp));rw [N] at ac;simp only [↓rA,rB,simprocAttr,Z,d8,ab,N,ac,sa,R,tU];exact lP ⟨H,P,I,J,D,f0,f1,f3,f4,f5,f6,f8,f2,⟨X,slB b _ cap,⟨rfl,w⟩,.inr (.inr ⟨G,l7,hi⟩),.inr ⟨rfl,l7,ab.symm⟩⟩⟩
   ·intro L S hL ⟨H,P,I,J,D,f0,f1,f3,f4,f5,f6,f8,f2,X,z,⟨N,w⟩,A,O⟩;have l7:=hL 7 (by simp);rcases A with⟨_,u,_⟩ | ⟨_,u,_⟩ | ⟨G,_,⟨b,cap,rest,ad,ab,rfl⟩⟩
    ·rw [l7] at u;cases u
    ·rw [l7] at u;cases u
    rcases O with⟨h9,_⟩ | ⟨_,_,rfl⟩
    ·rw [hL 9 (by simp)] at h9;cases h9
    rw [zz] at ad ab;rw [ab] at N;simp only [z7,Jx,xb,y8,or_false,forall_eq_or_imp,forall_eq] at w;have w:=aI w (aI (qKh w.1) (aI (qKh w.2.1) (aI (qKh w.2.2.1) (aI (qKh w.2.2.2.1) (qKh w.2.2.2.2)))));refine qa ?_;exact⟨_,[_],[],Le.refl _,List.Sublist.cons_cons _ (zn _),zn _,.inr ⟨k,b,cap,rest,T,ad,rfl,rfl⟩,rfl⟩
  ·refine⟨_,.inr ⟨rfl,fun _=>?_⟩⟩;refine qa ?_;exact r0 ⟨.inl ⟨rfl,rfl⟩,rfl⟩
theorem qdm (n:Nat) (c:Cat) (x:Chg) (A:n<=400) (a:zD n c) (F:vf x.table):WI (n+1) prog 121 [zO c,.agg (yR x)]:=by
 have D:=km a.lt A;have q:∀ l:List Tab,∀ e ∈ l.map cTab,e.length=4:=fun l e w=>by obtain⟨t,_,rfl⟩:=x9.1 w;rfl
 refine Ok.norows' (Q:=fun v j o=>j=[]/\o=[]/\(v=.tup [zO c,vint 121]∨∃ y k,v=.tup [.agg [.list (some y) 4 ((c.tables.take k++x.table::c.tables.drop k).map cTab),qm c.features,qm c.drafts,qm c.past],vint 0])) (Ok.freeze (qAa c x (by omega)) fun v j o h=>?_) fun v j o h=>?_
 ·obtain⟨⟨rfl,rfl⟩ | ⟨k,b,cap,rest,C,u,rfl,rfl⟩,rfl⟩:=h
  ·simp
  ·have z:(c.tables.map cTab).take k++cTab x.table::(c.tables.map cTab).drop k=(c.tables.take k++x.table::c.tables.drop k).map cTab:=by rw [k8,z7,qOt,qO1]
   rw [z];have p:((c.tables.take k++x.table::c.tables.drop k).map cTab).length=c.tables.length+1:=by
    simp only [zz,zr,kB,List.length_cons,qA8];omega
   exact .inr ⟨b,c.tables.length+1,cap,4,_,(c.tables.take k++x.table::c.tables.drop k).map cTab,[],_,zp _,⟨qBf (by rw [kq (q _),p]),q _,p,u⟩,.tup (.cons (.agg (.cons .here (.cons (.same _) (.cons (.same _) (.cons (.same _) .nil))))) (.cons (.same _) .nil)),rfl,rfl,.inr ⟨_,k,rfl⟩⟩
 ·obtain⟨rfl,rfl,rfl | ⟨y,k,rfl⟩⟩:=h
  ·exact r0 ⟨⟨c,_,rfl,a.up (qF2 n)⟩,rfl,rfl⟩
  ·refine⟨_,[],[],jf (.cons (wc (.cons (Le.list _ _ _) (.c1 (.c1 (.c1 .nil))))) (.c1 .nil)),zn _,zn _,⟨⟨c.tables.take k++x.table::c.tables.drop k,c.features,c.drafts,c.past⟩,0,rfl,zD.of ?_ (fun t d=>?_) (a.fl.up (qF2 _)) (a.dl.up (qF2 _)) (a.pl.up (qF2 _))⟩,rfl,rfl⟩
   ·have:=a.lt;simp only [zr,kB,List.length_cons,qA8];omega
   ·rcases z6.1 d with d | d
    ·exact a.ft t (qAq d)
    ·rcases xb.1 d with rfl | d
     ·omega
     ·exact a.ft t (qEu d)
abbrev fnV (g:Nat):V:=.lit (.func (.func g) #[] #[])
abbrev rE (i:Nat) (k:Int) (g h:Nat):Ent:=(i,.int .i64 k,.agg [fnV g,fnV h])
abbrev vz:List Ent:=[rE 0 1 121 122,rE 1 2 124 125,rE 2 3 127 128,rE 3 4 129 128,rE 4 5 130 128]
theorem qp3:Ok prog 83 [] [] fun v d rs=>(∃ b,v=mp b/\d=[(b,.m ([.i .i64],false) vz 5)])/\rs=[]:=by
 refine oE func83 fun F j e=>?_;refine qb fun a h=>?_;have f0:VL.findM (vz.take 0) (.int .i64 1)=none:=rfl;have f1:VL.findM (vz.take 1) (.int .i64 2)=none:=rfl;have f2:VL.findM (vz.take 2) (.int .i64 3)=none:=rfl;have f3:VL.findM (vz.take 3) (.int .i64 4)=none:=rfl;have f4:VL.findM (vz.take 4) (.int .i64 5)=none:=rfl;simp only [List.take,rE] at f0 f1 f2 f3 f4;refine qa ?_;exact⟨_,[_],[],Le.refl _,zc _,zn _,⟨a,rfl,rfl⟩,rfl⟩
def qHr (x:Chg) (z:V):Prop:=∃ g h,z=.agg [fnV g,fnV h]/\zg prog g=true/\zg prog h=true/\(∀ n c,n<=400->zD n c->WI (n+1) prog g [zO c,.agg (yR x)])/\OkB prog h [.agg (yR x)]
theorem qjk (x:Chg) (y:GF x.feature) (A:vf x.table) (k:Int):VL.findM vz (.int .i64 k)=none∨∃ z,VL.findM vz (.int .i64 k)=some z/\qHr x z:=by
 by_cases o:k=1
 ·subst o;exact .inr ⟨_,rfl,_,_,rfl,by rfl,by rfl,fun n c j d=>qdm n c x j d A,qp5 x⟩
 by_cases p:k=2
 ·subst p;exact .inr ⟨_,rfl,_,_,rfl,by rfl,by rfl,fun n c j d=>qe6 n c x j d y,qp4 x⟩
 by_cases q:k=3
 ·subst q;exact .inr ⟨_,rfl,_,_,rfl,by rfl,by rfl,fun n c j d=>qgw n c x (by omega) d,Wi x⟩
 by_cases u:k=4
 ·subst u;exact .inr ⟨_,rfl,_,_,rfl,by rfl,by rfl,fun n c j d=>qb6 n c x (by omega) d,Wi x⟩
 by_cases w:k=5
 ·subst w;exact .inr ⟨_,rfl,_,_,rfl,by rfl,by rfl,fun n c j d=>qyq n c x (by omega) d,Wi x⟩
 refine .inl ?_;have C:∀ i:Int,k ≠ i->uG (.int .i64 k) (.int .i64 i)=false:=fun i h=>by
  rw [qOh];intro e;have:=(JK (ks:=([.i .i64],false)) (a:=.int .i64 k) (b:=.int .i64 i) rfl rfl).1 e;simp_all
 unfold VL.findM;simp_all
abbrev bsP (a d e:Nat) (c:Cat) (x:Chg):Bx:=[(e,.c Km),(d,.c (vint x.kind::(cTab x.table++(cF x.feature x.feature.body.hd (kI x.feature.body.args)++[vstr x.name])))),(a,.c (qT c))]
def qN1 (d a e:Nat) (c:Cat) (x:Chg) (t:Bool) (h:List V) (L:Nat->Bool) (S:St):Prop :=
 S.σ 2=ptr d/\S.σ 3=ptr a/\S.σ 4=ptr e/\S.σ 5=vint 0/\(L 1=true->S.σ 10=ptr a)/\(L 2=true->S.σ 11=vint x.kind)/\(L 3=true->S.σ 12=.tup [.agg h,qq t])/\(L 4=true->S.σ 8=.tup [.agg h,qq t])/\(L 5=true->S.σ 13=.agg h)/\(L 6=true->S.σ 14=qq t)/\(L 9=true->S.σ 7=qq t) /\
 ∃ X Y,S.boxes=X++(Y++bsP d a e c x)/\((L 0=false/\X=[])∨(L 0=true/\∃ k,X=[(k,.m ([.i .i64],false) vz 5)]/\S.σ 9=mp k)) /\
  ((L 7=false/\L 8=false/\Y=[])∨(L 7=true/\∃ j n o,Y=[(j,.c [n,o])]/\S.σ 6=ptr j/\(L 8=true->[n,o]=h)))/\(∀ p ∈ X,p.1 ∉ (Y++bsP d a e c x).map (·.1))/\∀ p ∈ Y,p.1 ∉ (bsP d a e c x).map (·.1)
theorem qz3 (c:Cat) (x:Chg) (hk:zD 32 c) (hf:GF x.feature) (ht:vf x.table):Ok prog 47 [zO c,.agg (yR x)] [] fun v T rs=>(∃ (d:Cat) (e:Int),v=.tup [zO d,vint e]/\(e=0->zD 32 d/\qTp d))/\T=[]/\rs=[]:=by
 obtain⟨t,P,Q,hQ,N⟩:∃ (t:Bool) (P Q:V),(t=true->qHr x (.agg [P,Q]))/\((t=false/\P=.lit .nilFunc/\Q=.lit .nilFunc/\VL.findM vz (.int .i64 x.kind)=none)∨(t=true/\VL.findM vz (.int .i64 x.kind)=some (.agg [P,Q]))):=by
  rcases qjk x hf ht x.kind with h | ⟨z,h,hz⟩
  ·simp_all
  ·obtain⟨g,h',rfl,hr⟩:=id hz;simp_all
 have hq:yx [P,Q]=true:=by
  rcases N with⟨_,rfl,rfl,_⟩ | ⟨h,_⟩
  ·rfl
  ·obtain⟨g,h',e,_⟩:=hQ h;injection e with e
   injection e with I e
   injection e with H
   rw [I,H];rfl
 have bad:∀ (k:Int) (X:Bx) (Y:List VL.Row),k ≠ 0->∃ v ab ae,Le (.tup [.agg Km,vint k]) v/\ab.Sublist X/\ae.Sublist Y/\(∃ (d:Cat) (e:Int),v=.tup [zO d,vint e]/\(e=0->zD 32 d/\qTp d))/\ab=[]/\ae=[]:=fun k X Y h=>⟨_,[],[],jf (.cons (wc (.cons (Le.nil 4) (.cons (Le.nil 18) (.cons (Le.nil 18) (.cons (Le.nil 18) .nil))))) (.c1 .nil)),zn _,zn _,⟨⟨[],[],[],[]⟩,k,rfl,fun e=>absurd e h⟩,rfl,rfl⟩;rw [yR,qs];refine Ok.of_exM [(1,3)] Ty.mixed func47 rfl (by simp) (by rfl) fun F w0 I0=>?_;refine qb fun b2 h2=>?_;refine qb fun Z h3=>?_;refine qb fun b4 h4=>?_;have O:=aI h2 (aI h3 h4);refine qa ?_;refine yp Ty.mixed (by rfl) (by rfl) (qN1 b2 Z b4 c x t [P,Q]) ?_ ?_ ?_
 ·exact⟨by rfl,by rfl,by rfl,by rfl,nofun,nofun,nofun,nofun,nofun,nofun,nofun,[],[],rfl,.inl ⟨rfl,rfl⟩,.inl ⟨rfl,rfl,rfl⟩,nofun,nofun⟩
 ·intro L S i o1 a M J ⟨y,C,j,D,f1,f2,f3,f4,f5,f6,f9,X,Y,o,A,q,n,u⟩
  match i,a with
  | 0,a =>
   cases a;rcases A with⟨_,rfl⟩ | ⟨U,_⟩
   case inr=>rw [M] at U;cases U
   refine qa ?_;refine zB [] _ (zp _) qp3 ?_;rintro v T rs ⟨⟨R,rfl,rfl⟩,rfl⟩ hN;refine qa ?_;exact lP ⟨y,C,j,D,f1,f2,f3,f4,f5,f6,f9,[_],Y,rfl,.inr ⟨rfl,R,rfl,rfl⟩,q,fun p w=>by rw [kl.1 w];exact(js.1 hN).1,u⟩
  | 1,a =>
   cases a;refine qa ?_;exact lP ⟨y,C,j,D,fun _=>rfl,f2,f3,f4,f5,f6,f9,X,Y,o,A,q,n,u⟩
  | 2,a =>
   cases a;have d1:=f1 (dt J 1);have af:zF S.boxes Z=some (vint x.kind::(cTab x.table++(cF x.feature x.feature.body.hd (kI x.feature.body.args)++[vstr x.name]))):=by
    have H:Z ∉ X.map (·.1):=fun K=>by
     obtain⟨p,w,e⟩:=x9.1 K;exact n p w (by rw [e];simp)
    have e2:Z ∉ Y.map (·.1):=fun K=>by
     obtain⟨p,w,e⟩:=x9.1 K;exact u p w (by rw [e];simp)
    rw [o,vL H,vL e2];simp [zF,O]
   simp only [↓rA,rU,d1,af,simprocAttr];exact lP ⟨y,C,j,D,f1,fun _=>rfl,f3,f4,f5,f6,f9,X,Y,o,A,q,n,u⟩
  | 3,a =>
   cases a;have d2:=f2 (dt J 2);have l0:=dt J 0;rcases A with⟨U,_⟩ | ⟨_,R,rfl,e9⟩
   ·rw [l0] at U;cases U
   rcases N with⟨rfl,rfl,rfl,N⟩ | ⟨rfl,N⟩
   ·refine qa ?_;exact lP ⟨y,C,j,D,f1,f2,fun _=>rfl,f4,f5,f6,f9,_,Y,o,.inr ⟨l0,R,rfl,e9⟩,q,n,u⟩
   ·refine qa ?_;exact lP ⟨y,C,j,D,f1,f2,fun _=>rfl,f4,f5,f6,f9,_,Y,o,.inr ⟨l0,R,rfl,e9⟩,q,n,u⟩
  | 4,a =>
   cases a;have d3:=f3 (dt J 3);refine qa ?_;exact lP ⟨y,C,j,D,f1,f2,f3,fun _=>rfl,f5,f6,f9,X,Y,o,A,q,n,u⟩
  | 5,a =>
   cases a;have d4:=f4 (dt J 4);refine qa ?_;exact lP ⟨y,C,j,D,f1,f2,f3,f4,fun _=>rfl,f6,f9,X,Y,o,A,q,n,u⟩
  | 6,a =>
   cases a;have d4:=f4 (dt J 4);refine qa ?_;exact lP ⟨y,C,j,D,f1,f2,f3,f4,f5,fun _=>rfl,f9,X,Y,o,A,q,n,u⟩
  | 7,a =>
   cases a;rcases q with⟨_,h8,rfl⟩ | ⟨W,_⟩
   case inr=>rw [M] at W;cases W
   simp only [↓rA,rU,simprocAttr];refine fun G aa=>?_;have aa:G ∉ (S.boxes).map (·.1):=fun K=>aa (z6.2 (.inl K));rw [o,k8,z6,not_or] at aa;exact⟨_,_,_,_,zc _,zc _,(show ((G,_)::S.boxes).Perm _ by rw [o];exact ux.symm),zp _,y,C,j,D,f1,f2,f3,f4,f5,f6,f9,X,[(G,.c [.lit .nilFunc,.lit .nilFunc])],rfl,A,.inr ⟨rfl,G,_,_,rfl,rfl,fun h=>by rw [show L 8=true from h] at h8;cases h8⟩,fun p w K=>(xb.1 K).elim (fun e=>aa.1 (by rw [<-(show p.1=G from e)];exact List.mem_map_of_mem w)) (n p w),fun p w=>by simp_all⟩
  | 8,a =>
   cases a;have l7:=dt J 7;have d5:=f5 (dt J 5);rcases q with⟨W,_⟩ | ⟨_,G,u0,u1,rfl,e6,_⟩
   ·rw [l7] at W;cases W
   have H:G ∉ X.map (·.1):=fun K=>by
    obtain⟨p,w,e⟩:=x9.1 K;exact n p w (by rw [e];simp)
   have ga:=fun Y=>vL (Y:=Y) H;have sa:=fun Y z=>X6 (Y:=Y) (z:=z) H;refine qa ?_;exact lP ⟨y,C,j,D,f1,f2,f3,f4,f5,f6,f9,X,[(G,.c [P,Q])],rfl,A,.inr ⟨l7,G,_,_,rfl,e6,fun _=>rfl⟩,n,fun p w=>by rw [kl.1 w];exact u (G,.c [u0,u1]) x6⟩
  | 9,a =>
   cases a;have d6:=f6 (dt J 6);refine qa ?_;exact lP ⟨y,C,j,D,f1,f2,f3,f4,f5,f6,fun _=>rfl,X,Y,o,A,q,n,u⟩
 ·intro L S M ⟨y,C,j,D,f1,f2,f3,f4,f5,f6,f9,X,Y,o,A,q,n,u⟩;rcases A with⟨h,_⟩ | ⟨_,R,rfl,e9⟩
  ·rw [M 0 (by simp)] at h;cases h
  rcases q with⟨h,_⟩ | ⟨_,G,u0,u1,rfl,e6,hu⟩
  ·rw [M 7 (by simp)] at h;cases h
  have hu:=hu (M 8 (by simp));injection hu with I hu
  injection hu with H _
  subst I H;have d9:=f9 (M 9 (by simp));have hb:=qnq (n _ x6);have ac:=qnq (u _ x6);simp only [Nb,List.cons_append,List.nil_append,bsP] at hb ac;have O:=aI O (aI hb ac);rcases N with⟨rfl,rfl,rfl,N⟩ | ⟨rfl,N⟩
  ·simp only [↓rA,rU,j,d9,o,O,simprocAttr];exact bad _ _ _ (by decide)
  ·obtain⟨g,h,e,k1,k2,hg,ad⟩:=hQ rfl;injection e with e
   injection e with I e
   injection e with H _
   subst I H;have hg:=hg 32 c (by omega) hk;rw [yR,qs] at ad hg;refine qW ad ?_;rintro v T rs ⟨⟨tb,rfl⟩,rfl,rfl⟩;cases tb
   ·simp only [↓rA,rU,j,O,simprocAttr];exact bad _ _ _ (by decide)
   refine qW hg ?_;rintro v T rs ⟨⟨d,e,rfl,hd⟩,rfl,rfl⟩;by_cases I:e=0
   case neg =>
    simp only [↓rA,rU,y,j,O,I,simprocAttr];exact bad _ _ _ I
   refine qa ?_;refine qF (qtd 33 d (by omega) hd) ?_;rintro v T rs ⟨⟨k,rfl,ag⟩,rfl,rfl⟩;by_cases k0:k=0
   case neg =>
    simp only [↓rA,rU,j,O,I,k0,simprocAttr];exact bad _ _ _ k0
   refine qa ?_;exact r0 ⟨⟨d,0,rfl,fun _=>ag k0⟩,rfl,rfl⟩
theorem qiv (n:Nat) (c:Cat) (t:Tab) (R:n<=999999) (d:zD n c) (ht:vf t):WI (n+1) prog 190 [zO c,.agg (cTab t)]:=by
 have hl:=km d.lt R;refine Ok.of_exM [(8,4)] Ty.mixed func190 rfl (by simp) (by rfl) fun F w0 I0=>?_;refine qb fun q M=>?_;refine qb fun u N=>?_;refine qb fun A O=>?_;have a:=aI M (aI N O);refine qa ?_;refine qF (Yd c t.name (by omega)) ?_;rintro v bs rs ⟨⟨t6,b,rfl,ab⟩,rfl,rfl⟩;refine qb fun L P=>?_;have a:=aI a P;cases b
 case true =>
  refine qa ?_;exact u6 _ _ _ _
 refine qa ?_;refine jR Ty.mixed (by kernel_rfl) (fun i:Nat=>c.tables.length - i) (fun i S=>i<=c.tables.length/\S.boxes=[(L,.c (cTab t6)),(A,.c [nilS,nilS,nilS,nilS]),(u,.c (cTab t)),(q,.c (qT c))]/\S.rows=[]/\S.σ 2=ptr q/\S.σ 3=ptr u/\S.σ 4=ptr A/\S.σ 8=vint i) 0 ⟨0,?_⟩ (fun i S ⟨hi,j,H,h,D,G,o⟩=>?_)
 ·exact qA
  done
 ·have fin:∀ (y:Value) (X:Bx) (Y:List VL.Row),∃ v C K,Le (.tup [.agg [.list (some y) 4 (List.take i (c.tables.map cTab)++[cTab t]++List.drop i (c.tables.map cTab)),qm c.features,qm c.drafts,qm c.past],vint 0]) v/\C.Sublist X/\K.Sublist Y/\(∃ (c:Cat) (k:Int),v=.tup [zO c,vint k]/\zD (n+1) c)/\C=[]/\K=[]:=fun y X Y=>by
   refine⟨.tup [zO ⟨c.tables.take i++(t::c.tables.drop i),c.features,c.drafts,c.past⟩,vint 0],[],[],jf (.cons (wc (.cons ?_ (.c1 (.c1 (.c1 .nil))))) (.c1 .nil)),zn _,zn _,⟨_,0,rfl,zD.of ?_ (fun z e=>?_) (d.fl.up (qF2 _)) (d.dl.up (qF2 _)) (d.pl.up (qF2 _))⟩,rfl,rfl⟩
   ·rw [qR,k8,z7,qOt,qO1];refine fun w I x T=>?_;have:=Le.list _ _ _ w I x T;simp_all
   ·have:=d.lt;rw [zr,qKg,kB,qA8];omega
   ·rcases z6.1 e with e | e
    ·exact d.ft z (qAq e)
    ·rcases xb.1 e with rfl | e
     ·omega
     ·exact d.ft z (qEu e)
  have aa:(i:Int)<=c.tables.length:=by omega
  have p:(List.take i (c.tables.map cTab)).length=i:=by rw [kB,zz];omega
  have J:(List.drop i (c.tables.map cTab)).length=c.tables.length - i:=by rw [qA8,zz]
  by_cases Q:i < c.tables.length
  case neg =>
   refine qn ?_;refine jS.l ?_
   try simp only [↓rA,rU,j,H,h,D,o,a,simprocAttr]
   refine fun U=>⟨by omega,by omega,fun W Z=>xf ?_⟩;simp only [↓rA,rU,j,h,o,a,p,simprocAttr];refine⟨by omega,fun y4=>⟨by omega,yt ?_⟩⟩;simp only [↓rA,rU,j,h,G,a,p,J,zr,simprocAttr];refine⟨by omega,fun y5=>?_⟩;simp_all
  ·have ac:=qj Q;refine qn ?_;apply qf <;> intro hc
   ·refine qa ?_;exact⟨i+1,by omega,0,by omega,rfl,rfl⟩
   ·refine qa ?_;refine jS.l ?_
    try simp only [↓rA,rU,j,H,h,D,o,a,simprocAttr]
    refine fun U=>⟨by omega,by omega,fun W Z=>xf ?_⟩;simp only [↓rA,rU,j,h,o,a,p,simprocAttr];refine⟨by omega,fun y4=>⟨by omega,yt ?_⟩⟩;simp only [↓rA,rU,j,h,G,a,p,J,zr,simprocAttr];refine⟨by omega,fun y5=>?_⟩;simp_all
theorem qdc (n:Nat) (c:Cat) (g:Chg) (h:n<=999999) (d:zD n c) (w:qia g) (x:GF g.feature):WI (n+1) prog 119 [zO c,.agg (yn g)]:=by
 have o:=qca n c g.feature h d x;simp only [qs] at o;simp only [wJ];refine oE func119 fun F K y=>?_;refine qb fun z p=>?_;refine qb fun A q=>?_;refine qb fun C u=>?_;have D:=aI p (aI q u);by_cases G:g.kind=1
 ·refine qW (qiv n c g.table h d w.1) ?_;rintro v e k ⟨⟨c1,j,rfl,a⟩,rfl,rfl⟩;refine qa ?_;exact Z7 _ _ _ _ _ _ _ _ a
 by_cases H:g.kind=2
 ·refine qW (o) ?_;rintro v e k ⟨⟨c1,j,rfl,a⟩,rfl,rfl⟩;refine qa ?_;exact Z7 _ _ _ _ _ _ _ _ a
 by_cases I:g.kind=3
 ·refine qW (qc5 n c g.name h d) ?_;rintro v e k ⟨⟨c1,j,rfl,a⟩,rfl,rfl⟩;refine qa ?_;exact Z7 _ _ _ _ _ _ _ _ a
 by_cases J:g.kind=4
 ·refine qW (V9 n c g.name h d) ?_;rintro v e k ⟨⟨c1,j,rfl,a⟩,rfl,rfl⟩;refine qa ?_;exact Z7 _ _ _ _ _ _ _ _ a
 refine qa ?_;refine qF (qsh n c g.name (by omega) d) ?_;rintro v e k ⟨⟨c1,j,rfl,a⟩,rfl,rfl⟩;refine qa ?_;exact Z7 _ _ _ _ _ _ _ _ (zD.of (qIa a.lt) a.ft (a.fl.up (qF2 _)) (a.dl.up (qF2 _)) (a.pl.up (qF2 _)))
theorem qml (n:Nat) (c:Cat) (g:Chg) (A:n<=999999) (z:zD n c) (e:qia g) (y:GF g.feature):WI (n+1) prog 82 [zO c,.agg (yn g)]:=by
 have o:=qe9 g e;have d:=qdc n c g A z e y;simp only [wJ] at o d ⊢;refine oE func82 fun F M D=>?_;refine qb fun G q=>?_;refine qb fun H u=>?_;refine qb fun I w=>?_;have h:=aI q (aI u w);refine qW o ?_;rintro v a p ⟨⟨b,rfl⟩,rfl,rfl⟩;cases b
 ·refine qa ?_;exact u6 _ _ _ _
 refine qW d ?_;rintro v a p ⟨⟨c1,C,rfl,j⟩,rfl,rfl⟩;refine qb fun J x=>?_;have h:=aI h x;by_cases L:C=0
 case neg =>
  refine qa ?_;exact u6 _ _ _ _
 refine qa ?_;refine qF (ql5 (n+1) c1 (by omega) j) ?_;rintro v a p ⟨⟨k,rfl⟩,rfl,rfl⟩;by_cases K:k=0
 case neg =>
  refine qa ?_;exact u6 _ _ _ _
 refine qa ?_;exact Z7 _ _ _ _ _ _ _ _ j
theorem ym (e:yg):XJ e=vint e.no::vint e.tick::vint e.kind::(KN e.fact++(Up e.erasure++cG e.change e.change.feature.body.hd (kI e.change.feature.body.args))):=rfl
abbrev xN (l:List yg):V:=.list none 40 (l.map XJ)
def qbq (l:List yg) (i:Nat) (h:i < l.length):Bool:=(l.take i).any fun e=>decide (e.kind=1) && (decide (e.fact.src=l[i].fact.src) && decide (e.fact.seq=l[i].fact.seq))
theorem qit (l:List yg) (i:Nat) (h:i < l.length) (C:l.length<=1000000):zk prog 80 [xN l,vint i] (qq (qbq l i h)):=by
 refine oE func80 fun F G z=>?_;refine qa ?_;refine qG Ty.mixed (by kernel_rfl) i (fun j S=>(l.take j).any (fun e=>decide (e.kind=1) && (decide (e.fact.src=l[i].fact.src) && decide (e.fact.seq=l[i].fact.seq)))=false/\S.boxes=[]/\S.rows=[]/\S.σ 0=xN l/\S.σ 1=vint i/\S.σ 5=vint j) ⟨0,?_⟩ (fun j S d ⟨a,q,u,n,o,p⟩=>?_) (fun S ⟨a,q,u,n,o,p⟩=>?_)
 ·exact qD
 ·have D:=qj d;have k:j < l.length:=qPs d h;have c1:=ym l[i];have A:=ym l[j];by_cases x:l[j].kind=1
  ·cases y:(decide (l[j].fact.src=l[i].fact.src) && decide (l[j].fact.seq=l[i].fact.seq))
   ·refine qn ?_;have w:((l.take (j+1)).any fun e=>decide (e.kind=1) && (decide (e.fact.src=l[i].fact.src) && decide (e.fact.seq=l[i].fact.seq)))=false:=by
     rw [zt k,qQ6,a];simp only [List.any_cons,List.any_nil,y,qPu,qP3]
    simp_all
   ·refine qn ?_;refine qc (qQ ?_);rw [qbq];refine(qP6.2 ⟨l[j],?_,?_⟩).symm
    ·exact List.mem_take_iff_getElem.2 ⟨j,by omega,rfl⟩
    simp_all
  ·refine qn ?_;have w:((l.take (j+1)).any fun e=>decide (e.kind=1) && (decide (e.fact.src=l[i].fact.src) && decide (e.fact.seq=l[i].fact.seq)))=false:=by
    rw [zt k,qQ6,a];simp [x]
   simp_all
 ·refine qn ?_;exact qc (qQ a.symm)
def OkE (l:List yg) (i:Nat) (h:i < l.length):Prop :=
 (1<=l[i].no/\l[i].no<=1099511627776/\0<=l[i].tick/\l[i].tick<=1099511627776)/\(∀ m,∀ a:i=m+1,l[m].no < l[i].no/\l[m].tick<=l[i].tick)/\(l[i].kind=1->xz l[i].fact=true/\qbq l i h=false/\∀ v ∈ l[i].fact.fields,wQ v=0)
structure VR (e:yg):Prop where
 chg:qia e.change
 ftr:GF e.change.feature
 key:e.erasure.key.size<=1099511627776
 fld:e.fact.fields.length<=big
theorem Ju (n:Nat) (c:Cat) (l:List yg) (i:Nat) (h:i < l.length) (k:Int) (X:Bx) (Y:List VL.Row) (a:zD n c) (j:k=0->OkE l i h) :
  ∃ v d e,Le (.tup [.agg [qR c.tables,qm c.features,qm c.drafts,qm c.past],vint k]) v/\d.Sublist X/\e.Sublist Y/\(∃ (c':Cat) (k:Int),v=.tup [zO c',vint k]/\zD (n+1) c'/\(k=0->OkE l i h))/\d=[]/\e=[] :=
 ⟨_,[],[],Le.refl _,zn _,zn _,⟨c,k,rfl,zD.of (qIa a.lt) a.ft (a.fl.up (qF2 _)) (a.dl.up (qF2 _)) (a.pl.up (qF2 _)),j⟩,rfl,rfl⟩
theorem qv7 (n:Nat) (c:Cat) (l:List yg) (i:Nat) (h:i < l.length) (P:l.length<=1000000) (R:n<=999999) (a:zD n c) (e:VR l[i]):Ok prog 45 [xN l,vint i,zO c] [] fun v d rs =>
  (∃ (c':Cat) (k:Int),v=.tup [zO c',vint k]/\zD (n+1) c'/\(k=0->OkE l i h))/\d=[]/\rs=[]:=by
 have C:=qr5 l[i] e.chg;have M:=ql4 c l[i].fact (km a.lt (by omega)) e.fld;have A:=qml n c l[i].change R a e.chg e.ftr;have N:=qlq l[i].erasure e.key;have U:=qit l i h P;simp only [wJ,ym] at C A;refine oE func45 fun F w0 X=>?_;refine qb fun u J=>?_;refine qb fun w K=>?_;have j:=aI J K;have c1:=ym l[i];refine qn ?_;refine qX fun x L=>?_;have j:=aI j L;by_cases Y:l[i].no < 1
 ·refine qa ?_;exact Ju _ _ _ _ _ _ _ _ a (fun h=>absurd h (by decide))
 by_cases Z:1099511627776 < l[i].no
 ·refine qa ?_;exact Ju _ _ _ _ _ _ _ _ a (fun h=>absurd h (by decide))
 by_cases a3:l[i].tick < 0
 ·refine qa ?_;exact Ju _ _ _ _ _ _ _ _ a (fun h=>absurd h (by decide))
 by_cases a4:1099511627776 < l[i].tick
 ·refine qa ?_;exact Ju _ _ _ _ _ _ _ _ a (fun h=>absurd h (by decide))
 simp only [↓qJ,↓zx,↓ua,↓wR,zw,qu,kM,vA,wB,jx,yd,ky,ub,kO,jA,jZ,zP,j1,yh,xB,Xu,yx,w3,eq_self,and_self,not_false_eq_true,ne_eq,z7,Jx,List.take_zero,qL1,qO3,List.length_cons,List.length_nil,List.nil_append,wl,List.toList_toArray,qJ0,qM9,Nat.reduceEqDiff,Nat.reduceAdd,Int.toNat_natCast,results45,tU,Nat.reduceShiftRight,Nat.reduceMod];rw [zu];refine xe (fun S=>(∀ m,∀ Q:i=m+1,l[m].no < l[i].no/\l[m].tick<=l[i].tick)/\S.boxes=[(x,.c (vint l[i].no::vint l[i].tick::vint l[i].kind::(KN l[i].fact++(Up l[i].erasure++cG l[i].change l[i].change.feature.body.hd (kI l[i].change.feature.body.args))))),(w,.c [nilS,nilS,nilS,nilS]),(u,.c (qT c))]/\S.rows=[]/\S.σ 0=xN l/\S.σ 1=vint i/\S.σ 5=ptr u/\S.σ 6=ptr w/\S.σ 8=ptr x) ?_ ?_
 ·rcases i with _ | m
  ·refine qa ?_;simp
  ·have Q:m < l.length:=by omega
   have ab:=uI m (by omega);have hp:(0:Int) < ((m+1:Nat):Int):=by omega
   have y:=ym l[m];by_cases o1:l[m+1].no<=l[m].no
   ·refine qn ?_;exact Ju _ _ _ _ _ _ _ _ a (fun h=>absurd h (by decide))
   by_cases o2:l[m+1].tick < l[m].tick
   ·refine qn ?_;exact Ju _ _ _ _ _ _ _ _ a (fun h=>absurd h (by decide))
   refine qn ?_;refine⟨fun m' aa=>?_,?_⟩
   ·simp_all
   rfl
 rintro S ⟨H,gb,p,g0,g1,z,o,g8⟩;refine qW C ?_;rintro v d rs ⟨⟨b,rfl⟩,rfl,rfl⟩;cases b
 ·refine qa ?_;exact Ju _ _ _ _ _ _ _ _ a (fun h=>absurd h (by decide))
 by_cases W:l[i].kind=1
 ·refine qW M ?_;rintro v d rs ⟨⟨k,rfl,D⟩,rfl,rfl⟩;by_cases q:k=0
  ·refine qi _ U ?_;cases T:qbq l i h
   ·refine qa ?_;exact Ju _ _ _ _ _ _ _ _ a (fun _=>⟨⟨by omega,by omega,by omega,by omega⟩,H,fun _=>⟨(D q).1,T,(D q).2⟩⟩)
   ·refine qa ?_;exact Ju _ _ _ _ _ _ _ _ a (fun h=>absurd h (by decide))
  ·refine qa ?_;exact Ju _ _ _ _ _ _ _ _ a (fun h=>absurd h q)
 have G:OkE l i h:=⟨⟨by omega,by omega,by omega,by omega⟩,H,fun h=>absurd h W⟩;by_cases I:l[i].kind=2
 ·refine qW N ?_;rintro v d rs ⟨⟨b,rfl⟩,rfl,rfl⟩;cases b
  ·simp only [↓rA,rU,p,z,o,j,I,simprocAttr];exact Ju _ _ _ _ _ _ _ _ a (fun h=>absurd h (by decide))
  ·simp only [↓rA,rU,p,z,o,j,I,simprocAttr];exact Ju _ _ _ _ _ _ _ _ a (fun _=>G)
 ·refine qW A ?_;rintro v d rs ⟨⟨y,k,rfl,O⟩,rfl,rfl⟩;simp only [↓rA,rU,p,o,j,simprocAttr];exact r0 ⟨⟨y,k,rfl,O,fun _=>G⟩,rfl,rfl⟩
def KT (c:Cat):Prop:=zD 32 c/\qTp c
abbrev catE:Cat:=⟨[],[],[],[]⟩
theorem qJk:KT catE:=⟨zD.of (KM _) (fun t d=>absurd d y8) ⟨KM _,fun f a=>absurd a y8⟩ ⟨KM _,fun f a=>absurd a y8⟩ ⟨KM _,fun f a=>absurd a y8⟩,⟨⟨fun _=>0,fun s x h=>by exact qD⟩,fun f a=>absurd a y8⟩⟩
theorem qw8:yf Km (qT catE):=.cons (Le.nil 4) (.cons (Le.nil 18) (.cons (Le.nil 18) (.cons (Le.nil 18) .nil)))
abbrev fnC (a d:Nat):V:=.lit (.func (.func 46) #[] #[.pointer (some ⟨a,0,none⟩),.pointer (some ⟨d,0,none⟩)])
theorem qhl (l:List yg) (tick:Int):Ok prog 19 [xN l,vint tick] [] fun v e rs=>(∃ a d,v=fnC a d/\e=[(d,.c [vint tick]),(a,.c [xN l])])/\rs=[]:=by
 refine oE func19 fun F n h=>?_;refine qb fun a j=>?_;refine qb fun d k=>?_;refine qa ?_;exact⟨_,[_,_],[],Le.refl _,zc _,zn _,⟨a,d,rfl,rfl⟩,rfl⟩
theorem qFc (l:List yg) (hl:l.length<=1000000) (hf:∀ e ∈ l,VR e) (tick:Int) (y k j:Nat) (hb:k ≠ j/\j ≠ k) (J:Cat->Bx->Prop) (a:Bx) (h0:J catE a)
  (hY:∀ x c d a,KT d->J c a->Q3 prog y [.agg (yR x),.agg (qT d)] a fun v z rs=>v=qq true/\J d z/\rs=[]) :
  Ok prog 46 [.lit (.func (.yield y) #[] #[]),ptr k,ptr j] ((j,.c [vint tick])::(k,.c [xN l])::a) fun v z rs=>(∃ c h,KT c/\J c h/\z=(j,.c [vint tick])::(k,.c [xN l])::h)/\rs=[]:=by
 refine Ok.permR (Q:=fun v z rs=>(∃ c h,KT c/\J c h/\z.Perm ((j,.c [vint tick])::(k,.c [xN l])::h))/\rs=[]) ?_ fun v z rs ⟨⟨c,h,h1,h2,hp⟩,h3⟩=>⟨_,hp,⟨c,h,h1,h2,rfl⟩,h3⟩;refine oE func46 fun F w0 I0=>?_;refine qb fun T h4=>?_;have N:=aI hb h4;refine qa ?_;refine zI Ty.mixed (by rfl) l.length (fun i S=>∃ c a o p u w,(KT c/\J c a/\yf [o,p,u,w] (qT c)/\yx [o,p,u,w]=true)/\S.boxes=(T,.c [o,p,u,w])::(j,.c [vint tick])::(k,.c [xN l])::a/\S.rows=[]/\S.σ 0=.lit (.func (.yield y) #[] #[])/\S.σ 2=ptr j/\S.σ 4=ptr T/\S.σ 9=xN l/\S.σ 10=vint l.length/\S.σ 11=vint i) ⟨_,_,_,_,zc _,zc _,zp _,zp _,?_⟩ (fun i S X ⟨c,a,o,p,u,w,⟨K,I,O,P⟩,Z,H,L,D,M,G,A,C⟩=>?_) (fun S ⟨c,a,o,p,u,w,⟨K,I,O,P⟩,Z,H,L,D,M,G,A,C⟩=>?_)
 ·exact⟨catE,a,nilS,nilS,nilS,nilS,⟨qJk,h0,qw8,rfl⟩,rfl,rfl,by rfl,by rfl,by rfl,by rfl,by rfl,by rfl⟩
 ·have R:=qj X;have W:=hf _ (zs X);have U:=Ok.le (.cons (wc O) (.c1 .nil)) (qz3 c l[i].change K.1 W.ftr W.chg.1);rw [yR,qs] at U;simp only [↓rA,rU,Z,H,G,A,C,zq,X,ym,simprocAttr];generalize l[i]=e at W U;refine qX fun b6 h6=>?_;have N:=aI N h6;refine qa ?_;by_cases k3:e.kind=3
  case neg =>
   simp only [↓rA,rU,C,k3,R,simprocAttr];exact⟨_,_,_,_,(zc _).cons _,zc _,zp _,zp _,c,a,o,p,u,w,⟨K,I,O,P⟩,rfl,H,L,D,M,G,A,rfl⟩
  by_cases q:tick < e.tick
  ·simp only [↓rA,rU,D,C,N,k3,q,R,simprocAttr];exact⟨_,_,_,_,(zc _).cons _,zc _,zp _,zp _,c,a,o,p,u,w,⟨K,I,O,P⟩,rfl,H,L,D,M,G,A,rfl⟩
  refine qW U ?_;rintro v z rs ⟨⟨d,n,rfl,hd⟩,rfl,rfl⟩;refine qb fun b7 h7=>?_;have N:=aI N h7;by_cases Y:n=0
  case neg =>
   simp only [↓rA,rU,H,C,Y,R,simprocAttr];exact⟨_,_,_,_,((zc _).cons _).cons _,zc _,zp _,zp _,c,a,o,p,u,w,⟨K,I,O,P⟩,rfl,rfl,L,D,M,G,A,rfl⟩
  have aa:=hY e.change c d a (hd Y) I;rw [yR,qs] at aa;refine qa ?_;refine ye a [_,_,_,_,_] (x8 (l₁:=[_,_,_,_,_]) (l₂:=a)) aa ?_;rintro v h rs ⟨rfl,ab,rfl⟩ _;simp only [↓rA,rU,H,C,R,simprocAttr];exact⟨h++[(T,.c (qT d)),(j,.c [vint tick]),(k,.c [xN l])],_,_,_,(zc _).append (List.Sublist.cons _ (List.Sublist.cons _ (zc _))),zc _,x8,zp _,d,h,_,_,_,_,⟨hd Y,ab,yf.refl _,rfl⟩,rfl,rfl,L,D,M,G,A,rfl⟩
 ·refine qn ?_;exact⟨_,_,[],Le.refl _,List.Sublist.cons _ (zc _),zn _,⟨c,a,K,I,zp _⟩,rfl⟩
end Go.Proofs.YtkdgbjhbpbgdeaaGreatDoor
