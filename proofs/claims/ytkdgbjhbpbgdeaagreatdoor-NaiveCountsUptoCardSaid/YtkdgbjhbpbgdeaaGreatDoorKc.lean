/- Merged out of my texts Q1 Q2 YE Y6 Y8 YB YN YD0 YD YF CG CH CI CJ CK CL CM CN CO CP YX YG YH YI. -/
import Derived.Test.YtkdgbjhbpbgdeaaGreatDoorKA
import Derived.Test.YtkdgbjhbpbgdeaaGreatDoorKb
import Derived.Test.YtkdgbjhbpbgdeaaGreatDoorKVc
import Derived.Shelf.Spec.BitsCarry
import Derived.Test.YtkdgbjhbpbgdeaaGreatDoorKVb
import Derived.Test.YtkdgbjhbpbgdeaaGreatDoorKVa
set_option linter.unusedSimpArgs false
set_option maxRecDepth 100000
set_option linter.defProp false
set_option maxHeartbeats 4000000
set_option linter.unusedVariables false
open Go.Proofs.Tryz
open Go.VL Go.Ar Go.Sg Go.Lo Go.Nm
namespace Go.Proofs.YtkdgbjhbpbgdeaaGreatDoor
open Arr
theorem qCo (x:Int) (a:0<=x) (d:x < 18446744073709551616):zk prog 341 [vu x] (vint (64 - zN x.toNat)):=by
 have j:zN x.toNat<=64:=KO (by omega);refine oE func341 fun F k e=>?_;refine qi _ (qfw x a d) ?_;exact qe (h:=by rw [qv (by omega) (by omega)])
theorem wU {n:Int} (h:0<=n) (a:n < 18446744073709551616):IntKind.u64.wrap n=n:=by rw [IntKind.wrap_u64];omega
variable {a b:Nat}
theorem wM (h:a * b < 18446744073709551616):IntKind.u64.wrap ((a:Int) * (b:Int))=((a * b:Nat):Int):=wU (qMo (a * b)) (by omega)
theorem wA (h:a+b < 18446744073709551616):IntKind.u64.wrap ((a:Int)+(b:Int))=((a+b:Nat):Int):=wU (qMo (a+b)) (by omega)
theorem wS (h:b<=a) (d:a < 18446744073709551616):IntKind.u64.wrap ((a:Int) - (b:Int))=((a - b:Nat):Int):=by rw [Int.natCast_sub h];exact wU (by omega) (by omega)
theorem qM8 (d:a < 18446744073709551616) (hb:b < 18446744073709551616):((BitVec.ofInt IntKind.u64.bits (a:Int) ||| BitVec.ofInt IntKind.u64.bits (b:Int)).toNat:Int)=((a ||| b:Nat):Int):=by
 rw [BitVec.toNat_or,qOn,qOn];show (((a:Int) % 18446744073709551616).toNat ||| ((b:Int) % 18446744073709551616).toNat:Nat)=((a ||| b:Nat):Int);rw [qQs (by omega) (by omega),qQs (by omega) (by omega)];rfl
theorem qsj (o j y:Nat) (hy:o < y) (a0:y < 18446744073709551616) (aT:j < 18446744073709551616):zk prog 302 [vu o,vu j,vu y] (.tup [vu (((o * 18446744073709551616+j) / y:Nat):Int),vu (((o * 18446744073709551616+j) % y:Nat):Int)]):=by
 have aW:¬ (y:Int)=0:=by omega
 have a1:¬ (y:Int)<=o:=by omega
 refine oE func302 fun F w0 I0=>?_;refine qa ?_;by_cases hz:o=0
 ·subst hz;have e1:(j:Int).tdiv (y:Int)=((j / y:Nat):Int):=rfl;have e2:(j:Int).tmod (y:Int)=((j % y:Nat):Int):=rfl;have e3:IntKind.u64.wrap ((j / y:Nat):Int)=((j / y:Nat):Int):=wU (qMo _) (by have:=Nat.div_le_self j y;omega);exact qe (h:=by simp)
 have aK:¬ (o:Int)=0:=by omega
 refine qa ?_;refine qo _ (qCo y (by omega) (by omega)) ?_;rw [qQr];obtain⟨aG,ac⟩:=qdf (n:=y) (by omega);have aS:zN y<=64:=KO (by omega);have aR:1<=zN y:=by have:=qbc (n:=y) (by omega);omega
 obtain⟨s,hs⟩:∃ s:Nat,zN y+s=64:=⟨64 - zN y,by omega⟩;have e4:(64:Int) - (zN y:Int)=(s:Int):=by omega
 rw [e4];have hS:2 ^ zN y * 2 ^ s=18446744073709551616:=by rw [<-qQ2,hs]
 have aC:2 ^ (zN y - 1) * 2 ^ s=9223372036854775808:=by rw [<-qQ2,show zN y - 1+s=63 by omega]
 have ak:2 ^ (64 - s) * 2 ^ s=18446744073709551616:=by rw [<-qQ2,show 64 - s+s=64 by omega]
 have hp:0 < 2 ^ s:=qPg s;have aF:y * 2 ^ s < 18446744073709551616:=by rw [<-hS];exact Nat.mul_lt_mul_of_pos_right aG hp
 have aY:9223372036854775808<=y * 2 ^ s:=by rw [<-aC];exact qG4 _ ac
 have hH:o * 2 ^ s+j / 2 ^ (64 - s) < y * 2 ^ s:=by
  have h1:j / 2 ^ (64 - s) < 2 ^ s:=(qMt (qPg _)).2 (by rw [qOx,ak];omega);have h2:(o+1) * 2 ^ s<=y * 2 ^ s:=qG4 _ hy;rw [uu,qOo] at h2;omega
 have aM:o * 2 ^ s < 18446744073709551616:=qKu (qQy _ _) (qPs hH aF);have aO:j / 2 ^ (64 - s) < 18446744073709551616:=qKu (Nat.div_le_self _ _) aT;have hO:o * 2 ^ s ||| j / 2 ^ (64 - s)=o * 2 ^ s+j / 2 ^ (64 - s):=by
  have h1:j / 2 ^ (64 - s) < 2 ^ s:=(qMt (qPg _)).2 (by rw [qOx,ak];omega);rw [<-Nat.shiftLeft_eq,Nat.shiftLeft_add_eq_or_of_lt h1]
 have hN:(o * 2 ^ s+j / 2 ^ (64 - s)) * 18446744073709551616+j * 2 ^ s % 18446744073709551616=(o * 18446744073709551616+j) * 2 ^ s:=by
  have h1:=qOq (j * 2 ^ s) 18446744073709551616;have h2:j * 2 ^ s / 18446744073709551616=j / 2 ^ (64 - s):=by rw [<-ak,qRv _ _ hp]
  rw [h2] at h1;rw [uu,uu,Nat.mul_right_comm];omega
 have hq:(o * 18446744073709551616+j) / y=(o * 18446744073709551616+j) * 2 ^ s / (y * 2 ^ s):=(qRv _ _ hp).symm;have hr:(o * 18446744073709551616+j) % y=(o * 18446744073709551616+j) * 2 ^ s % (y * 2 ^ s) / 2 ^ s:=by rw [Nat.mul_mod_mul_right,Nat.mul_div_cancel _ hp]
 have fd:∀ (n k:Nat),(n:Int).fdiv (2 ^ k)=((n / 2 ^ k:Nat):Int):=fun n k=>by
  rw [qLe _ (qQb (qQ8 (by decide)))];rfl
 have eY:IntKind.u64.wrap ((y:Int) * 2 ^ s)=((y * 2 ^ s:Nat):Int):=by
  rw [show (y:Int) * 2 ^ s=((y * 2 ^ s:Nat):Int) by rfl];exact wU (by omega) (by omega)
 have eH:IntKind.u64.wrap ((o:Int) * 2 ^ s)=((o * 2 ^ s:Nat):Int):=by
  rw [show (o:Int) * 2 ^ s=((o * 2 ^ s:Nat):Int) by rfl];exact wU (qMo _) (by omega)
 have eL:IntKind.u64.wrap ((j:Int) * 2 ^ s)=((j * 2 ^ s % 18446744073709551616:Nat):Int):=by
  rw [show (j:Int) * 2 ^ s=((j * 2 ^ s:Nat):Int) by rfl,IntKind.wrap_u64];rfl
 have e5:IntKind.u64.wrap (s:Int)=(s:Int):=wU (by omega) (by omega);have e6:0<=(s:Int):=by omega
 have e7:min s IntKind.u64.bits=s:=qKt (by show s<=64;omega);have e8:IntKind.u64.wrap (64 - (s:Int))=((64 - s:Nat):Int):=by rw [show 64 - (s:Int)=((64 - s:Nat):Int) by omega];exact wU (by omega) (by omega)
 have e9:0<=((64 - s:Nat):Int):=by omega
 have az:min (64 - s) IntKind.u64.bits=64 - s:=qKt (by show 64 - s<=64;omega);have aL:min 32 IntKind.u64.bits=32:=rfl;have an:IntKind.u64.wrap ((BitVec.ofInt IntKind.u64.bits ((o * 2 ^ s:Nat):Int) ||| BitVec.ofInt IntKind.u64.bits ((j / 2 ^ (64 - s):Nat):Int)).toNat:Int)=((o * 2 ^ s+j / 2 ^ (64 - s):Nat):Int):=by
  rw [qM8 aM aO,hO];exact wU (qMo _) (zq.2 (qPs hH aF))
 rw [hq,hr,<-hN];clear hO hq hr hN aG ac aS aR e4 hS aC ak;generalize aZ:y * 2 ^ s=Y at *;obtain⟨A,hA⟩:∃ A,A=Y / 4294967296:=⟨_,rfl⟩;obtain⟨e,hB⟩:∃ e,e=Y % 4294967296:=⟨_,rfl⟩;obtain⟨W,hW⟩:∃ W,W=j * 2 ^ s % 18446744073709551616:=⟨_,rfl⟩;rw [<-hW] at eL ⊢;have aX:W < 18446744073709551616:=by omega
 clear hW;obtain⟨a,ha⟩:∃ a,a=W / 4294967296:=⟨_,rfl⟩;obtain⟨b,hb⟩:∃ b,b=W % 4294967296:=⟨_,rfl⟩;obtain⟨U,hU⟩:∃ U,U=o * 2 ^ s+j / 2 ^ (64 - s):=⟨_,rfl⟩;rw [<-hU] at an hH ⊢;clear hU;have eA:(Y:Int) / 4294967296=(A:Int):=by omega
 have eB:(Y:Int) % 4294967296=(e:Int):=by omega
 have ea:(W:Int) / 4294967296=(a:Int):=by omega
 have eb:(W:Int) % 4294967296=(b:Int):=by omega
 have aA:¬ (A:Int)=0:=by omega
 have ab:Y=A * 4294967296+e:=by omega
 have aQ:W=a * 4294967296+b:=by omega
 have af:(U:Int).tdiv (A:Int)=((U / A:Nat):Int):=rfl;have aD:U / A<=4294967297:=Ve (yn0:=e) (by omega) (by omega) (by omega);have am:U / A * A<=U:=qR3 U A;have al:U - U / A * A=U % A:=by have:=qOq U A;rw [qOx] at this;omega
 have ag:IntKind.u64.wrap ((U / A:Nat):Int)=((U / A:Nat):Int):=wU (qMo _) (by omega);have ah:IntKind.u64.wrap (((U / A:Nat):Int) * (A:Int))=((U / A * A:Nat):Int):=wM (by omega);have ai:IntKind.u64.wrap ((U:Int) - ((U / A * A:Nat):Int))=((U % A:Nat):Int):=by rw [wS am (by omega),al]
 have Z:2147483648<=A:=by omega
 have aB:A < 4294967296:=by omega
 have aj:e < 4294967296:=by omega
 have ar:a < 4294967296:=by omega
 have ac:b < 4294967296:=by omega
 have ap:U < A * 4294967296+e:=by omega
 have hg:=Dg.start (d:=a) Z aB aj ar ap;simp only [↓zu,↓wh,↓qJ,↓zx,↓QH,↓zA,↓ZG,↓VJ,↓qa3,↓qhd,zw,qu,kM,vA,wz,uk,Yn,qHq,QJ,kO,xY,zP,qaa,ZC,jq,eq_self,and_self,if_true,not_false_eq_true,decide_false,ne_eq,qPl,qQi,wl,List.toList_toArray,Int.toNat_natCast,results302,aK,e5,e6,e7,Int.toNat_natCast,eY,eH,eL,e8,e9,az,an,fd j,qHn,qGh,eA,eB,ea,eb,aA,af,ag,ah,ai,tU,simprocAttr];clear aK aW e6 e7 eY eH eL e8 e9 az an af ag ah ai hz al am aD aL hA hB ha hb;refine xe (fun S=>S.boxes=[]/\S.rows=[]/\S.σ 2=vu Y/\S.σ 8=vu s/\S.σ 9=vu A/\S.σ 10=vu e/\S.σ 11=vu U/\S.σ 13=vu a/\S.σ 14=vu b/\S.σ 15=vu (((U * 4294967296+a) / Y:Nat):Int)) ?_ ?_
 ·simp only [↓rA];refine Qi Ty.mixed (by rfl) (fun q=>q) (fun(q:Nat) S=>(∃ r,Dg A e U a q r/\S.σ 16=vu r)/\S.rows=[]/\S.boxes=[]/\S.σ 2=vu Y/\S.σ 8=vu s/\S.σ 9=vu A/\S.σ 10=vu e/\S.σ 11=vu U/\S.σ 13=vu a/\S.σ 14=vu b/\S.σ 15=vu q) (U / A) ⟨_,_,zc _,zc _,?_⟩ (fun q S ⟨⟨r,O,I⟩,K,J,x,z,u,D,T,N,w,p⟩=>?_)
  ·exact⟨⟨_,hg,rfl⟩,rfl,rfl,rfl,rfl,rfl,rfl,rfl,rfl,rfl,rfl⟩
  ·have aw:=O.hi;have aV:=O.rr;have v1:IntKind.u64.wrap (4294967296 * (r:Int))=((r * 4294967296:Nat):Int):=by rw [show 4294967296 * (r:Int)=((r * 4294967296:Nat):Int) by omega];exact wU (qMo _) (by omega)
   have v2:IntKind.u64.wrap (((r * 4294967296:Nat):Int)+(a:Int))=((r * 4294967296+a:Nat):Int):=wA (by omega);by_cases L:4294967296<=q∨r * 4294967296+a < q * e
   ·obtain⟨k1,k2,k3⟩:=O.big Z ar ap L;have v4:IntKind.u64.wrap ((q:Int) - 1)=((q - 1:Nat):Int):=wS (b:=1) k2 (by omega);have Q:IntKind.u64.wrap ((r:Int)+(A:Int))=((r+A:Nat):Int):=wA (by omega);by_cases ay:4294967296<=r+A
    ·have ax:q - 1=(U * 4294967296+a) / Y:=by rw [ab];exact qyv Z aj k3 k1 (by omega) ay
     have H:(4294967296:Int)<=((r+A:Nat):Int):=by omega
     by_cases C:(4294967296:Int)<=(q:Int)
     ·simp only [↓rA,rU,K,J,x,z,u,D,T,N,w,p,I,C,v4,Q,H,simprocAttr];simp_all
     ·have M:IntKind.u64.wrap ((q:Int) * (e:Int))=((q * e:Nat):Int):=wM (qKu (qMq (show q<=4294967295 by omega) (show e<=4294967295 by omega)) (by decide));have G:((r * 4294967296+a:Nat):Int) < ((q * e:Nat):Int):=zq.2 (L.resolve_left (by omega));simp only [↓rA,rU,K,J,x,z,u,D,T,N,w,p,I,C,v1,v2,M,v4,Q,G,H,simprocAttr];simp_all
    ·have H:¬ (4294967296:Int)<=((r+A:Nat):Int):=by omega
     have ad:Dg A e U a (q - 1) (r+A):=⟨k3,k1,by omega,by omega⟩;by_cases C:(4294967296:Int)<=(q:Int)
     ·simp only [↓rA,rU,u,p,I,C,v4,Q,H,simprocAttr];exact⟨q - 1,by omega,[],[],zn _,zn _,⟨_,ad,rfl⟩,rfl,rfl,x,z,u,D,T,N,w,rfl⟩
     ·have M:IntKind.u64.wrap ((q:Int) * (e:Int))=((q * e:Nat):Int):=wM (qKu (qMq (show q<=4294967295 by omega) (show e<=4294967295 by omega)) (by decide));have G:((r * 4294967296+a:Nat):Int) < ((q * e:Nat):Int):=zq.2 (L.resolve_left (by omega));simp only [↓rA,rU,u,D,N,p,I,C,v1,v2,M,v4,Q,G,H,simprocAttr];exact⟨q - 1,by omega,[],[],zn _,zn _,⟨_,ad,rfl⟩,rfl,rfl,x,z,u,D,T,N,w,rfl⟩
   ·have C:¬ (4294967296:Int)<=(q:Int):=by omega
    have M:IntKind.u64.wrap ((q:Int) * (e:Int))=((q * e:Nat):Int):=wM (qKu (qMq (show q<=4294967295 by omega) (show e<=4294967295 by omega)) (by decide));have G:¬ ((r * 4294967296+a:Nat):Int) < ((q * e:Nat):Int):=fun h=>L (.inr (zq.1 h));have ax:q=(U * 4294967296+a) / Y:=by rw [ab];exact O.fin Z fun h=>L (.inr h)
    simp only [↓rA,rU,K,J,x,z,u,D,T,N,w,p,I,C,v1,v2,M,G,simprocAttr];simp_all
 ·rintro S ⟨J,K,x,z,u,D,T,N,w,p⟩;have aq:0 < Y:=by omega
  have au:=qOq (U * 4294967296+a) Y;rw [qOx] at au;have aU:(U * 4294967296+a) / Y < 4294967296:=by rw [ab];exact Vd ar ap
  obtain⟨t1,t2⟩:=qis U a b Y 4294967296 aq;have aE:(U * 4294967296+a) * 4294967296+b=U * 18446744073709551616+W:=by rw [aQ,uu,qQm,qP1]
  rw [aE] at t1 t2;rw [<-t1,<-t2];clear t1 t2 aE;have hR:=qPf (U * 4294967296+a) aq;obtain⟨P,aJ⟩:∃ P,P=(U * 4294967296+a) / Y:=⟨_,rfl⟩;obtain⟨R,ae⟩:∃ R,R=(U * 4294967296+a) % Y:=⟨_,rfl⟩;rw [<-aJ] at au aU p ⊢;rw [<-ae] at au hR ⊢;clear aJ ae;have v6:IntKind.u64.wrap (IntKind.u64.wrap (IntKind.u64.wrap ((U:Int) * 4294967296)+(a:Int)) - IntKind.u64.wrap ((P:Int) * (Y:Int)))=(R:Int):=by
   rw [show (P:Int) * (Y:Int)=((P * Y:Nat):Int) from rfl];simp only [IntKind.wrap_u64];omega
  have ao:R < A * 4294967296+e:=by omega
  have hg:=Dg.start (d:=b) Z aB aj ac ao;have af:(R:Int).tdiv (A:Int)=((R / A:Nat):Int):=rfl;have aD:R / A<=4294967297:=Ve (yn0:=e) (by omega) (by omega) (by omega);have am:R / A * A<=R:=qR3 R A;have al:R - R / A * A=R % A:=by have:=qOq R A;rw [qOx] at this;omega
  have ag:IntKind.u64.wrap ((R / A:Nat):Int)=((R / A:Nat):Int):=wU (qMo _) (by omega);have ah:IntKind.u64.wrap (((R / A:Nat):Int) * (A:Int))=((R / A * A:Nat):Int):=wM (by omega);have ai:IntKind.u64.wrap ((R:Int) - ((R / A * A:Nat):Int))=((R % A:Nat):Int):=by rw [wS am (by omega),al]
  simp only [↓zu,↓wh,↓qJ,↓zx,↓QH,↓zA,↓ZG,zw,qu,kM,vA,kO,xY,zP,ZC,jq,eq_self,and_self,if_true,not_false_eq_true,ne_eq,x,u,T,N,p,v6,aA,af,ag,ah,ai,simprocAttr];refine xe (fun S=>S.boxes=[]/\S.rows=[]/\S.σ 2=vu Y/\S.σ 8=vu s/\S.σ 14=vu b/\S.σ 15=vu P/\S.σ 17=vu R/\S.σ 18=vu (((R * 4294967296+b) / Y:Nat):Int)) ?_ ?_
  ·simp only [↓rA];refine Qi Ty.mixed (by rfl) (fun q=>q) (fun(q:Nat) S=>(∃ r,Dg A e R b q r/\S.σ 16=vu r)/\S.rows=[]/\S.boxes=[]/\S.σ 2=vu Y/\S.σ 8=vu s/\S.σ 9=vu A/\S.σ 10=vu e/\S.σ 14=vu b/\S.σ 15=vu P/\S.σ 17=vu R/\S.σ 18=vu q) (R / A) ⟨_,_,zc _,zc _,?_⟩ (fun q S ⟨⟨r,O,I⟩,K,J,x,z,u,D,w,p,aa,X⟩=>?_)
   ·refine qB ?_;exact⟨_,hg,rfl⟩
   ·have aw:=O.hi;have aV:=O.rr;have v1:IntKind.u64.wrap (4294967296 * (r:Int))=((r * 4294967296:Nat):Int):=by rw [show 4294967296 * (r:Int)=((r * 4294967296:Nat):Int) by omega];exact wU (qMo _) (by omega)
    have v2:IntKind.u64.wrap (((r * 4294967296:Nat):Int)+(b:Int))=((r * 4294967296+b:Nat):Int):=wA (by omega);by_cases L:4294967296<=q∨r * 4294967296+b < q * e
    ·obtain⟨k1,k2,k3⟩:=O.big Z ac ao L;have v4:IntKind.u64.wrap ((q:Int) - 1)=((q - 1:Nat):Int):=wS (b:=1) k2 (by omega);have Q:IntKind.u64.wrap ((r:Int)+(A:Int))=((r+A:Nat):Int):=wA (by omega);by_cases ay:4294967296<=r+A
     ·have ax:q - 1=(R * 4294967296+b) / Y:=by rw [ab];exact qyv Z aj k3 k1 (by omega) ay
      have H:(4294967296:Int)<=((r+A:Nat):Int):=by omega
      by_cases C:(4294967296:Int)<=(q:Int)
      ·simp only [↓rA,rU,K,J,x,z,u,w,p,I,aa,X,C,v4,Q,H,simprocAttr];simp_all
      ·have M:IntKind.u64.wrap ((q:Int) * (e:Int))=((q * e:Nat):Int):=wM (qKu (qMq (show q<=4294967295 by omega) (show e<=4294967295 by omega)) (by decide));have G:((r * 4294967296+b:Nat):Int) < ((q * e:Nat):Int):=zq.2 (L.resolve_left (by omega));simp only [↓rA,rU,K,J,x,z,u,D,w,p,I,aa,X,C,v1,v2,M,v4,Q,G,H,simprocAttr];simp_all
     ·have H:¬ (4294967296:Int)<=((r+A:Nat):Int):=by omega
      have ad:Dg A e R b (q - 1) (r+A):=⟨k3,k1,by omega,by omega⟩;by_cases C:(4294967296:Int)<=(q:Int)
      ·simp only [↓rA,rU,u,I,X,C,v4,Q,H,simprocAttr];exact⟨q - 1,by omega,[],[],zn _,zn _,⟨_,ad,rfl⟩,rfl,rfl,x,z,u,D,w,p,aa,rfl⟩
      ·have M:IntKind.u64.wrap ((q:Int) * (e:Int))=((q * e:Nat):Int):=wM (qKu (qMq (show q<=4294967295 by omega) (show e<=4294967295 by omega)) (by decide));have G:((r * 4294967296+b:Nat):Int) < ((q * e:Nat):Int):=zq.2 (L.resolve_left (by omega));simp only [↓rA,rU,u,D,w,I,X,C,v1,v2,M,v4,Q,G,H,simprocAttr];exact⟨q - 1,by omega,[],[],zn _,zn _,⟨_,ad,rfl⟩,rfl,rfl,x,z,u,D,w,p,aa,rfl⟩
    ·have C:¬ (4294967296:Int)<=(q:Int):=by omega
     have M:IntKind.u64.wrap ((q:Int) * (e:Int))=((q * e:Nat):Int):=wM (qKu (qMq (show q<=4294967295 by omega) (show e<=4294967295 by omega)) (by decide));have G:¬ ((r * 4294967296+b:Nat):Int) < ((q * e:Nat):Int):=fun h=>L (.inr (zq.1 h));have ax:q=(R * 4294967296+b) / Y:=by rw [ab];exact O.fin Z fun h=>L (.inr h)
     simp only [↓rA,rU,K,J,x,z,D,w,p,I,aa,X,C,v1,v2,M,G,simprocAttr];simp_all
  ·clear J K x z u D T N w p;rintro S ⟨J,K,x,z,w,p,aa,X⟩;have av:=qOq (R * 4294967296+b) Y;rw [qOx] at av;have aw:(R * 4294967296+b) / Y < 4294967296:=by rw [ab];exact Vd ac ao
   have aP:=qPf (R * 4294967296+b) aq;obtain⟨q0,aH⟩:∃ q0,q0=(R * 4294967296+b) / Y:=⟨_,rfl⟩;obtain⟨R2,ae⟩:∃ R2,R2=(R * 4294967296+b) % Y:=⟨_,rfl⟩;rw [<-aH] at av aw X ⊢;rw [<-ae] at av aP ⊢;clear aH ae;have v7:IntKind.u64.wrap (IntKind.u64.wrap (IntKind.u64.wrap ((R:Int) * 4294967296)+(b:Int)) - IntKind.u64.wrap ((q0:Int) * (Y:Int)))=(R2:Int):=by
    rw [show (q0:Int) * (Y:Int)=((q0 * Y:Nat):Int) from rfl];simp only [IntKind.wrap_u64];omega
   have v8:IntKind.u64.wrap (IntKind.u64.wrap ((P:Int) * 4294967296)+(q0:Int))=((P * 4294967296+q0:Nat):Int):=by
    simp only [IntKind.wrap_u64];omega
   have e6:0<=(s:Int):=by omega
   have e7:min s IntKind.u64.bits=s:=qKt (by show s<=64;omega);simp only [↓rA,rU,K,J,x,z,w,p,aa,X,v7,v8,e6,e7,fd R2,simprocAttr];exact qc rfl
theorem qgy (a d y:Int) (e:0<=a) (k:a < y) (n:y < 18446744073709551616) (h:0<=d) (j:d < 18446744073709551616):zk prog 302 [vu a,vu d,vu y] (.tup [vu ((a * 18446744073709551616+d) / y),vu ((a * 18446744073709551616+d) % y)]):=by
 obtain⟨a,rfl⟩:=qNu e;obtain⟨d,rfl⟩:=qNu h;obtain⟨y,rfl⟩:=qNu (by omega:0<=y);exact qsj a d y (by omega) (by omega) (by omega)
end Go.Proofs.YtkdgbjhbpbgdeaaGreatDoor
namespace Go.Nm
theorem qH4 (a b:Int):(a % 18446744073709551616+18446744073709551616 - b % 18446744073709551616 - 0) % 18446744073709551616=ww (a - b) % 18446744073709551616:=by unfold ww;omega
theorem qH6 (a b:Int):IntKind.i64.wrap ((IntKind.u64.wrap (a / 18446744073709551616)+18446744073709551616 - IntKind.u64.wrap (b / 18446744073709551616) - (if a % 18446744073709551616 < b % 18446744073709551616+0 then 1 else 0)) % 18446744073709551616)=ww (a - b) / 18446744073709551616:=by
 rw [IntKind.wrap_u64,IntKind.wrap_u64,IntKind.wrap_i64];unfold ww;omega
end Go.Nm
namespace Go.Proofs.YtkdgbjhbpbgdeaaGreatDoor
open Arr
theorem UN (S:St) (x y c:Int) (k:0<=x) (n:0<=y) (q:y < 18446744073709551616) (hc:0<=c) (p:c<=1):qib prog S 248 [vu x,vu y,vu c] (.tup [vu ((x+18446744073709551616 - y - c) % 18446744073709551616),vu (if x < y+c then 1 else 0)]):=by
 intro w I o _ j;have:o=[.int .u64 x,.int .u64 y,.int .u64 c]:=qcc j;subst this;obtain⟨x,rfl⟩:=qNu k;obtain⟨y,rfl⟩:=qNu n;obtain⟨c,rfl⟩:=qNu hc;have a:(((x+18446744073709551616 - y - c) % 18446744073709551616:Nat):Int)=((x:Int)+18446744073709551616 - y - c) % 18446744073709551616:=by omega
 have d:(((if x < y+c then 1 else 0:Nat)):Int)=if (x:Int) < y+c then 1 else 0:=by
  by_cases h:x < y+c
  ·rw [if_pos h,if_pos (by omega)];rfl
  ·rw [if_neg h,if_neg (by omega)];rfl
 refine⟨.tuple #[.int .u64 (((x:Int)+18446744073709551616 - y - c) % 18446744073709551616),.int .u64 (if (x:Int) < y+c then 1 else 0)],w,?_,.inl rfl,?_⟩
 ·rw [run_callFunc_extern func248 (by rfl) (by rfl) (by kernel_rfl) (e:=sub64Entry) (by kernel_rfl),run_sub64 x y c (by omega) w,a,d];rfl
 ·simp only [V.rep];exact⟨_,rfl,by simp only [V.reps,V.rep,and_true]⟩
theorem qm6 (a b:Int):zk prog 167 [.agg (cW a),.agg (cW b)] (.agg (cW (ww (a - b)))):=by
 refine oE func167 fun F u h=>?_;refine qb fun j o=>?_;refine qb fun k p=>?_;refine qb fun n q=>?_;refine qa ?_;refine QL _ (UN _ _ _ 0 (by omega) (by omega) (by omega) (by decide) (by decide)) ?_;refine qa ?_;refine QL _ (UN _ _ _ _ (by rw [IntKind.wrap_u64];omega) (by rw [IntKind.wrap_u64];omega) (by rw [IntKind.wrap_u64];omega) (by omega) (by omega)) ?_;refine qa ?_;have d:=qH4 a b;have e:=qH6 a b;rw [d,e];exact qc rfl
theorem qBa (a:Int):zk prog 340 [.agg (cW a)] (.agg (cW (ww (-a)))):=by
 have d:=qm6 0 a;rw [qRy] at d;refine oE func340 fun F o e=>?_;refine qb fun h k=>?_;refine qb fun j n=>?_;refine qi _ d ?_;exact qe
abbrev cHq (n:Int):List V:=[vu (n % 18446744073709551616),vu (n / 18446744073709551616)]
theorem qd5 (a:Int) (u:-170141183460469231731687303715884105728 < a/\a < 170141183460469231731687303715884105728):zk prog 301 [.agg (cW a)] (.agg (cHq a.natAbs)):=by
 have d:=qBa a;rw [ui (by unfold ki;omega)] at d;refine oE func301 fun F w k=>?_;refine qb fun n p=>?_;refine qb fun o q=>?_;by_cases h:a / 18446744073709551616 < 0
 ·have e:((a.natAbs:Nat):Int)=-a:=by omega
  rw [e];have j:IntKind.u64.wrap (-a / 18446744073709551616)=-a / 18446744073709551616:=wU (by omega) (by omega);refine qi _ d ?_;exact qe
 ·have e:((a.natAbs:Nat):Int)=a:=by omega
  rw [e];have j:IntKind.u64.wrap (a / 18446744073709551616)=a / 18446744073709551616:=wU (by omega) (by omega);exact qe
theorem J1 (w d:Int) (Z:-170141183460469231731687303715884105728 < w/\w < 170141183460469231731687303715884105728) (hd:x5 d):zk prog 238 [.agg (cW w),vint d] (vO (qe4 w d)):=by
 refine oE func238 fun F w0 I0=>?_;refine qb fun n T=>?_;by_cases z:d=0
 ·subst z;exact qe (h:=by rfl)
 have I:=qd5 w Z;have J:=qd5 d (by unfold x5 at hd;omega);refine qi _ I ?_;refine qi _ (Xp d hd) ?_;refine qi _ J ?_;refine qb fun M U=>?_;have G:=aI T U;have X:w.natAbs < 170141183460469231731687303715884105728:=by omega
 have W:d.natAbs<=9223372036854775808:=by unfold x5 at hd;omega
 have e:0 < d.natAbs:=by omega
 have sw:decide (w / 18446744073709551616 < 0)=decide (w < 0):=by
  by_cases h:w < 0
  ·rw [decide_eq_true h,decide_eq_true (by omega)]
  ·rw [decide_eq_false h,decide_eq_false (by omega)]
 have H:qe4 w d=if 1152921504606846976 < qb8 w.natAbs d.natAbs then none else some (if decide (w < 0)=decide (d < 0) then (qb8 w.natAbs d.natAbs:Int) else -(qb8 w.natAbs d.natAbs:Int)):=by unfold qe4;rw [if_neg z]
 rw [H];clear H I J;obtain⟨N,C⟩:∃ N,N=w.natAbs:=⟨_,rfl⟩;obtain⟨D,A⟩:∃ D,D=d.natAbs:=⟨_,rfl⟩;rw [<-C] at X ⊢;rw [<-A] at W e ⊢;clear C A;have k1:(D:Int) % 18446744073709551616=(D:Int):=by omega
 have n1:(1:Int) < ((2:Nat):Int):=by decide
 have n2:(0:Int) < ((2:Nat):Int):=by decide
 refine qa ?_;by_cases Q:(D:Int)<=(N:Int) / 18446744073709551616
 ·refine qa ?_;have Y:1152921504606846976 < qb8 N D:=by
   have:18446744073709551616<=N / D:=(qP9 e).2 (by omega);unfold qb8;split <;> omega
  rw [if_pos Y];exact qc rfl
 have k:=qgy ((N:Int) / 18446744073709551616) ((N:Int) % 18446744073709551616) D (by omega) (by omega) (by omega) (by omega) (by omega);rw [show (N:Int) / 18446744073709551616 * 18446744073709551616+(N:Int) % 18446744073709551616=(N:Int) by omega] at k;have ab:=qPf N e;have aa:N / D < 18446744073709551616:=(qMt e).2 (by omega);rw [show (N:Int) / (D:Int)=((N / D:Nat):Int) from rfl,show (N:Int) % (D:Int)=((N % D:Nat):Int) from rfl] at k;unfold qb8;generalize N / D=q at *;generalize N % D=r at *;have K:IntKind.u64.wrap ((D:Int) - (r:Int))=((D - r:Nat):Int):=wS (by omega) (by omega);have k3:(q:Int).tmod 2=((q % 2:Nat):Int):=rfl;refine qi _ k ?_;simp only [↓qJ,↓zx,↓QH,↓zA,↓XQ,zw,qu,kM,vA,wB,wz,wO,jd,wT,QJ,kO,zP,Wh,not_false_eq_true,decide_false,ne_eq,List.getElem?_cons_zero,List.getElem?_cons_succ,z7,Jx,wl,List.toList_toArray,results238,k1,Q,simprocAttr];rw [zu];refine xe (fun S=>S.rows=[]/\S.boxes=[(M,.c (cHq N)),(n,.c (cW w))]/\S.σ 1=vint d/\S.σ 2=ptr n/\S.σ 8=vu ((if D < 2 * r∨(2 * r=D/\q % 2=1) then q+1 else q:Nat):Int)/\(if D < 2 * r∨(2 * r=D/\q % 2=1) then q+1 else q:Nat) < 18446744073709551616) ?_ ?_
 ·by_cases c1:((D - r:Nat):Int) < (r:Int)
  ·rw [if_pos (.inl (by omega))];by_cases j:(q:Int)=18446744073709551615
   ·have P:=eq_true j;refine qa ?_;rw [if_pos (by omega)];exact qc rfl
   ·have k4:IntKind.u64.wrap ((q:Int)+1)=((q+1:Nat):Int):=wA (b:=1) (by omega);refine qa ?_;omega
  ·by_cases a:(r:Int)=((D - r:Nat):Int)
   ·by_cases O:((q % 2:Nat):Int)=1
    ·replace a:=eq_true a;rw [if_pos (.inr ⟨by have:=of_eq_true a;omega,by omega⟩)];by_cases j:(q:Int)=18446744073709551615
     ·have P:=eq_true j;refine qa ?_;rw [if_pos (by omega)];exact qc rfl
     ·have k4:IntKind.u64.wrap ((q:Int)+1)=((q+1:Nat):Int):=wA (b:=1) (by omega);refine qa ?_;omega
    ·replace a:=eq_true a;rw [if_neg (by omega)];simp only [↓rA,rU,K,k3,c1,a,O,simprocAttr];omega
   ·rw [if_neg (by omega)];simp only [↓rA,rU,K,c1,a,simprocAttr];omega
 ·rintro S ⟨y,x,o,p,u,hR⟩;generalize (if D < 2 * r∨(2 * r=D/\q % 2=1) then q+1 else q:Nat)=R at *;by_cases c1:(1152921504606846976:Int) < (R:Int)
  ·rw [if_pos (by omega)];exact qe
  ·rw [if_neg (by omega)];have L:IntKind.i64.wrap (R:Int)=(R:Int):=qv (by omega) (by omega);have k6:IntKind.i64.wrap (0 - (R:Int))=-(R:Int):=by rw [qv (by omega) (by omega)];omega
   rw [<-sw];by_cases a:decide (w / 18446744073709551616 < 0)=decide (d < 0)
   ·rw [if_pos a];simp only [↓rA,rU,G,y,x,o,p,u,c1,a,L,simprocAttr];exact qc rfl
   ·rw [if_neg a];simp only [↓rA,rU,G,y,x,o,p,u,c1,a,L,k6,simprocAttr];exact qc rfl
abbrev qjl (y:Value):VL.Row:=⟨y,2,294⟩
theorem qhj (l:List Fac) (hd:l.length<=100000):Ok prog 400 [qN l] [] fun v j rs=>j=[]/\((l=[]/\v=nilS/\rs=[])∨∃ y,v=.list (some y) 2 (l.map cFac)/\rs=[qjl y]):=by
 match l,hd with
 | [],_ =>
  refine Ok.list0 (fun c=>?_) fun p c=>?_
  ·refine oE func400 fun F h e=>?_;refine qa ?_;exact r0 ⟨rfl,.inl ⟨rfl,rfl⟩⟩
  ·refine oE func400 fun F h e=>?_;refine qa ?_;refine jS.l ?_;refine qa ?_;refine fun y a=>?_;exact⟨_,[],[_],Le.refl _,zn _,zc _,rfl,.inr ⟨a,rfl,rfl⟩⟩
 | x::d,hd =>
  refine oE func400 fun F h e=>?_;refine qa ?_;refine jS.l ?_;simp only [↓rA,rB,simprocAttr,results400,tU];refine fun y=>?_;simp only [simprocAttr,zz];refine⟨by simp only [List.length_cons] at hd ⊢;omega,fun a=>?_⟩;exact⟨_,[],[_],Le.refl _,zn _,zc _,rfl,a,rfl,rfl⟩
abbrev JN (n:Int):V:=.agg (cW n)
structure XO (n:Nat) (g:List (Nat × Str × Int)) (cl:Nat):Prop where
 lt:∀ p ∈ g,p.1 < cl
 apart:zT g
 bd:∀ p ∈ g,-(8 * (n:Int))<=p.2.2/\p.2.2<=8 * n
 len:g.length<=n
theorem XO.nil:XO 0 [] 0:=⟨by simp,List.Pairwise.nil,by simp,w3 _⟩
theorem XO.new {n g cl} (h:XO n g cl) {a:Str} (k:zy g a=none) {v:Int} (o:-8<=v/\v<=8):XO (n+1) (g++[(cl,a,v)]) (cl+1) where
 lt p d:=by
  rcases z6.1 d with d | d
  ·exact qOf (h.lt p d)
  simp_all
 apart:=by
  refine qMl.2 ⟨h.apart,by simp,fun p d q j=>?_⟩;rw [kl] at j;subst j;exact⟨h.lt p d,fun e=>vn k p d e.symm⟩
 bd p d:=by
  rcases z6.1 d with d | d
  ·have:=h.bd p d;omega
  ·rw [kl] at d;subst d;simp only;omega
 len:=by rw [zr];have:=h.len;simp_all
theorem XO.old {n g cl} (h:XO n g cl) {a:Str} {p:Nat × Str × Int} (o:zy g a=some p) {v:Int} (u:-8<=v/\v<=8):XO (n+1) (ko a (p.2.2+v) g) cl where
 lt q hq:=by
  obtain⟨j,d,k,_⟩:=uX hq;rw [k];exact h.lt j d
 apart:=Xx h.apart
 bd q hq:=by
  obtain⟨j,d,_,_,e | e⟩:=uX hq
  ·rw [e];have:=h.bd j d;omega
  ·rw [e];have:=h.bd p (xh o).1;omega
 len:=by rw [Kp];have:=h.len;omega
theorem qi6 (n:Nat) (g:List (Nat × Str × Int)) (cl:Nat) (X:XO n g cl) (hn:n<=1000) (d:Nat):Ok prog 404 [mp d] [(d,mG JN g cl)] fun v j rs=>(∃ a,a.Perm (xA g)/\v=jV (w9 a))/\j=[(d,mG JN g cl)]/\rs=[]:=by
 have G:=X.apart;refine Ok.norows' (Q:=fun v j rs=>j=[(d,mG JN g cl)]/\rs=[]/\∃ a,a.Perm (xA g)/\((a=[]/\v=nilS)∨∃ y,v=.list (some y) 1 ((w9 a).map fun s=>[vstr s]))) (Ok.freeze (Q:=fun v j rs=>∃ a,a.Perm (xA g)/\((a=[]/\v=nilS/\j=[(d,mG JN g cl)])∨∃ b c rest,a.length+rest.length=c/\a ≠ []/\v=slG b a.length c/\j=[(b,.c ((w9 a).map vstr++rest)),(d,mG JN g cl)])/\rs=[]) ?_ fun v j rs h=>?_) fun v j rs h=>?_
 ·refine oE func404 fun F w0 I0=>?_;refine qa ?_;refine fun k M=>?_;replace M:=zS M;try simp only [Nb] at M
  refine qa ?_;refine jE Ty.mixed (by rfl) (fun x=>(xP g x.1).length) (fun(x:List Nat × List Str) S=>ve (fun q:Str × Int=>some q.1) g x.1 x.2/\S.rows=[]/\S.σ 6=ptr k/\((x.2=[]/\S.σ 3=nilS/\S.boxes=[(k,.it d cl x.1 cl),(d,mG JN g cl)])∨(∃ b z rest,(x.2.length+rest.length=z/\b ≠ k/\b ≠ d)/\x.2 ≠ []/\S.σ 3=slG b x.2.length z/\S.boxes=[(b,.c (x.2.map vstr++rest)),(k,.it d cl x.1 cl),(d,mG JN g cl)]))) ([],[])
   ⟨_,_,_,_,zc _,zc _,zp _,zp _,?_⟩ (fun⟨seen,a⟩ S ⟨u,gr,g6,W⟩=>?_)
  ·refine qB ?_;exact ve.start _
  rename_i ad;clear ad;simp only at u W;have A:=u.len;have ae:=X.len;rcases W with⟨rfl,Z,P⟩ | ⟨b,z,rest,⟨ac,R,T⟩,Y,Z,P⟩
  ·refine qa ?_;refine⟨fun I=>?_,fun e o L=>?_⟩
   ·rw [qU] at I;have C:=u.done (by simp_all);rw [Kv] at C;refine qi _ Yj ?_;refine qa ?_;exact⟨_,[_],[],Le.refl _,List.Sublist.cons _ (zc _),zn _,[],C,.inl ⟨rfl,rfl,rfl⟩,rfl⟩
   ·rw [qU] at o;obtain⟨p,D,rfl⟩:=x9.1 o;have O:=u.step G D;have N:=xW G D;have ab:(seen++[p.1]).getLast? = some p.1:=by simp
    simp only at L;refine qa ?_;refine fun y=>jS.r ?_;refine qa ?_;refine fun J w H aa=>?_;have K:=zS H;simp only [Nb] at K;refine qa ?_;refine⟨(seen++[p.1],[p.2.1]),N,[_,_,_],[],[_,_,_],[],zc _,zn _,zp _,zp _,?_⟩;refine qB ?_;exact⟨O,J,w,zC ((w - 1) * 1),⟨by rw [xC];omega,by omega⟩,rfl,rfl⟩
  ·have U:(b ≠ k/\k ≠ b)/\(b ≠ d/\d ≠ b):=⟨⟨R,qKh R⟩,⟨T,qKh T⟩⟩;refine qa ?_;refine⟨fun I=>?_,fun e o L=>?_⟩
   ·rw [qU] at I;have C:=u.done (by simp_all);rw [Kv] at C;refine qa ?_;refine qr [_] [_,_] (zp _) (Ok.sortStr Tryz.sortS a rest b z (by omega)) ?_;rintro v j rs ⟨rfl,rfl,rfl⟩;refine qa ?_;exact⟨_,[_,_],[],Le.refl _,List.Sublist.cons_cons _ (List.Sublist.cons _ (zc _)),zn _,a,C,.inr ⟨b,z,rest,ac,Y,rfl,rfl⟩,rfl⟩
   ·rw [qU] at o;obtain⟨p,D,rfl⟩:=x9.1 o;have O:=u.step G D;have N:=xW G D;have ab:(seen++[p.1]).getLast? = some p.1:=by simp
    simp only at L;refine qa ?_;refine fun y=>jS.r ?_;refine qa ?_;refine⟨⟨by simp_all,by omega,by omega⟩,fun J w H aa=>?_⟩;simp only [wo,J0,decide_true,qL3,kA,if_false,List.filter_nil,U,decide_false,qMw,if_true] at H ⊢;have K:=zS H;simp only [Nb] at K;simp only [↓rA,rU,P,simprocAttr];have hB:List.filter (fun p=>!decide (p.1=b)) (setX [(b,B.c ((a.map vstr)++rest)),(k,B.it d cl seen cl),(d,mG JN g cl)] k (.it d cl (seen++[p.1]) cl))=[(k,B.it d cl (seen++[p.1]) cl),(d,mG JN g cl)]:=by simp [setX,U]
    simp only [hB];refine⟨(seen++[p.1],a++[p.2.1]),N,[_,_,_],[],[_,_,_],[],zc _,zn _,zp _,zp _,?_⟩;refine qB ?_;refine⟨O,.inr ⟨J,w,zC ((w - (a.length+1)) * 1),⟨by rw [xC,zr,qKg,qPk];omega,by omega⟩,by simp,by simp,?_⟩⟩;simp
 ·obtain⟨a,A,⟨rfl,rfl,rfl⟩ | ⟨b,c,rest,hc,Y,rfl,rfl⟩,rfl⟩:=h
  ·simp_all
  ·have I:=jJ a;refine .inr ⟨b,a.length,c,1,_,(w9 a).map fun s=>[vstr s],_,_,zp _,⟨?_,fun e o=>?_,by simp_all,by omega⟩,.here,rfl,rfl,a,A,.inr ⟨_,rfl⟩⟩
   ·rw [qPh,qBf (by simp_all),ZQ]
   ·obtain⟨s,_,rfl⟩:=x9.1 o;rfl
 ·obtain⟨rfl,rfl,a,A,⟨rfl,rfl⟩ | ⟨y,rfl⟩⟩:=h
  ·exact⟨_,_,[],Le.nil 1,zc _,zn _,⟨[],A,by rw [show w9 []=[] from qMy.1 (jJ [])];rfl⟩,rfl,rfl⟩
  ·exact⟨_,_,[],Le.list _ _ _,zc _,zn _,⟨a,A,rfl⟩,rfl,rfl⟩
end Go.Proofs.YtkdgbjhbpbgdeaaGreatDoor
namespace Go.Lo
section
variable {α β:Type} [DecidableEq α] {kV:α->Value} {cV:β->V}
def qsu (a:α):List (Nat × α × β)->List (Nat × α × β)
 | []=>[]
 | p::g=>if a=p.2.1 then g else p::qsu a g
theorem Vj (d:∀ a b,uG (kV a) (kV b)=decide (a=b)) (a:α):∀ g:List (Nat × α × β),Z8 (kV a) (qP kV cV g)=qP kV cV (qsu a g)
 | []=>rfl
 | p::g=>by
  have e:=Vj d a g;simp only [qP,z7,Z8,qsu,d,decide_eq_true_eq] at e ⊢;by_cases h:a=p.2.1
  ·simp_all
  simp_all
theorem Vk {a:α}:∀ {g:List (Nat × α × β)},zT g->qsu a g=g.filter fun p=>!decide (a=p.2.1)
 | [],_=>rfl
 | p::g,h=>by
  have hc:=vt.1 h;rw [qsu,J0];by_cases d:a=p.2.1
  ·rw [if_pos d,decide_eq_true d,qL3,if_neg (by decide)];exact(qLv.2 fun q e=>by
    have:=(hc.1 q e).2;simp_all).symm
  ·rw [if_neg d,decide_eq_false d,qMw,if_pos rfl,Vk hc.2]
variable {g:List (Nat × α × β)}
omit [DecidableEq α] in
theorem zT.sub {a:List (Nat × α × β)} (h:zT g) (d:a.Sublist g):zT a:=h.sublist d
def Xa (keep:α->Bool) (g:List (Nat × α × β)) (seen:List Nat):List (Nat × α × β):=g.filter fun p=>keep p.2.1 || !seen.contains p.1
variable {keep:α->Bool}
omit [DecidableEq α] in
theorem qlz:Xa keep g []=g:=qLv.2 fun p _=>by simp
omit [DecidableEq α] in
theorem qy5 (g:List (Nat × α × β)) (seen:List Nat):(Xa keep g seen).Sublist g:=List.filter_sublist
omit [DecidableEq α] in
theorem qa2 (seen:List Nat):xP (Xa keep g seen) seen=xP g seen:=by
 unfold xP Xa;rw [qO2];refine qN6 fun p _=>?_;simp_all
omit [DecidableEq α] in
theorem qsx {seen:List Nat} (h:xP g seen=[]):Xa keep g seen=g.filter fun p=>keep p.2.1:=by
 refine qN6 fun p a=>?_;have:¬ p ∈ xP g seen:=by rw [h];exact y8
 unfold xP at this;simp_all
omit [DecidableEq α] in
theorem uB:∀ {g:List (Nat × α × β)},zT g->∀ {p q:Nat × α × β},p ∈ g->q ∈ g->p.1=q.1->p=q
 | x::g,h,p,q,hp,hq,e=>by
  have hc:=vt.1 h;rcases xb.1 hp with j | a <;> rcases xb.1 hq with k | d
  ·simp_all
  ·have:=(hc.1 q d).1;simp_all
  ·have:=(hc.1 p a).1;simp_all
  ·exact uB hc.2 a d e
omit [DecidableEq α] in
theorem qbj:∀ {g:List (Nat × α × β)},zT g->∀ {p q:Nat × α × β},p ∈ g->q ∈ g->p.2.1=q.2.1->p=q
 | x::g,h,p,q,hp,hq,e=>by
  have hc:=vt.1 h;rcases xb.1 hp with k | a <;> rcases xb.1 hq with d | j
  ·simp_all
  ·simp_all
  ·rw [d] at e;exact absurd e.symm (hc.1 p a).2
  ·exact qbj hc.2 a j e
omit [DecidableEq α] in
theorem qsw {seen:List Nat} {p:Nat × α × β} (a:zT g) (h:p ∈ xP g seen) (d:keep p.2.1=true):Xa keep g (seen++[p.1])=Xa keep g seen:=by
 refine qN6 fun q k=>?_;have j:p ∈ g:=(qA6.1 h).1;by_cases e:q.1=p.1
 ·rw [uB a k j e,d];rfl
 simp_all
theorem qy6 {seen:List Nat} {p:Nat × α × β} (a:zT g) (k:p ∈ xP g seen) (o:keep p.2.1=false):qsu p.2.1 (Xa keep g seen)=Xa keep g (seen++[p.1]):=by
 rw [Vk (a.sub (qy5 g seen))];unfold Xa;rw [qO2];refine qN6 fun q j=>?_;have d:p ∈ g:=(qA6.1 k).1;by_cases e:q.1=p.1
 ·have eq:=uB a j d e;simp_all
 ·have n:¬ p.2.1=q.2.1:=fun h=>e (congrArg (·.1) (qbj a d j h)).symm;simp_all
end
end Go.Lo
namespace Go.Proofs.YtkdgbjhbpbgdeaaGreatDoor
theorem qwo (G:List (Nat × Str × Nat)) (cl:Nat) (s:Str) (b:Bool) (d a:Nat) (hb:d ≠ a/\a ≠ d):Ok prog 289 [vstr s,qq b,ptr d] [(d,.c [mp a]),(a,mG mp G cl)] fun v j rs=>v=qq (zy G s).isNone/\j=[(d,.c [mp a]),(a,mG mp G cl)]/\rs=[]:=by
 have e:=zb (cV:=mp) kW s G;refine oE func289 fun F n k=>?_;cases h:zy G s with
 | none =>
  rw [h,qI9] at e;refine qa ?_;exact⟨_,_,[],Le.refl _,zc _,zn _,rfl,rfl,rfl⟩
 | some p =>
  rw [h,qA4] at e;refine qa ?_;exact⟨_,_,[],Le.refl _,zc _,zn _,rfl,rfl,rfl⟩
abbrev fnD (a:Nat):V:=.lit (.func (.func 289) #[] #[.pointer (some ⟨a,0,none⟩)])
theorem qlu (g:List (Nat × Str × Unit)) (j:Nat) (u:zT g) (G:List (Nat × Str × Nat)) (cl:Nat) (k d h:Nat) (hb:k ≠ d/\d ≠ k) (N:h ≠ k/\k ≠ h) (O:h ≠ d/\d ≠ h) :
  Ok prog 288 [mp h,fnD k] [(k,.c [mp d]),(d,mG mp G cl),(h,mG vT g j)] fun v A rs=>v=.tup []/\A=[(k,.c [mp d]),(d,mG mp G cl),(h,mG vT (g.filter fun p=>(zy G p.2.1).isSome) j)]/\rs=[]:=by
 have Y:zg prog 289=true:=by kernel_rfl
 generalize w:(fun s:Str=>(zy G s).isSome)=keep;have M:(g.filter fun p=>(zy G p.2.1).isSome)=g.filter fun p=>keep p.2.1:=by rw [<-w]
 rw [M];refine oE func288 fun F Z Q=>?_;refine qa ?_;refine fun n o=>?_;replace o:=zS o;try simp only [Nb] at o
 have W:=aI hb (aI N (aI O o));refine qa ?_;refine jE Ty.mixed (by rfl) (fun x:List Nat=>(xP g x).length) (fun x S=>S.boxes=[(n,.it h j x j),(k,.c [mp d]),(d,mG mp G cl),(h,mG vT (Xa keep g x) j)]/\S.rows=[]/\S.σ 0=mp h/\S.σ 1=fnD k/\S.σ 7=ptr n) [] ⟨_,_,_,_,zc _,zc _,zp _,zp _,?_⟩ (fun seen S ⟨I,J,R,T,U⟩=>?_)
 ·refine qB ?_;rw [qlz]
 ·refine qa ?_;refine⟨fun D=>?_,fun e C L=>?_⟩
  ·rw [qU,qa2] at D;have hd:=qsx (keep:=keep) (by simpa [qP] using D);rw [hd] at I;refine qa ?_;exact⟨_,[_,_,_],[],Le.refl _,List.Sublist.cons _ (zc _),zn _,rfl,rfl,rfl⟩
  ·rw [qU,qa2] at C;obtain⟨p,z,rfl⟩:=x9.1 C;have H:=xW u z;have X:(seen++[p.1]).getLast? = some p.1:=by simp
   simp only at L;refine qa ?_;refine qr [(k,.c [mp d]),(d,mG mp G cl)] [(n,.it h j (seen++[p.1]) j),(h,mG vT (Xa keep g seen) j)] (ux (l₁:=[(k,B.c [mp d]),(d,mG mp G cl)]) (a:=(n,B.it h j (seen++[p.1]) j)) (l₂:=[(h,mG vT (Xa keep g seen) j)])).symm (qwo G cl p.2.1 true k d hb) ?_;rintro v A rs ⟨rfl,rfl,rfl⟩;cases q:keep p.2.1
   ·have y:(zy G p.2.1).isNone=true:=by
     rw [<-w] at q;cases P:zy G p.2.1 <;> simp_all
    rw [y];have K:=Vj (cV:=vT) kW p.2.1 (Xa keep g seen);rw [qy6 u z q] at K;refine qa ?_;refine⟨seen++[p.1],H,_,_,_,_,zc _,zc _,ux (l₁:=[(k,B.c [mp d]),(d,mG mp G cl)]) (a:=(n,B.it h j (seen++[p.1]) j)) (l₂:=[(h,mG vT (Xa keep g (seen++[p.1])) j)]),zp _,?_⟩;exact qA
   ·have y:(zy G p.2.1).isNone=false:=by
     rw [<-w] at q;cases P:zy G p.2.1 <;> simp_all
    rw [y];simp only [↓rA,rB,J];rw [<-qsw u z q];refine⟨seen++[p.1],H,_,_,_,_,zc _,zc _,ux (l₁:=[(k,B.c [mp d]),(d,mG mp G cl)]) (a:=(n,B.it h j (seen++[p.1]) j)) (l₂:=[(h,mG vT (Xa keep g (seen++[p.1])) j)]),zp _,?_⟩;exact qA
abbrev xc (x:Ftr):List Str:=(qls x.body ([],[])).1
def gS:Nat->List Str->List (Nat × Str × Unit)
 | _,[]=>[]
 | i,s::r=>(i,s,())::gS (i+1) r
theorem qoe:∀ (i:Nat) (l:List Str),Qz i l=qP Jt vT (gS i l)
 | i,[]=>rfl
 | i,s::r=>by rw [Qz,gS,qoe (i+1) r];rfl
theorem qx0:∀ (i:Nat) (l:List Str),∀ p ∈ gS i l,i<=p.1/\p.2.1 ∈ l
 | i,s::r,p,a=>by
  rcases xb.1 a with rfl | a
  ·simp
  ·have:=qx0 (i+1) r p a;exact⟨by omega,.tail _ this.2⟩
theorem qgc:∀ (i:Nat) (l:List Str),l.Nodup->zT (gS i l)
 | i,[],_=>List.Pairwise.nil
 | i,s::r,h=>by
  have hc:=js.1 h;refine vt.2 ⟨fun p a=>?_,qgc (i+1) r hc.2⟩;have:=qx0 (i+1) r p a;exact⟨by omega,fun e=>hc.1 (by simp_all)⟩
theorem YQ {l:List Str} {s:Str} (h:l.Nodup):(vI l s).Nodup:=by
 unfold vI;split
 ·exact h
 ·rename_i k;have n:s ∉ l:=fun o=>k (by unfold vI.memS';simp_all);exact w4.2 ⟨h,by simp,fun a d b j=>by rw [kl.1 j];exact fun e=>n (e▸d)⟩
mutual
theorem Vc:∀ (x:E) (p:List Str × List Str),p.1.Nodup->(qls x p).1.Nodup
 | .mk h l,p,hp=>by
  rw [qls];refine dirEs_nodup l _ ?_;split
  ·exact YQ hp
  split
  ·exact YQ hp
  split
  ·omega
  omega
theorem dirEs_nodup:∀ (l:List E) (p:List Str × List Str),p.1.Nodup->(dirEs l p).1.Nodup
 | [],p,hp=>by assumption
 | x::r,p,hp=>by
  rw [dirEs];exact dirEs_nodup r _ (Vc x p hp)
end
theorem Zj (x:Ftr):zT (gS 0 (xc x)):=qgc 0 _ (Vc _ _ qOb)
theorem qLj (l:List Str):mS l=mG vT (gS 0 l) l.length:=by rw [mS,qoe]
abbrev YZ (G:List (Nat × Str × Nat)) (l:List Str):List (Nat × Str × Unit):=(gS 0 l).filter fun q=>(zy G q.2.1).isSome
theorem Jh {b:Nat} {f:Nat->B}:∀ {L:List Nat},Nb b (dl L f)->b ∉ L
 | [],_,h=>by cases h
 | x::L,hn,h=>by
  simp only [dl,z7,Nb] at hn;rcases xb.1 h with e | h
  ·omega
  ·exact Jh (L:=L) (f:=f) hn.2 h
structure UE (fs:List Ftr) (G:List (Nat × Str × Nat)) (cl:Nat) (L:List Nat) (f:Nat->B):Prop where
 lt:∀ p ∈ G,p.1 < cl
 apart:zT G
 nodup:L.Nodup
 pl:∀ p ∈ G,p.2.2 ∈ L/\∃ x,xl fs p.2.1=some x/\f p.2.2=mS (xc x)
 key:∀ s,(zy G s).isSome=(xl fs s).isSome
 diff:∀ p ∈ G,∀ q ∈ G,p.2.2=q.2.2->p=q
theorem vM (fs:List Ftr) (x:Ftr) (s:Str):xl (fs++[x]) s=(xl fs s).or (if x.name=s then some x else none):=by
 unfold xl;simp
theorem UE.start (f:Nat->B):UE [] [] 0 [] f:=⟨by simp,List.Pairwise.nil,qOb,by simp,fun s=>rfl,by simp⟩
theorem UE.old {fs G cl L f} (h:UE fs G cl L f) {x:Ftr} {p:Nat × Str × Nat} (k:zy G x.name=some p):UE (fs++[x]) G cl L f where
 lt:=h.lt
 apart:=h.apart
 nodup:=h.nodup
 pl p hp:=by
  obtain⟨a,y,d,j⟩:=h.pl p hp;exact⟨a,y,by rw [vM,d];rfl,j⟩
 key s:=by
  rw [vM,h.key s];by_cases e:x.name=s
  ·have:=h.key s;simp_all
  simp_all
 diff:=h.diff
theorem UE.new {fs G cl L f} (h:UE fs G cl L f) {x:Ftr} (n:zy G x.name=none) {b:Nat} (hb:b ∉ L):UE (fs++[x]) (G++[(cl,x.name,b)]) (cl+1) (b::L) (Zb f b (mS (xc x))) where
 lt p a:=by
  rcases z6.1 a with a | a
  ·exact qOf (h.lt p a)
  simp_all
 apart:=by
  refine qMl.2 ⟨h.apart,by simp,fun p a q d=>?_⟩;rw [kl] at d;subst d;exact⟨h.lt p a,fun e=>vn n p a e.symm⟩
 nodup:=js.2 ⟨hb,h.nodup⟩
 pl p a:=by
  rcases z6.1 a with a | a
  ·obtain⟨k,y,o,w⟩:=h.pl p a;exact⟨.tail _ k,y,by rw [vM,o];rfl,by rw [JG _ _ fun e:p.2.2=b=>hb (by simp_all)];omega⟩
  ·rw [kl] at a;subst a;have u:xl fs x.name=none:=by
    have:=h.key x.name;rw [n] at this;cases e:xl fs x.name
    ·rfl
    ·simp_all
   exact⟨x6,x,by rw [vM,u,if_pos rfl];rfl,vh _ _ _⟩
 key s:=by
  rw [vM,ut];have:=h.key s;cases e:zy G s with
  | some q =>
   simp_all
  | none =>
   rw [e] at this;rw [Option.isSome_or,<-this];by_cases j:s=x.name
   ·simp [j]
   ·simp [j,qKh j]
 diff p a q d e:=by
  rcases z6.1 a with a | a <;> rcases z6.1 d with d | d
  ·exact h.diff p a q d e
  ·rw [kl] at d;subst d;have k:=(h.pl p a).1;simp_all
  ·rw [kl] at a;subst a;have k:=(h.pl q d).1;simp_all
  simp_all
structure qoz (fs:List Ftr) (G:List (Nat × Str × Nat)) (L:List Nat) (f:Nat->B):Prop where
 apart:zT G
 nodup:L.Nodup
 pl:∀ p ∈ G,p.2.2 ∈ L/\∃ x,xl fs p.2.1=some x/\f p.2.2=mG vT (YZ G (xc x)) (xc x).length
 key:∀ s,(zy G s).isSome=(xl fs s).isSome
theorem qGi {α:Type} (a b c d:α) (D:List α):(a::b::c::d::D).Perm ((b::c::D)++[a,d]) :=
 ((ux (l₁:=[b,c]) (a:=a) (l₂:=d::D)).symm).trans (qN9 [b,c] (x8 (l₁:=[a,d]) (l₂:=D)))
theorem qE3 (c:Cat) (hk:c.features.length<=1000) (R:∀ x ∈ c.features,uh x.body):Ok prog 214 [zO c] [] fun v J rs=>∃ a G cl L f,v=mp a/\J=(a,mG mp G cl)::dl L f/\a ∉ L/\qoz c.features G L f/\rs=[]:=by
 refine oE func214 fun F w0 I0=>?_;refine qb fun o h1=>?_;refine qb fun a h2=>?_;refine qB ?_;refine qX fun h P=>?_;have hh:=aI h1 (aI h2 P);refine qa ?_;refine zI Ty.mixed (by rfl) c.features.length (fun i S=>∃ G cl L f,UE (c.features.take i) G cl L f/\(a ∉ L/\o ∉ L/\h ∉ L)/\S.boxes=(h,.c [mp a])::(a,mG mp G cl)::(o,.c (qT c))::dl L f/\S.rows=[]/\S.σ 1=ptr o/\S.σ 3=ptr h/\S.σ 11=qm c.features/\S.σ 12=vint c.features.length/\S.σ 13=vint i) ⟨_,_,_,_,zc _,zc _,zp _,zp _,?_⟩ (fun i S D ⟨G,cl,L,f,j,⟨I,n2,N⟩,O,K,g1,g3,Y,Z,aa⟩=>?_) (fun S ⟨G,cl,L,f,j,⟨I,n2,N⟩,O,K,g1,g3,Y,Z,aa⟩=>?_)
 ·refine qB ?_;exact⟨[],0,[],fun _=>.c [],UE.start _,⟨by simp,by simp,by simp⟩,rfl⟩
 ·have aq:=qj D;simp only [↓rA,rU,O,K,Y,Z,aa,zq,D,qs,simprocAttr];refine qX fun b5 h5=>?_;have ac:=zb (cV:=mp) kW c.features[i].name G;cases w:zy G c.features[i].name with
  | some p =>
   rw [w,qA4] at ac;refine qa ?_;refine⟨_,[],_,[],List.Sublist.cons _ (zc _),zn _,zp _,zp _,G,cl,L,f,?_,⟨I,n2,N⟩,rfl,rfl,?_⟩
   ·rw [zt D];exact j.old w
   ·exact qA
  | none =>
   rw [w,qI9] at ac;refine qb fun d h6=>?_;refine qB ?_;refine qX fun W h7=>?_;refine qB ?_;have hd:=qsk c.features[i].body (R _ (zs D)) ([],[]) d W ⟨h7.1.1,h7.1.2⟩;rw [vE,qY] at hd;refine qr [(d,mS []),(W,mS [])] _ (List.Perm.swap _ _ _) hd ?_;rintro v J rs ⟨rfl,rfl,rfl⟩;refine qa ?_;have ab:d ∉ L:=Jh h6.2.2.2.2;have ag:dl (d::L) (Zb f d (mS (xc c.features[i])))=(d,mS (xc c.features[i]))::dl L f:=by
    rw [<-qlr (f:=f) (z:=mS (xc c.features[i])) ab];simp only [dl,z7,vh]
   refine⟨(d,mS (xc c.features[i]))::(h,.c [mp a])::(a,mG mp (G++[(cl,c.features[i].name,d)]) (cl+1))::(o,.c (qT c))::dl L f,[],_,[],?_,zn _,(ux (l₁:=[(h,B.c [mp a]),(a,mG mp (G++[(cl,c.features[i].name,d)]) (cl+1)),(o,.c (qT c))])).symm,zp _,G++[(cl,c.features[i].name,d)],cl+1,d::L,Zb f d (mS (xc c.features[i])),?_,⟨?_,?_,?_⟩,?_,?_⟩
   ·have e:mG mp (G++[(cl,c.features[i].name,d)]) (cl+1)=.m ([.s],false) (qP Jt mp G++[(cl,.string c.features[i].name,mp d)]) (cl+1):=by
     simp only [mG,qP,k8];rfl
    rw [e];exact(((zc _).cons _).cons _).cons_cons _
   ·rw [zt D];exact j.new w ab
   ·simp_all
   ·simp_all
   ·simp_all
   ·rw [ag];rfl
   ·exact qA
 ·rw [qNc] at j;refine qn ?_;refine fun H C=>?_;replace C:=zS C;try simp only [Nb] at C
  have ad:=j.nodup;have ao:H ∉ L:=Jh C.2.2.2;have hh:=aI hh C;refine qa ?_;refine jE Ty.mixed (by rfl) (fun x:List Nat=>(xP G x).length) (fun seen S=>∃ k,(∀ p ∈ G,∀ x,xl c.features p.2.1=some x->k p.2.2=if seen.contains p.1 then mG vT (YZ G (xc x)) (xc x).length else mS (xc x))/\S.boxes=(H,.it a cl seen cl)::(h,.c [mp a])::(a,mG mp G cl)::(o,.c (qT c))::dl L k/\S.rows=[]/\S.σ 3=ptr h/\S.σ 34=ptr H) [] ⟨_,_,_,_,zc _,zc _,zp _,zp _,?_⟩ (fun seen S ⟨k,Q,O,K,g3,an⟩=>?_)
  ·refine qB ?_;refine⟨f,fun p n x A=>?_,rfl⟩;obtain⟨_,y,h1,h2⟩:=j.pl p n;simp_all
  ·refine qa ?_;refine⟨fun hl=>?_,fun e he R=>?_⟩
   ·rw [qU] at hl;have ai:xP G seen=[]:=by simpa [qP] using hl
    refine qa ?_;refine⟨_,(a,mG mp G cl)::dl L k,[],Le.refl _,(((zc _).cons _).cons_cons _).cons _ |>.cons _,zn _,a,G,cl,L,k,rfl,rfl,I,⟨j.apart,ad,fun p n=>?_,j.key⟩,rfl⟩;obtain⟨u,x,A,_⟩:=j.pl p n;refine⟨u,x,A,?_⟩;have hs:seen.contains p.1=true:=by
     cases e:seen.contains p.1
     ·have:p ∈ xP G seen:=qA6.2 ⟨n,by rw [e];rfl⟩;rw [ai] at this;cases this
     ·rfl
    rw [Q p n x A,hs];rfl
   ·rw [qU] at he;obtain⟨p,n,rfl⟩:=x9.1 he;have M:p ∈ G:=(qA6.1 n).1;have ak:seen.contains p.1=false:=by
     have:=(qA6.1 n).2;simpa using this
    have aj:=xW j.apart n;have ap:(seen++[p.1]).getLast? = some p.1:=by simp
    obtain⟨u,x,A,_⟩:=j.pl p M;have ah:k p.2.2=mG vT (gS 0 (xc x)) (xc x).length:=by
     rw [Q p M x A,ak,<-qLj];rfl
    have ae:p.2.2 ≠ h/\h ≠ p.2.2:=⟨fun e=>N (e▸u),fun e=>N (e▸u)⟩;have af:p.2.2 ≠ a/\a ≠ p.2.2:=⟨fun e=>I (e▸u),fun e=>I (e▸u)⟩;have w:=qlu (gS 0 (xc x)) (xc x).length (Zj x) G cl h a p.2.2 ⟨P.1.2,P.1.1⟩ ae af;have al:=Ok.dl (f:=k) (X:=[(h,B.c [mp a]),(a,mG mp G cl)]) (Q0:=fun v z rs=>v=.tup []/\z=mG vT (YZ G (xc x)) (xc x).length/\rs=[]) u ad (by
     rw [ah];refine Ok.permR w ?_;rintro v J rs ⟨rfl,rfl,rfl⟩;simp)
    simp only at R;refine qa ?_;refine qr ((h,.c [mp a])::(a,mG mp G cl)::dl L k) [(H,.it a cl (seen++[p.1]) cl),(o,.c (qT c))] (qGi _ _ _ _ _) al ?_;rintro v J rs ⟨z',rfl,rfl,rfl,rfl⟩;simp only [↓rA,rB,K];refine⟨seen++[p.1],aj,_,_,_,_,zc _,zc _,(qGi (H,B.it a cl (seen++[p.1]) cl) (h,B.c [mp a]) (a,mG mp G cl) (o,B.c (qT c)) (dl L (Zb k p.2.2 (mG vT (YZ G (xc x)) (xc x).length)))).symm,zp _,Zb k p.2.2 (mG vT (YZ G (xc x)) (xc x).length),fun q T y U=>?_,rfl,?_⟩
    ·by_cases e:q.2.2=p.2.2
     ·have am:=j.diff q T p M e;subst am;rw [A] at U;obtain rfl:=KL U;rw [vh];simp
     ·rw [JG _ _ e,Q q T y U];have:¬ q.1=p.1:=fun e'=>e (congrArg (·.2.2) (uB j.apart T M e'));simp [this]
    exact qD
abbrev fnN (a:Nat):V:=.lit (.func (.func 292) #[] #[.pointer (some ⟨a,0,none⟩)])
end Go.Proofs.YtkdgbjhbpbgdeaaGreatDoor
namespace Go.Nv
inductive Rch {α:Type} (u:α->List α):α->α->Prop
 | one {a b:α} (h:b ∈ u a):Rch u a b
 | step {a b c:α} (h:Rch u a b) (h':c ∈ u b):Rch u a c
theorem Rch.front {α:Type} {u:α->List α} {a b c:α} (h:b ∈ u a) (d:Rch u b c):Rch u a c:=by
 induction d with
 | one e=>exact .step (.one h) e
 | step _ j k=>exact .step k j
theorem qav {α:Type} {p q:α->Bool} (h:∀ x,p x=true->q x=true):∀ l:List α,(l.filter p).length<=(l.filter q).length
 | []=>w3 _
 | x::r=>by
  have d:=qav h r;rw [J0,J0];by_cases a:p x=true
  ·simp_all
  ·rw [if_neg a];split
   ·exact qIa d
   omega
theorem Ja {α:Type} {p q:α->Bool} (h:∀ x,p x=true->q x=true):∀ {l:List α} {x:α},x ∈ l->q x=true->p x=false->(l.filter p).length < (l.filter q).length
 | y::r,x,a,hq,hp=>by
  rw [J0,J0];rcases xb.1 a with rfl | a
  ·rw [if_neg (by simp_all),if_pos hq];exact Nat.lt_succ_of_le (qav h r)
  ·have e:=Ja h a hq hp;by_cases d:p y=true
   ·simp_all
   ·rw [if_neg d];split
    ·exact qOf e
    omega
structure qh3 {α:Type} (u:α->List α) (s:α) (seen:List α):Prop where
 first:∀ m ∈ u s,m ∈ seen
 next:∀ x ∈ seen,∀ m ∈ u x,m ∈ seen
 own:s ∉ u s
 none:∀ x ∈ seen,s ∉ u x
theorem qh3.not {α:Type} {u:α->List α} {s:α} {seen:List α} (h:qh3 u s seen):¬ Rch u s s:=by
 have key:∀ {a b:α},Rch u a b->a=s->b ∈ seen/\b ≠ s:=by
  intro a b j
  induction j with
  | one d=>rintro rfl;exact⟨h.first _ d,fun e=>h.own (e▸d)⟩
  | step _ d k=>intro e;exact⟨h.next _ (k e).1 _ d,fun n=>h.none _ (k e).1 (n▸d)⟩
 exact fun j=>(key j rfl).2 rfl
theorem qB7 {α:Type} (N:List α) (u:α->List α) (hu:∀ s ∈ N,∀ m ∈ u s,m ∈ N) (h:∀ s ∈ N,∃ seen,qh3 u s seen):∃ e:α->Nat,∀ s ∈ N,∀ m ∈ u s,e m < e s:=by
 classical
 refine⟨fun s=>(N.filter fun n=>decide (Rch u s n)).length,fun s j m a=>?_⟩;have d:=hu s j m a;obtain⟨seen,k⟩:=h m d;refine Ja (fun x o=>?_) d (decide_eq_true (.one a)) (decide_eq_false k.not);exact decide_eq_true (.front a (of_decide_eq_true o))
theorem Kk {α:Type} [DecidableEq α]:∀ {l m:List α},l.Nodup->(∀ x ∈ l,x ∈ m)->l.length<=m.length
 | [],m,_,_=>KM _
 | x::l,m,hn,hs=>by
  have hc:=js.1 hn;have a:=hs x x6;have h:=Kk (l:=l) (m:=m.erase x) hc.2 fun y d=>(List.mem_erase_of_ne fun e=>hc.1 (by simp_all)).2 (hs y (.tail _ d));rw [List.length_erase_of_mem a] at h;have:=List.length_pos_of_mem a;simp only [List.length_cons];omega
structure Xc (U:Str->List Str) (s0:Str) (N seen F:List Str):Prop where
 nodup:seen.Nodup
 sub:∀ s ∈ seen,s ∈ N
 fr:∀ s ∈ F,s ∈ N
 act:∀ s,s=s0∨s ∈ seen->s ∈ F∨((∀ m ∈ U s,m ∈ seen)/\s0 ∉ U s)
section
variable {U:Str->List Str} {s0:Str} {N seen F:List Str}
theorem Xc.le (h:Xc U s0 N seen F):seen.length<=N.length:=Kk h.nodup h.sub
theorem Xc.done (h:Xc U s0 N seen []):qh3 U s0 seen where
 first:=((h.act s0 (.inl rfl)).resolve_left (by simp)).1
 next x hx:=((h.act x (.inr hx)).resolve_left (by simp)).1
 own:=((h.act s0 (.inl rfl)).resolve_left (by simp)).2
 none x hx:=((h.act x (.inr hx)).resolve_left (by simp)).2
theorem Xc.start (h:s0 ∈ N):Xc U s0 N [] [s0] where
 nodup:=qOb
 sub s hs:=by cases hs
 fr s hs:=by simp_all
 act s hs:=by simp_all
theorem Xc.drop {x:Str} (h:Xc U s0 N seen (x::F)) (d:∀ m ∈ U x,m ∈ seen) (e:s0 ∉ U x):Xc U s0 N seen F where
 nodup:=h.nodup
 sub:=h.sub
 fr s hs:=h.fr s (.tail _ hs)
 act s hs:=by
  rcases h.act s hs with a | a
  ·rcases xb.1 a with rfl | a
   ·simp_all
   simp_all
  simp_all
theorem Xc.add {x:Str} (h:Xc U s0 N seen F) (o:x ∉ seen) (q:x ∈ N):Xc U s0 N (seen++[x]) (F++[x]) where
 nodup:=w4.2 ⟨h.nodup,by simp,fun a k b n=>by rw [kl.1 n];exact fun e=>o (e▸k)⟩
 sub s d:=by
  rcases z6.1 d with d | d
  ·exact h.sub s d
  simp_all
 fr s d:=by
  rcases z6.1 d with d | d
  ·exact h.fr s d
  simp_all
 act s d:=by
  have:s=x∨(s=s0∨s ∈ seen):=by
   rcases d with d | d
   ·simp_all
   ·rcases z6.1 d with d | d
    ·simp_all
    simp_all
  rcases this with rfl | d
  ·simp
  ·rcases h.act s d with j | ⟨j,p⟩
   ·simp_all
   simp_all
end
abbrev Pth:=Option Value × List Str × Str
def esP (p:Pth):List (List V):=(p.2.1.map fun s=>[vstr s])++[[vstr p.2.2]]
abbrev quu (p:Pth):V:=.list p.1 1 (esP p)
abbrev Va (l:List Pth):List Str:=l.map fun p=>p.2.2
theorem qEs (p:Pth):(esP p).length=p.2.1.length+1:=by simp [esP]
theorem qEt (p:Pth):(esP p).getD p.2.1.length []=[vstr p.2.2]:=by simp [esP]
theorem qyk (p:Pth):esP p=(p.2.1++[p.2.2]).map fun s=>[vstr s]:=by simp [esP]
end Go.Nv
open Go.Nv
namespace Go.Proofs.YtkdgbjhbpbgdeaaGreatDoor
theorem qtb (o:Option Value) (p:List Str) (e:p.length<=100000) (k:p ≠ []):Ok prog 294 [.list o 1 (p.map fun s=>[vstr s])] [] fun v a rs=>a=[]/\∃ y,v=.list (some y) 1 (p.map fun s=>[vstr s])/\rs=[⟨y,1,9⟩]:=by
 cases p with
 | nil=>simp_all
 | cons x d =>
  refine oE func294 fun F n j=>?_;refine qa ?_;refine jS.l ?_;simp only [↓rA,rB,simprocAttr,results294,tU];refine fun y=>?_;simp only [simprocAttr,zz];refine⟨by simp only [List.length_cons] at e ⊢;omega,fun h=>?_⟩;exact⟨_,[],[_],Le.refl _,zn _,zc _,rfl,h,rfl,rfl⟩
def vr (fs:List Ftr) (G:List (Nat × Str × Nat)) (s:Str):List Str:=match xl fs s with | some x=>xA (YZ G (xc x)) | none=>[]
variable {fs:List Ftr} {G:List (Nat × Str × Nat)}
theorem qea {s m:Str} (h:m ∈ vr fs G s):m ∈ xA G:=by
 unfold vr at h;split at h
 ·obtain⟨p,d,rfl⟩:=x9.1 h;have:=(qA6.1 d).2;cases e:zy G p.2.1 with
  | none=>simp_all
  | some q =>
   have a:=xh e;rw [a.2];exact x9.2 ⟨q,a.1,rfl⟩
 ·cases h
theorem XA {α j:Type}:∀ {g:List (Nat × α × j)},zT g->(g.map fun p=>p.2.1).Nodup
 | [],_=>qOb
 | p::g,h=>by
  have hc:=vt.1 h;refine js.2 ⟨fun a=>?_,XA hc.2⟩;obtain⟨q,d,e⟩:=x9.1 a;exact(hc.1 q d).2 e.symm
theorem YW {α j:Type} [DecidableEq α] {g:List (Nat × α × j)} {a:α} (h:a ∈ g.map fun p=>p.2.1):∃ p,zy g a=some p:=by
 cases e:zy g a with
 | some p=>simp
 | none =>
  obtain⟨p,d,rfl⟩:=x9.1 h;exact absurd rfl (vn e p d)
theorem qDr (x:Ftr):(YZ G (xc x)).length<=G.length:=by
 have j:=Kk (l:=xA (YZ G (xc x))) (m:=xA G) (XA (qOd _ (Zj x))) fun s h=>by
  obtain⟨p,d,rfl⟩:=x9.1 h;have:=(qA6.1 d).2;cases e:zy G p.2.1 with
  | none=>simp_all
  | some q =>
   have a:=xh e;rw [a.2];exact x9.2 ⟨q,a.1,rfl⟩
 simp_all
theorem qLp (d:Nat):Ok prog 293 [mp d] [] fun v e rs=>∃ a,v=fnK a/\e=[(a,.c [mp d])]/\rs=[]:=by
 refine oE func293 fun F k h=>?_;refine qb fun a j=>?_;refine qa ?_;exact⟨_,_,[],Le.refl _,zc _,zn _,a,rfl,rfl,rfl⟩
variable {L:List Nat} {f:Nat->B}
theorem qvb {k:Type} {cV:k->V} (g:List (Nat × Str × k)) (cl:Nat) (p:zT g) (u:g.length<=100000) (d a:Nat) (hb:d ≠ a/\a ≠ d) (n:a ∈ L) (q:f a=mG cV g cl) :
  Ok prog 215 [fnK d] ((d,.c [mp a])::dl L f) fun v j rs=>(∃ h,h.Perm (xA g)/\v=jV (w9 h))/\j=dl L f/\rs=[]:=by
 have e:=JL (f:=f) n;rw [q] at e;refine Ok.permR (Ok.permL (Ok.frame (dl (L.erase a) f) (qBw (cV:=cV) (.inl rfl) g cl p (km u (by decide)) d a hb)) ?_) ?_
 ·exact(List.Perm.cons _ e).trans (x8 (l₁:=[(d,B.c [mp a]),(a,mG cV g cl)]) (l₂:=dl (L.erase a) f))
 ·rintro v j rs ⟨w,rfl,_,o,rfl,rfl⟩;exact⟨_,(x8 (l₁:=dl (L.erase a) f) (l₂:=[(a,mG cV g cl)])).trans e.symm,o,rfl,rfl⟩
abbrev bxS (a d:Nat) (seen:List Str) (G:List (Nat × Str × Nat)) (cl:Nat) (L:List Nat) (f:Nat->B):Bx:=(a,mS seen)::(d,mG mp G cl)::dl L f
theorem qes (fs:List Ftr) {cl:Nat} (k:Nat) (ap:k ∉ L) (hD:qoz fs G L f) (hG:G.length<=1000) (s0:Str) (h0:s0 ∈ xA G) :
  Ok prog 217 [mp k,vstr s0] ((k,mG mp G cl)::dl L f) fun v bs rs=>((v=nilS/\∃ seen,qh3 (vr fs G) s0 seen)∨∃ p,p ≠ []/\p.length<=100000/\v=jV p)/\bs=(k,mG mp G cl)::dl L f/\rs=[]:=by
 have hN:(xA G).length<=1000:=by rw [zz];exact hG
 refine oE func217 fun F w0 I0=>?_;refine qb fun A h1=>?_;have an:A ∉ L:=Jh h1.2;have az:A ≠ k/\k ≠ A:=⟨h1.1.2,h1.1.1⟩;refine qB ?_;refine fun y1 y2=>?_;refine jE Ty.mixed (by rfl) (fun x:List Str × List Pth=>2 * (1000 - x.1.length)+(if x.2=[] then 0 else 1)) (fun x S=>Xc (vr fs G) s0 (xA G) x.1 (Va x.2)/\((∀ p ∈ x.2,p.2.1.length<=x.1.length)/\x.2.length<=1000)/\S.boxes=bxS A k x.1 G cl L f/\S.rows=[]/\S.σ 0=mp k/\S.σ 1=vstr s0/\S.σ 5=mp A/\∃ o,S.σ 6=.list o 1 (x.2.map fun p=>[quu p])) ([],[(some y1,[],s0)]) ⟨_,_,_,_,zc _,zn _,zp _,zp _,?_⟩ (fun⟨seen,D⟩ S ⟨u,⟨hP,aJ⟩,H,I,K,M,P,o,g6⟩=>?_)
 ·refine qB ?_;exact⟨Xc.start h0,by simp,rfl,y2,rfl⟩
 simp only at u hP aJ H g6;have aF:=u.le;rename_i aO;clear aO;by_cases al:D=[]
 ·subst al;refine qa ?_;exact⟨nilS,(k,mG mp G cl)::dl L f,[],Le.refl _,List.Sublist.cons _ (zc _),zn _,.inl ⟨rfl,seen,u.done⟩,rfl,rfl⟩
 have aK:(0:Int) < (D.length:Int):=by have:=List.length_pos_iff.2 al;omega
 simp only [↓rA,rU,g6,aK,simprocAttr];refine xo.nilRow 7 1 56 (by rfl) (by decide) ?_;refine zI Ty.mixed (by rfl) D.length (fun i S=>∃ d n y,Xc (vr fs G) s0 (xA G) d (Va (D.drop i)++Va n)/\d.length=seen.length+n.length/\(∀ p ∈ n,p.2.1.length<=d.length)/\S.boxes=bxS A k d G cl L f/\S.rows=[⟨y,1,56⟩]/\S.σ 0=mp k/\S.σ 1=vstr s0/\S.σ 5=mp A/\S.σ 7=.list (some y) 1 (n.map fun p=>[quu p])/\S.σ 20=.list o 1 (D.map fun p=>[quu p])/\S.σ 21=vint D.length/\S.σ 22=vint i) ⟨_,_,_,_,zc _,zc _,zp _,zp _,?_⟩ (fun i S hi ⟨d,n,y,u,W,T,H,I,K,M,P,U,Q,N,O⟩=>?_) (fun S ⟨d,n,y,u,W,T,H,I,K,M,P,U,Q,N,O⟩=>?_)
 ·refine qB ?_;exact⟨seen,[],nilv,by simp_all,rfl,by simp,rfl,rfl,rfl⟩
 ·have aW:=qj hi;have aE:Va (D.drop i)=D[i].2.2::Va (D.drop (i+1)):=by rw [Va,qGt hi,z7]
  rw [aE] at u;have aH:=hP _ (zs hi);generalize ax:D[i]=p at u aH;obtain⟨q,hq⟩:=YW (u.fr p.2.2 x6);obtain⟨aL,aM⟩:=xh hq;obtain⟨R,x,hx,aj⟩:=hD.pl q aL;rw [<-aM] at hx;have hU:vr fs G p.2.2=xA (YZ G (xc x)):=by unfold vr;rw [hx]
  have aC:zT (YZ G (xc x)):=qOd _ (Zj x);have aS:=qDr (G:=G) x;generalize aT:YZ G (xc x)=g2 at *;generalize aV:(xc x).length=n2 at *;have ag:=zb (cV:=mp) kW p.2.2 G;rw [hq,qA4] at ag;generalize aR:q.2.2=C at R aj ag;have aP:C ≠ A/\A ≠ C:=⟨fun e=>an (e▸R),fun e=>an (e▸R)⟩;have aQ:C ≠ k/\k ≠ C:=⟨fun e=>ap (e▸R),fun e=>ap (e▸R)⟩;have ar:=qcv R aj;have ah:=zb (cV:=vT) kW s0 g2;have q1:=qEs p;have q2:=qEt p;have q3:=qyk p;generalize ai:esP p=es at q1 q2 q3;have q4:IntKind.i64.wrap (((p.2.1.length+1:Nat):Int) - 1)=(p.2.1.length:Int):=by rw [qv (by omega) (by omega)];omega
  have q5:(p.2.1.length:Int) < ((p.2.1.length+1:Nat):Int):=by omega
  have hh:=aI h1 (aI az (aI aP aQ));cases hk:zy g2 s0 with
  | some r =>
   rw [hk,qA4] at ah;simp only [↓rA,rU,H,I,K,M,Q,N,O,hh,zq,hi,ax,ai,q1,q2,q4,q5,ag,ar,ah,simprocAttr];refine⟨jV (p.2.1++[p.2.2]),(k,mG mp G cl)::dl L f,[],?_,List.Sublist.cons _ (zc _),zn _,.inr ⟨_,by simp,by rw [zr,qKg,qPk];omega,rfl⟩,rfl,rfl⟩;show Le (.list p.1 1 (esP p)) (.list none 1 ((p.2.1++[p.2.2]).map fun s=>[vstr s]));rw [<-qyk];exact Le.list _ _ _
  | none =>
   rw [hk,qI9] at ah;have aG:s0 ∉ vr fs G p.2.2:=by
    rw [hU];intro w;obtain⟨r,hr⟩:=YW w;rw [hk] at hr;cases hr
   simp only [↓rA,rU,H,K,M,Q,N,O,hh,zq,hi,ax,ai,q1,q2,q4,q5,ag,ar,ah,simprocAttr];refine zB [] _ (zp _) (qLp C) ?_;rintro v bs rs ⟨Y,rfl,rfl,rfl⟩ aA;have aD:Y ≠ C/\C ≠ Y:=by
    have:Y ≠ C:=fun e=>(js.1 aA).1 (by
     rw [e];exact z8 _ (z8 _ (x9.2 ⟨(C,f C),x9.2 ⟨C,R,rfl⟩,rfl⟩)))
    exact⟨this,qKh this⟩
   refine qa ?_;refine qr ((Y,.c [mp C])::dl L f) [(A,mS d),(k,mG mp G cl)] (List.Perm.cons _ (x8 (l₁:=[(A,mS d),(k,mG mp G cl)]) (l₂:=dl L f))) (qvb g2 n2 aC (by omega) Y C aD R aj) ?_;rintro v bs rs ⟨⟨ae,ao,rfl⟩,rfl,rfl⟩;have aB:(w9 ae).length<=1000:=by
    rw [jJ,ao.length_eq,zz];omega
   have ak:∀ m,m ∈ w9 ae↔m ∈ vr fs G p.2.2:=fun m=>by rw [hU,(K0 ae).mem_iff,ao.mem_iff]
   generalize w9 ae=J at aB ak ⊢;simp only [↓rA,rU,I,simprocAttr];refine zI Ty.mixed (by rfl) J.length (fun j S=>∃ d n y,Xc (vr fs G) s0 (xA G) d (p.2.2::(Va (D.drop (i+1))++Va n))/\(∀ m ∈ J.take j,m ∈ d)/\d.length=seen.length+n.length/\(∀ p ∈ n,p.2.1.length<=d.length)/\S.boxes=bxS A k d G cl L f/\S.rows=[⟨y,1,56⟩]/\S.σ 0=mp k/\S.σ 1=vstr s0/\S.σ 5=mp A/\S.σ 7=.list (some y) 1 (n.map fun p=>[quu p])/\S.σ 9=.list p.1 1 es/\S.σ 20=.list o 1 (D.map fun p=>[quu p])/\S.σ 21=vint D.length/\S.σ 22=vint i/\S.σ 40=jV J/\S.σ 41=vint J.length/\S.σ 42=vint j) ⟨_,_,_,_,zc _,zc _,x8,zp _,?_⟩ (fun j S hj ⟨d,n,y,u,ad,W,T,H,I,K,M,P,U,g9,Q,N,O,Z,aa,af⟩=>?_) (fun S ⟨d,n,y,u,ad,W,T,H,I,K,M,P,U,g9,Q,N,O,Z,aa,af⟩=>?_)
   ·simp only [rU,K,M,P,U,Q,N,O,simprocAttr];exact⟨d,n,y,u,by simp,W,T,rfl,rfl,rfl,by rw [<-ai]⟩
   ·have ay:=qj hj;have am:J.take (j+1)=J.take j++[J[j]]:=zt hj;have av:=(ak J[j]).1 (zs hj);have ab:=ZT 0 d J[j];have aF:=u.le;generalize aw:J[j]=name at am av ab;cases ac:vI.memS' d name with
    | true =>
     rw [ac,if_pos rfl] at ab;have au:name ∈ d:=by
      unfold vI.memS' at ac;obtain⟨z,X,e⟩:=qP6.1 ac;rw [<-of_decide_eq_true e];exact X
     simp only [↓rA,rU,H,P,Z,aa,af,zq,hj,aw,ab,ay,simprocAttr];refine lP ?_;simp only [rU,H,I,K,M,P,U,g9,Q,N,O,Z,aa,simprocAttr];refine⟨d,n,y,u,fun m w=>?_,W,T,rfl,rfl,rfl⟩;rw [am] at w;rcases z6.1 w with w | w
     ·exact ad m w
     ·rw [kl.1 w];omega
    | false =>
     rw [ac,if_neg (by decide)] at ab;have au:name ∉ d:=fun h=>by
      have:vI.memS' d name=true:=qP6.2 ⟨name,h,by simp⟩;rw [ac] at this;cases this
     have aq:=qtb p.1 (p.2.1++[p.2.2]) (by rw [zr];simp only [List.length_cons,List.length_nil];omega) (by simp);rw [<-q3] at aq;simp only [↓rA,rU,H,P,U,g9,Z,aa,af,zq,hj,aw,ab,simprocAttr];refine qh7 aq ?_;rintro v bs rs ⟨rfl,y3,rfl,rfl⟩;simp only [↓rA,rU,I,simprocAttr];refine fun y4=>xf ?_;simp only [↓rA,rU,I,q1,simprocAttr];refine⟨by omega,fun y5 y6=>ZJ (l1:=[_,_,_]) ?_⟩;simp only [↓rA,rU,I,af,simprocAttr];refine⟨by omega,fun y7=>?_⟩;have e1:bxS A k (d++[name]) G cl L f=(A,.m ([.s],false) (Qz 0 d++[(d.length,.string name,qq true)]) (d.length+1))::(k,mG mp G cl)::dl L f:=by
      rw [bxS,mS,Zu,qJ0,zr];rfl
     refine⟨_,[_],_,[_],zc _,(zn _).cons_cons _,zp _,zp _,?_⟩;simp only [rU,K,M,P,g9,Q,N,O,Z,aa,ay,simprocAttr];refine⟨d++[name],n++[(some y5,p.2.1++[p.2.2],name)],y7,?_,fun m w=>?_,?_,fun z X=>?_,?_,rfl,?_⟩
     ·have:=u.add au (qea av);rw [qMr,jm] at this;rw [Va,Va,k8];exact this
     ·rw [am] at w;rcases z6.1 w with w | w
      ·exact qQd _ (ad m w)
      ·exact List.mem_append_right _ w
     ·rw [zr,zr];simp only [List.length_cons,List.length_nil];omega
     ·rw [zr];simp only [List.length_cons,List.length_nil];rcases z6.1 X with X | X
      ·exact qIa (T z X)
      ·rw [kl.1 X,zr];simp only [List.length_cons,List.length_nil];omega
     ·rw [e1]
     ·rw [k8,q3];rfl
   ·refine qn ?_;refine lP ?_;rw [xa (w3 _)] at ad;refine qB ?_;exact⟨d,n,y,u.drop (fun m w=>ad m ((ak m).2 w)) aG,W,T,rfl,rfl,rfl⟩
 ·rw [List.drop_of_length_le (w3 _),Va,Jx,qKv] at u;have aU:=u.le;simp only [↓rA,rU,U,N,O,zq,WR,simprocAttr];refine⟨(d,n),?_,_,[],_,[],zc _,zn _,zp _,zp _,u,⟨T,by simp only;omega⟩,?_⟩
  ·simp only [if_neg al];cases n with
   | nil=>simp_all
   | cons a r=>rw [if_neg (by simp)];simp only [List.length_cons] at W;omega
  ·refine qB ?_;simp
theorem qI7 (d:Nat):Ok prog 216 [mp d] [] fun v e rs=>∃ a,v=fnN a/\e=[(a,.c [mp d])]/\rs=[]:=by
 refine oE func216 fun F k h=>?_;refine qb fun a j=>?_;refine qa ?_;exact⟨_,_,[],Le.refl _,zc _,zn _,a,rfl,rfl,rfl⟩
def XR (fs:List Ftr):Prop:=∃ a:Str->Nat,∀ s x,xl fs s=some x->∀ m ∈ xc x,(xl fs m).isSome->a m < a s
theorem qp9 (e:qoz fs G L f) (h:∀ s ∈ xA G,∃ seen,qh3 (vr fs G) s seen):XR fs:=by
 obtain⟨y,p⟩:=qB7 (xA G) (vr fs G) (fun s _ m j=>qea j) h;refine⟨y,fun s x k m j u=>p s ?_ m ?_⟩
 ·have:=e.key s;rw [k] at this;obtain⟨q,o⟩:=qPw.1 this;have d:=xh o;rw [d.2];exact x9.2 ⟨q,d.1,rfl⟩
 ·unfold vr;rw [k];have n:=e.key m;rw [u] at n;have:∀ (i:Nat) (l:List Str),m ∈ l->m ∈ xA ((gS i l).filter fun q=>(zy G q.2.1).isSome):=by
   intro i l
   induction l generalizing i with
   | nil=>simp
   | cons a l w =>
    intro h;simp only [gS,J0];rcases xb.1 h with rfl | h
    ·simp_all
    ·have:=w (i+1) h;split
     ·simp_all
     omega
  simp_all
theorem qy0 (a:qoz fs G L f):G.length<=fs.length:=by
 have k:=Kk (l:=xA G) (m:=fs.map (·.name)) (XA a.apart) fun s j=>by
  obtain⟨q,h,rfl⟩:=x9.1 j;obtain⟨_,x,d,_⟩:=a.pl q h;have e:=List.find?_some d;exact x9.2 ⟨x,qOc d,of_decide_eq_true e⟩
 simp_all
theorem qJt (c:Cat) (Q:c.features.length<=1000) (hf:∀ x ∈ c.features,uh x.body):Ok prog 134 [zO c] [] fun v q rs=>(∃ p,v=jV p/\p.length<=100000/\(p=[]->XR c.features))/\q=[]/\rs=[]:=by
 refine oE func134 fun F w0 I0=>?_;refine qb fun U h1=>?_;refine qa ?_;refine zB [] _ (zp _) (qE3 c Q hf) ?_;rintro v q rs ⟨d,G,cl,L,f,rfl,rfl,aa,D,rfl⟩ hN;have W:=km (qy0 D) Q;refine qa ?_;refine zB [] _ (zp _) (qI7 d) ?_;rintro v q rs ⟨C,rfl,rfl,rfl⟩ X;have Z:C ≠ d/\d ≠ C:=by
  have:C ≠ d:=fun e=>(js.1 X).1 (by simp_all);exact⟨this,qKh this⟩
 refine qa ?_;refine qr [_,_] (dl L f++[(U,.c (qT c))]) (zp _) (qBw (cV:=mp) (.inr rfl) G cl D.apart (by omega) C d Z) ?_;rintro v q rs ⟨⟨A,O,rfl⟩,rfl,rfl⟩;have Y:(w9 A).length<=1000:=by rw [jJ,O.length_eq,zz];omega
 have H:∀ m,m ∈ w9 A↔m ∈ xA G:=fun m=>by rw [(K0 A).mem_iff,O.mem_iff]
 generalize w9 A=h at Y H ⊢;refine qa ?_;refine zI Ty.mixed (by rfl) h.length (fun i S=>∃ l:List Str,(l=[]->∀ s ∈ h.take i,∃ seen,qh3 (vr c.features G) s seen)/\l.length<=100000/\((l=[]/\S.σ 2=nilS)∨(l ≠ []/\S.σ 2=jV l))/\S.boxes=(d,mG mp G cl)::dl L f/\S.rows=[]/\S.σ 3=mp d/\S.σ 11=jV h/\S.σ 12=vint h.length/\S.σ 13=vint i) ⟨(d,mG mp G cl)::dl L f,_,_,_,(qOy _ _).cons_cons _,zc _,zp _,zp _,?_⟩ (fun i S u ⟨l,I,w,a,N,o,M,J,K,n⟩=>?_) (fun S ⟨l,I,w,a,N,o,M,J,K,n⟩=>?_)
 ·refine qB ?_;simp
 ·have z:=qj u;have ab:h.take (i+1)=h.take i++[h[i]]:=zt u;have k:=qes c.features (cl:=cl) d aa D W h[i] ((H _).1 (zs u));simp only [↓rA,rB,simprocAttr,N,M,J,K,n,zq,u,zz,qI _ _ _ u,tU];refine qr _ [] (qKy (wl _).symm) k ?_;rintro v q rs ⟨⟨rfl,ac⟩ | ⟨p,y,T,rfl⟩,rfl,rfl⟩
  ·have R:l=[]->∀ s ∈ h.take (i+1),∃ seen,qh3 (vr c.features G) s seen:=fun h0 s k=>by
    rw [ab] at k;rcases z6.1 k with k | k
    ·simp_all
    simp_all
   rcases a with⟨j,a⟩ | ⟨j,a⟩
   ·simp only [↓rA,rU,o,n,z,simprocAttr];refine lP ⟨l,R,w,?_⟩;exact qA
   ·simp only [↓rA,rU,o,n,z,simprocAttr];refine lP ⟨l,R,w,?_⟩;exact qA
  ·rcases a with⟨j,a⟩ | ⟨j,a⟩
   ·simp only [↓rA,rU,o,a,n,z,y,qPj,simprocAttr];refine lP ⟨p,fun e=>absurd e y,T,?_⟩;exact qA
   ·by_cases P:(p.length:Int) < l.length
    ·simp only [↓rA,rU,o,a,n,z,y,j,qPj,P,simprocAttr];refine lP ⟨p,fun e=>absurd e y,T,?_⟩;exact qA
    ·simp only [↓rA,rU,o,a,n,z,y,j,qPj,P,simprocAttr];refine lP ⟨l,fun e=>absurd e j,w,?_⟩;exact qA
 ·rw [xa (w3 _)] at I;rcases a with⟨rfl,a⟩ | ⟨j,a⟩
  ·refine qn ?_;exact⟨_,[],[],Le.nil 1,zn _,zn _,⟨[],rfl,by simp,fun _=>qp9 D fun s k=>I rfl s ((H s).2 k)⟩,rfl,rfl⟩
  ·refine qn ?_;exact r0 ⟨⟨l,rfl,w,fun e=>absurd e j⟩,rfl,rfl⟩
variable {n:Nat}
theorem qNi {a:Int} (d:n<=1000) (h:-(8 * (n:Int))<=a/\a<=8 * n):ww a=a:=ui (by unfold ki;omega)
abbrev OkU (P:Program) (f:FuncId) (h:List V):Prop:=Ok P f h [] fun v a d=>(∃ (u:List Fac) (e:Int),v=.tup [qN u,vint e]/\u.length<=4)/\a=[]/\d=[]
theorem qya (o:Option Value) (u:List Fac) (e:Int) (h:u.length<=4) (X:Bx) (Y:List VL.Row):∃ v a d,Le (.tup [.list o 2 (u.map cFac),vint e]) v/\a.Sublist X/\d.Sublist Y/\(∃ (u:List Fac) (e:Int),v=.tup [qN u,vint e]/\u.length<=4)/\a=[]/\d=[] :=
 ⟨_,[],[],jf (.cons (Le.list _ _ _) (.c1 .nil)),zn _,zn _,⟨u,e,rfl,h⟩,rfl,rfl⟩
theorem qat (e:Int) (X:Bx) (Y:List VL.Row):∃ v a d,Le (.tup [nilS,vint e]) v/\a.Sublist X/\d.Sublist Y/\(∃ (u:List Fac) (e:Int),v=.tup [qN u,vint e]/\u.length<=4)/\a=[]/\d=[] :=
 ⟨_,[],[],jf (.cons (Le.nil 2) (.c1 .nil)),zn _,zn _,⟨[],e,rfl,by simp⟩,rfl,rfl⟩
def Jq (g:List (Nat × Str × Int)) (s:Str):Int:=((zy g s).map (·.2.2)).getD 0
def qqx (g:List (Nat × Str × Int)) (cl:Nat) (s:Str) (v:Int):List (Nat × Str × Int) × Nat:=if (zy g s).isSome then (ko s v g,cl) else (g++[(cl,s,v)],cl+1)
theorem XO.put {n g cl} (h:XO n g cl) (s:Str) {v:Int} (a:-8<=v/\v<=8):XO (n+1) (qqx g cl s (Jq g s+v)).1 (qqx g cl s (Jq g s+v)).2:=by
 unfold qqx Jq;cases e:zy g s with
 | some p=>exact h.old e a
 | none=>simpa using h.new e a
theorem qIp {n g cl} (h:XO n g cl) (s:Str):-(8 * (n:Int))<=Jq g s/\Jq g s<=8 * n:=by
 unfold Jq;cases e:zy g s with
 | some p=>exact h.bd p (xh e).1
 | none=>simp only [Option.map_none,Option.getD_none];omega
theorem J6 (l:List Fac) (hl:l.length<=1000) (hb:∀ f ∈ l,-8<=f.exp/\f.exp<=8):OkU prog 401 [qN l]:=by
 refine Ok.of_exM [(7,3)] Ty.mixed func401 rfl (by simp [ntmps401]) (by kernel_rfl) fun F w0 I0=>?_;refine qb fun z h1=>?_;refine qB ?_;refine zI Ty.mixed (by kernel_rfl) l.length (fun i S=>∃ g p,XO i g p/\S.boxes=[(z,mG JN g p)]/\S.rows=[]/\S.σ 2=nilS/\S.σ 4=mp z/\S.σ 12=qN l/\S.σ 13=vint l.length/\S.σ 14=vint i) ⟨_,_,_,_,zc _,zc _,zp _,zp _,?_⟩ (fun i S N ⟨g,p,J,a,K,P,Q,aa,ab,ac⟩=>?_) (fun S ⟨g,p,J,a,K,P,Q,aa,ab,ac⟩=>?_)
 ·refine qB ?_;exact⟨[],0,XO.nil,rfl⟩
 ·have ao:=qj N;have hx:=hb _ (zs N);generalize az:l[i]=x at hx;refine qn ?_;refine qX fun G h6=>?_;refine qi _ (qm8 x.name) ?_;cases hw:jU x.name
  ·refine qa ?_;exact qat _ _ _
  have I:=zb (cV:=JN) kW x.name g;have aw:=fun v:Int=>xI (cV:=JN) kW x.name v g;have am:=qIp J x.name;have X:=J.put x.name hx;have R:=XX (Jq g x.name) x.exp;rw [qNi (n:=i+1) (by omega) (by omega)] at R;have ag:=Xp x.exp (by unfold x5;omega);generalize T:Jq g x.name=C at am X R;generalize af:qqx g p x.name (C+x.exp)=D at X;refine qa ?_;refine JP Ty.mixed (by kernel_rfl) (by kernel_rfl) (fun L S=>S.σ 2=nilS/\S.σ 4=mp z/\S.σ 6=ptr G/\S.σ 12=qN l/\S.σ 13=vint l.length/\S.σ 14=vint i/\S.rows=[]/\S.boxes=(bif L 11 then [(G,.c (cFac x)),(z,mG JN D.1 D.2)] else [(G,.c (cFac x)),(z,mG JN g p)])/\(L 0=true->S.σ 22=mp z)/\(L 1=true->S.σ 23=ptr G)/\(L 2=true->S.σ 24=vstr x.name)/\(L 3=true->S.σ 25=mp z)/\(L 4=true->S.σ 26=ptr G)/\(L 5=true->S.σ 27=vstr x.name)/\(L 6=true->S.σ 28=JN C)/\(L 7=true->S.σ 29=.lit (.pointer (some ⟨G,1,none⟩)))/\(L 8=true->S.σ 30=vint x.exp)/\(L 9=true->S.σ 31=JN x.exp)/\(L 10=true->S.σ 32=JN (C+x.exp))/\(L 10=true->L 6=true)/\(L 11=true->L 6=true)) ?_ ?_ ?_
  ·simp only [rU,cond_false,P,Q,aa,ab,ac,simprocAttr]
   try simp
  ·intro L S i o d M A ⟨s2,s4,s6,ap,aq,ar,K,a,f0,f1,f2,f3,f4,f5,f6,f7,f8,f9,f10,j,k⟩
   match i,d with
   | 0,d =>
    cases d;cases hu:L 11 <;> simp only [hu,cond_false,cond_true] at a
    ·refine qa ?_
     (repeat' apply aI) <;> first | rfl | exact a | (show _=(bif L 11 then _ else _);rw [hu];first | exact a | rfl) | exact f1 | exact f2 | exact f3 | exact f4 | exact f5 | exact f6 | exact f7 | exact f8 | exact f9 | exact f10 | exact j | exact k | (intro _;first | trivial | assumption | rfl)
    ·refine qa ?_
     (repeat' apply aI) <;> first | rfl | exact a | (show _=(bif L 11 then _ else _);rw [hu];first | exact a | rfl) | exact f1 | exact f2 | exact f3 | exact f4 | exact f5 | exact f6 | exact f7 | exact f8 | exact f9 | exact f10 | exact j | exact k | (intro _;first | trivial | assumption | rfl)
   | 1,d =>
    cases d;cases hu:L 11 <;> simp only [hu,cond_false,cond_true] at a
    ·refine qa ?_
     (repeat' apply aI) <;> first | rfl | exact a | (show _=(bif L 11 then _ else _);rw [hu];first | exact a | rfl) | exact f0 | exact f2 | exact f3 | exact f4 | exact f5 | exact f6 | exact f7 | exact f8 | exact f9 | exact f10 | exact j | exact k | (intro _;first | trivial | assumption | rfl)
    ·refine qa ?_
     (repeat' apply aI) <;> first | rfl | exact a | (show _=(bif L 11 then _ else _);rw [hu];first | exact a | rfl) | exact f0 | exact f2 | exact f3 | exact f4 | exact f5 | exact f6 | exact f7 | exact f8 | exact f9 | exact f10 | exact j | exact k | (intro _;first | trivial | assumption | rfl)
   | 2,d =>
    cases d;have l1:=dt A 1;have d1:=f1 l1;cases hu:L 11 <;> simp only [hu,cond_false,cond_true] at a
    ·refine qa ?_
     (repeat' apply aI) <;> first | rfl | exact a | (show _=(bif L 11 then _ else _);rw [hu];first | exact a | rfl) | exact f0 | exact f1 | exact f3 | exact f4 | exact f5 | exact f6 | exact f7 | exact f8 | exact f9 | exact f10 | exact j | exact k | (intro _;first | trivial | assumption | rfl)
    ·refine qa ?_
     (repeat' apply aI) <;> first | rfl | exact a | (show _=(bif L 11 then _ else _);rw [hu];first | exact a | rfl) | exact f0 | exact f1 | exact f3 | exact f4 | exact f5 | exact f6 | exact f7 | exact f8 | exact f9 | exact f10 | exact j | exact k | (intro _;first | trivial | assumption | rfl)
   | 3,d =>
    cases d;cases hu:L 11 <;> simp only [hu,cond_false,cond_true] at a
    ·refine qa ?_
     (repeat' apply aI) <;> first | rfl | exact a | (show _=(bif L 11 then _ else _);rw [hu];first | exact a | rfl) | exact f0 | exact f1 | exact f2 | exact f4 | exact f5 | exact f6 | exact f7 | exact f8 | exact f9 | exact f10 | exact j | exact k | (intro _;first | trivial | assumption | rfl)
    ·refine qa ?_
     (repeat' apply aI) <;> first | rfl | exact a | (show _=(bif L 11 then _ else _);rw [hu];first | exact a | rfl) | exact f0 | exact f1 | exact f2 | exact f4 | exact f5 | exact f6 | exact f7 | exact f8 | exact f9 | exact f10 | exact j | exact k | (intro _;first | trivial | assumption | rfl)
   | 4,d =>
    cases d;cases hu:L 11 <;> simp only [hu,cond_false,cond_true] at a
    ·refine qa ?_
     (repeat' apply aI) <;> first | rfl | exact a | (show _=(bif L 11 then _ else _);rw [hu];first | exact a | rfl) | exact f0 | exact f1 | exact f2 | exact f3 | exact f5 | exact f6 | exact f7 | exact f8 | exact f9 | exact f10 | exact j | exact k | (intro _;first | trivial | assumption | rfl)
    ·refine qa ?_
     (repeat' apply aI) <;> first | rfl | exact a | (show _=(bif L 11 then _ else _);rw [hu];first | exact a | rfl) | exact f0 | exact f1 | exact f2 | exact f3 | exact f5 | exact f6 | exact f7 | exact f8 | exact f9 | exact f10 | exact j | exact k | (intro _;first | trivial | assumption | rfl)
   | 5,d =>
    cases d;have l4:=dt A 4;have d4:=f4 l4;cases hu:L 11 <;> simp only [hu,cond_false,cond_true] at a
    ·refine qa ?_
     (repeat' apply aI) <;> first | rfl | exact a | (show _=(bif L 11 then _ else _);rw [hu];first | exact a | rfl) | exact f0 | exact f1 | exact f2 | exact f3 | exact f4 | exact f6 | exact f7 | exact f8 | exact f9 | exact f10 | exact j | exact k | (intro _;first | trivial | assumption | rfl)
    ·refine qa ?_
     (repeat' apply aI) <;> first | rfl | exact a | (show _=(bif L 11 then _ else _);rw [hu];first | exact a | rfl) | exact f0 | exact f1 | exact f2 | exact f3 | exact f4 | exact f6 | exact f7 | exact f8 | exact f9 | exact f10 | exact j | exact k | (intro _;first | trivial | assumption | rfl)
   | 6,d =>
    cases d;have l3:=dt A 3;have d3:=f3 l3;have l5:=dt A 5;have d5:=f5 l5;have hu:L 11=false:=qOh.2 fun h=>by rw [k h] at M;cases M
    simp only [hu,cond_false] at a;cases w:zy g x.name with
    | some q =>
     rw [w,qA4] at I;have e:q.2.2=C:=by rw [<-T,Jq,w];rfl
     refine qa ?_
     (repeat' apply aI) <;> first | rfl | exact a | (show _=(bif L 11 then _ else _);rw [hu];first | exact a | rfl) | exact f0 | exact f1 | exact f2 | exact f3 | exact f4 | exact f5 | exact f7 | exact f8 | exact f9 | exact f10 | (intro _;first | trivial | assumption | rfl)
    | none =>
     rw [w,qI9] at I;have e:(0:Int)=C:=by rw [<-T,Jq,w];rfl
     refine qa ?_;subst e
     (repeat' apply aI) <;> first | rfl | exact a | (show _=(bif L 11 then _ else _);rw [hu];first | exact a | rfl) | exact f0 | exact f1 | exact f2 | exact f3 | exact f4 | exact f5 | exact f7 | exact f8 | exact f9 | exact f10 | (intro _;first | trivial | assumption | rfl)
   | 7,d =>
    cases d;cases hu:L 11 <;> simp only [hu,cond_false,cond_true] at a
    ·refine qa ?_
     (repeat' apply aI) <;> first | rfl | exact a | (show _=(bif L 11 then _ else _);rw [hu];first | exact a | rfl) | exact f0 | exact f1 | exact f2 | exact f3 | exact f4 | exact f5 | exact f6 | exact f8 | exact f9 | exact f10 | exact j | exact k | (intro _;first | trivial | assumption | rfl)
    ·refine qa ?_
     (repeat' apply aI) <;> first | rfl | exact a | (show _=(bif L 11 then _ else _);rw [hu];first | exact a | rfl) | exact f0 | exact f1 | exact f2 | exact f3 | exact f4 | exact f5 | exact f6 | exact f8 | exact f9 | exact f10 | exact j | exact k | (intro _;first | trivial | assumption | rfl)
   | 8,d =>
    cases d;have l7:=dt A 7;have d7:=f7 l7;cases hu:L 11 <;> simp only [hu,cond_false,cond_true] at a
    ·refine qa ?_
     (repeat' apply aI) <;> first | rfl | exact a | (show _=(bif L 11 then _ else _);rw [hu];first | exact a | rfl) | exact f0 | exact f1 | exact f2 | exact f3 | exact f4 | exact f5 | exact f6 | exact f7 | exact f9 | exact f10 | exact j | exact k | (intro _;first | trivial | assumption | rfl)
    ·refine qa ?_
     (repeat' apply aI) <;> first | rfl | exact a | (show _=(bif L 11 then _ else _);rw [hu];first | exact a | rfl) | exact f0 | exact f1 | exact f2 | exact f3 | exact f4 | exact f5 | exact f6 | exact f7 | exact f9 | exact f10 | exact j | exact k | (intro _;first | trivial | assumption | rfl)
   | 9,d =>
    cases d;have l8:=dt A 8;have d8:=f8 l8;cases hu:L 11 <;> simp only [hu,cond_false,cond_true] at a
    ·refine qi _ ag ?_;refine qa ?_
     (repeat' apply aI) <;> first | rfl | exact a | (show _=(bif L 11 then _ else _);rw [hu];first | exact a | rfl) | exact f0 | exact f1 | exact f2 | exact f3 | exact f4 | exact f5 | exact f6 | exact f7 | exact f8 | exact f10 | exact j | exact k | (intro _;first | trivial | assumption | rfl)
    ·refine qi _ ag ?_;refine qa ?_
     (repeat' apply aI) <;> first | rfl | exact a | (show _=(bif L 11 then _ else _);rw [hu];first | exact a | rfl) | exact f0 | exact f1 | exact f2 | exact f3 | exact f4 | exact f5 | exact f6 | exact f7 | exact f8 | exact f10 | exact j | exact k | (intro _;first | trivial | assumption | rfl)
   | 10,d =>
    cases d;have Z:=dt A 6;have d6:=f6 Z;have l9:=dt A 9;have d9:=f9 l9;cases hu:L 11 <;> simp only [hu,cond_false,cond_true] at a
    ·refine qi _ R ?_;refine qa ?_
     (repeat' apply aI) <;> first | rfl | exact a | (show _=(bif L 11 then _ else _);rw [hu];first | exact a | rfl) | exact f0 | exact f1 | exact f2 | exact f3 | exact f4 | exact f5 | exact f6 | exact f7 | exact f8 | exact f9 | exact k | (intro _;first | trivial | assumption | rfl | exact Z)
    ·refine qi _ R ?_;refine qa ?_
     (repeat' apply aI) <;> first | rfl | exact a | (show _=(bif L 11 then _ else _);rw [hu];first | exact a | rfl) | exact f0 | exact f1 | exact f2 | exact f3 | exact f4 | exact f5 | exact f6 | exact f7 | exact f8 | exact f9 | exact k | (intro _;first | trivial | assumption | rfl | exact Z)
   | 11,d =>
    cases d;have l0:=dt A 0;have d0:=f0 l0;have l2:=dt A 2;have d2:=f2 l2;have Y:=dt A 10;have d10:=f10 Y;simp only [M,cond_false] at a;cases w:zy g x.name with
    | some q =>
     rw [w,qA4] at I;have e:q.2.2=C:=by rw [<-T,Jq,w];rfl
     have W:D=(ko x.name (C+x.exp) g,p):=by rw [<-af,qqx,w];rfl
     rw [W];refine qa ?_
     (repeat' apply aI) <;> first | rfl | exact a | exact f0 | exact f1 | exact f2 | exact f3 | exact f4 | exact f5 | exact f6 | exact f7 | exact f8 | exact f9 | exact f10 | exact j | (intro _;first | trivial | assumption | rfl | exact j Y)
    | none =>
     rw [w,qI9] at I;have e:(0:Int)=C:=by rw [<-T,Jq,w];rfl
     have W:D=(g++[(p,x.name,C+x.exp)],p+1):=by rw [<-af,qqx,w];rfl
     rw [W];have e3:mG JN (g++[(p,x.name,C+x.exp)]) (p+1)=.m ([.s],false) (qP Jt JN g++[(p,.string x.name,JN (C+x.exp))]) (p+1):=by
      simp only [mG,qP,k8];rfl
     simp only [e3];refine qa ?_
     (repeat' apply aI) <;> first | rfl | exact a | exact f0 | exact f1 | exact f2 | exact f3 | exact f4 | exact f5 | exact f6 | exact f7 | exact f8 | exact f9 | exact f10 | exact j | (intro _;first | trivial | assumption | rfl | exact j Y)
  ·intro L S M ⟨s2,s4,s6,ap,aq,ar,K,a,f0,f1,f2,f3,f4,f5,f6,f7,f8,f9,f10,j,k⟩;simp only [M 11 (by simp),cond_true] at a;refine qa ?_;refine⟨[(z,mG JN D.1 D.2)],[],_,_,(show [(z,mG JN D.1 D.2)].Sublist S.boxes by rw [a];exact(zc _).cons _),zn _,zp _,zp _,?_⟩;refine qB ?_;exact⟨_,_,X,rfl⟩
 ·refine qn ?_;refine qr [_] [] (zp _) (qi6 l.length g p J (by omega) z) ?_;rintro v bs rs ⟨⟨O,ad,rfl⟩,rfl,rfl⟩;have av:=J.len;have al:(w9 O).length<=1000:=by rw [jJ,ad.length_eq,zz];omega
  have ae:∀ m,m ∈ w9 O->m ∈ xA g:=fun m hm=>(((K0 O).trans ad).mem_iff).1 hm;generalize w9 O=U at al ae ⊢;refine qa ?_;refine xo.nilRow 2 2 294 (by exact qA) (by decide) ?_;refine zI Ty.mixed (by kernel_rfl) U.length (fun i S=>∃ (u:List Fac) (y:Value),u.length<=i/\S.boxes=[(z,mG JN g p)]/\S.rows=[⟨y,2,294⟩]/\S.σ 2=.list (some y) 2 (u.map cFac)/\S.σ 4=mp z/\S.σ 35=jV U/\S.σ 36=vint U.length/\S.σ 37=vint i) ⟨_,_,_,_,zc _,zc _,zp _,zp _,?_⟩ (fun i S N ⟨u,y,hu,a,K,P,Q,ai,aj,ak⟩=>?_) (fun S ⟨u,y,hu,a,K,P,Q,ai,aj,ak⟩=>?_)
  ·refine qB ?_;exact⟨[],nilv,by simp⟩
  ·have ao:=qj N;have hk:=ae _ (zs N);generalize ax:U[i]=name at hk;obtain⟨q,w⟩:=YW hk;have I:=zb (cV:=JN) kW name g;rw [w,qA4] at I;have au:=J.bd q (xh w).1;have H:=J1 q.2.2 1 (by omega) (by unfold x5;omega);have an:=fun n=>YB n 8 (by omega);cases ah:qe4 q.2.2 1 with
   | none =>
    rw [ah] at H;change zk _ _ _ (.tup [vint 0,qq false]) at H;refine qn ?_;refine qo _ H ?_;refine qa ?_;exact qat _ _ _
   | some n =>
    rw [ah] at H;change zk _ _ _ (.tup [vint n,qq true]) at H;refine qn ?_;refine qo _ H ?_;refine qi _ (an n) ?_;cases ay:Jp n 8
    case true =>
     refine qa ?_;exact qat _ _ _
    by_cases n0:n=0
    ·refine qa ?_;refine lP ?_;refine qB ?_;exact⟨u,y,qIa hu,rfl,rfl⟩
    ·refine qa ?_;refine fun y2=>xf ?_;refine qa ?_;refine⟨by omega,fun y3=>?_⟩;refine⟨_,[_],_,[_],zc _,(zn _).cons_cons _,zp _,zp _,?_⟩;refine qB ?_;refine⟨u++[⟨name,n⟩],y3,by rw [zr];simp only [List.length_cons,List.length_nil];omega,rfl,?_⟩;rw [k8];rfl
  ·by_cases h4:(4:Int) < u.length
   ·refine qn ?_;exact qat _ _ _
   ·refine qn ?_;exact qya _ _ _ (by omega) _ _
theorem UJ:∀ {l:List Fac} {p:Option Str},QM p l=0->∀ f ∈ l,-8<=f.exp/\f.exp<=8
 | f::r,p,h,g,a=>by
  rw [QM] at h;split at h
  ·cases h
  split at h
  ·cases h
  split at h
  ·cases h
  rename_i d;split at h
  ·cases h
  rcases xb.1 a with rfl | a
  ·unfold Jp at d;simp_all
  ·exact UJ h g a
theorem UK {l:List Fac} (h:kJ l=0):∀ f ∈ l,-8<=f.exp/\f.exp<=8:=by
 unfold kJ at h;split at h
 ·cases h
 ·exact UJ h
abbrev sgF (s:Int) (f:Fac):Fac:=⟨f.name,s * f.exp⟩
theorem WM (a b:List Fac) (s:Int) (z:s=1∨s=-1):OkU prog 394 [qN a,qN b,vint s]:=by
 refine oE func394 fun F X T=>?_;by_cases I:kJ a=0
 case neg =>
  refine qi _ (yr a) ?_;refine qa ?_;exact qat _ _ _
 by_cases J:kJ b=0
 case neg =>
  refine qi _ (yr a) ?_;refine qi _ (yr b) ?_;refine qa ?_;exact qat _ _ _
 have U:=jX I;have W:=jX J;have Y:=UK I;have A:=UK J;refine qi _ (yr a) ?_;refine qi _ (yr b) ?_;refine qa ?_;refine qh7 (qhj a (by omega)) ?_;have main:∀ (y:Value) (i:Nat),i < b.length->((a++(b.take i).map (sgF s)).map cFac++[cFac (sgF s (b.getD i ⟨qH,0⟩))])=(a++(b.take (i+1)).map (sgF s)).map cFac:=fun y i h=>by
  rw [zt h,show b.getD i ⟨qH,0⟩=b[i] by simp_all];simp only [k8,z7,Jx,jm]
 rintro v H K ⟨rfl,⟨N,rfl,rfl⟩ | ⟨y,rfl,rfl⟩⟩
 ·subst N;refine qa ?_;refine xo.nilRow 10 2 294 (by rfl) (by decide) ?_;refine zI Ty.mixed (by rfl) b.length (fun i S=>∃ y,S.boxes=[]/\S.rows=[qjl y]/\S.σ 2=vint s/\S.σ 10=.list (some y) 2 (([]++(b.take i).map (sgF s)).map cFac)/\S.σ 25=qN b/\S.σ 26=vint b.length/\S.σ 27=vint i) ⟨_,_,_,_,zc _,zc _,zp _,zp _,?_⟩ (fun i S h ⟨y,C,D,p,k,q,w,n⟩=>?_) (fun S ⟨y,C,D,p,k,q,w,n⟩=>?_)
  ·refine qB ?_;simp
  ·have G:=qj h;have j:=A _ (zs h);have o:=main y i h;rw [show b.getD i ⟨qH,0⟩=b[i] by simp_all] at o;generalize P:b[i]=x at j o;have O:IntKind.i64.wrap (s * x.exp)=s * x.exp:=by
    rcases z with rfl | rfl
    ·rw [qQ9];exact qv (by omega) (by omega)
    ·rw [Int.neg_mul,qQ9];exact qv (by omega) (by omega)
   refine qn ?_;refine qX fun L M=>?_;refine qa ?_;refine fun Q=>xf ?_;simp only [↓rA,rU,n,G,kB,simprocAttr];refine⟨by omega,fun R=>?_⟩;refine⟨[],[_],[],[_],zn _,(zn _).cons_cons _,zp _,zp _,?_⟩;refine qB ?_;simp_all
  ·rw [xa (w3 _)] at k;refine qn ?_;refine qF (Ok.le (.cons (Le.list _ _ _) .nil) (J6 ([]++b.map (sgF s)) (by rw [zr,zz];omega) fun f d=>?_)) ?_
   ·rcases z6.1 d with d | d
    ·simp_all
    ·obtain⟨x,j,rfl⟩:=x9.1 d;have:=A x j;rcases z with rfl | rfl <;> simp only <;> omega
   ·rintro v H K ⟨⟨u,e,rfl,hu⟩,rfl,rfl⟩;refine qa ?_;exact qya none u e hu _ _
 ·refine qa ?_;refine zI Ty.mixed (by rfl) b.length (fun i S=>∃ y,S.boxes=[]/\S.rows=[qjl y]/\S.σ 2=vint s/\S.σ 10=.list (some y) 2 ((a++(b.take i).map (sgF s)).map cFac)/\S.σ 25=qN b/\S.σ 26=vint b.length/\S.σ 27=vint i) ⟨_,_,_,_,zc _,zc _,zp _,zp _,?_⟩ (fun i S h ⟨y,C,D,p,k,q,w,n⟩=>?_) (fun S ⟨y,C,D,p,k,q,w,n⟩=>?_)
  ·refine qB ?_;simp
  ·have G:=qj h;have j:=A _ (zs h);have o:=main y i h;rw [show b.getD i ⟨qH,0⟩=b[i] by simp_all] at o;generalize P:b[i]=x at j o;have O:IntKind.i64.wrap (s * x.exp)=s * x.exp:=by
    rcases z with rfl | rfl
    ·rw [qQ9];exact qv (by omega) (by omega)
    ·rw [Int.neg_mul,qQ9];exact qv (by omega) (by omega)
   refine qn ?_;refine qX fun L M=>?_;refine qa ?_;refine fun Q=>xf ?_;simp only [↓rA,rU,n,G,zr,kB,simprocAttr];refine⟨by omega,fun R=>?_⟩;refine⟨[],[_],[],[_],zn _,(zn _).cons_cons _,zp _,zp _,?_⟩;simp only [rU,p,q,w,simprocAttr];simp_all
  ·rw [xa (w3 _)] at k;refine qn ?_;refine qF (Ok.le (.cons (Le.list _ _ _) .nil) (J6 (a++b.map (sgF s)) (by rw [zr,zz];omega) fun f d=>?_)) ?_
   ·rcases z6.1 d with d | d
    ·simp_all
    ·obtain⟨x,j,rfl⟩:=x9.1 d;have:=A x j;rcases z with rfl | rfl <;> simp only <;> omega
   ·rintro v H K ⟨⟨u,e,rfl,hu⟩,rfl,rfl⟩;refine qa ?_;exact qya none u e hu _ _
theorem qo8 (a b:List Fac):OkU prog 380 [qN a,qN b]:=by
 refine oE func380 fun F k d=>?_;refine qW (WM a b 1 (.inl rfl)) ?_;rintro v h j ⟨⟨u,e,rfl,hu⟩,rfl,rfl⟩;refine qa ?_;exact qya none u e hu _ _
theorem quy (a b:List Fac):OkU prog 381 [qN a,qN b]:=by
 refine oE func381 fun F k d=>?_;refine qW (WM a b (-1) (.inr rfl)) ?_;rintro v h j ⟨⟨u,e,rfl,hu⟩,rfl,rfl⟩;refine qa ?_;exact qya none u e hu _ _
theorem KE (c:Cat) (e:Str) (t:Tab) (n j:Str) (J:c.features.length<=1000000) (D:∀ f ∈ c.features,QK f/\zV f.body<=big):Qf prog 373 [vSc c e t,vstr n,vstr j]:=by
 refine oE func373 fun F M H=>?_;refine qb fun d z=>?_;refine qb fun h u=>?_;refine qa ?_;refine qG Ty.mixed (by rfl) c.features.length (fun i S=>S.boxes=[(h,.c [vint 0,nilS,vstr qH]),(d,.c (qT c++(vstr e::cTab t)))]/\S.rows=[]/\S.σ 1=vstr n/\S.σ 2=vstr j/\S.σ 3=ptr d/\S.σ 6=ptr h/\S.σ 8=vint i) ⟨0,?_⟩ (fun i S a ⟨p,q,w,x,k,y,o⟩=>?_) (fun S ⟨p,q,w,x,k,y,o⟩=>?_)
 ·exact qD
 ·have L:=qj a;have G:=(D _ (zs a)).1.1;simp only [↓rA,rU,p,q,k,o,u,zq,a,qs,simprocAttr];refine qX fun I A=>?_;have K:=aI z (aI u A);refine qa ?_;apply qf <;> intro C
  ·refine qa ?_;exact⟨1,rfl⟩
  ·refine qa ?_;apply qf <;> intro C
   ·refine qa ?_;exact xX _ _ _ _ _
   ·refine qa ?_;exact wE _ _ _ _ _ _ _ (Le.refl _) G
 ·refine qn ?_;exact xX _ _ _ _ _
abbrev qNo:Cat:=⟨[],[],[],[]⟩
theorem qo0 (n:Nat) (c:Cat) (e:Str) (t:Tab) (s:Str) (O:n<=1000000) (p:zD n c):Ok prog 342 [vSc c e t,vstr s] [] fun v G rs =>
  (∃ (c':Cat) (d:Str) (a:Tab) (k:Int),v=.tup [vSc c' d a,vint k]/\(k=0->zD n c'/\vf a))/\G=[]/\rs=[]:=by
 have R:c.tables.length<=1000000:=km p.lt O;have bad:∀ (k:Int),¬ k=0->∀ (X:Bx) (Y:List Row),∃ v w D,Le (.tup [.agg [nilS,nilS,nilS,nilS,vstr qH,vstr qH,vstr qH,nilS,vint 0],vint k]) v/\w.Sublist X/\D.Sublist Y/\(∃ (c':Cat) (d:Str) (a:Tab) (k:Int),v=.tup [vSc c' d a,vint k]/\(k=0->zD n c'/\vf a))/\w=[]/\D=[]:=fun k N X Y =>
  ⟨_,[],[],jf (.cons (wc (.cons (Le.nil 4) (.cons (Le.nil 18) (.cons (Le.nil 18) (.cons (Le.nil 18) (.c1 (.c1 (.c1 (.cons (Le.nil 4) (.c1 .nil)))))))))) (.c1 .nil)),zn _,zn _,⟨qNo,qH,tab0,k,rfl,fun h=>absurd h N⟩,rfl,rfl⟩
 refine oE func342 fun F U P=>?_;refine qb fun q I=>?_;refine qb fun u A=>?_;refine qa ?_;refine qG Ty.mixed (by rfl) c.tables.length (fun i S=>S.boxes=[(u,.c [nilS,nilS,nilS,nilS,vstr qH,vstr qH,vstr qH,nilS,vint 0]),(q,.c (qT c++(vstr e::cTab t)))]/\S.rows=[]/\S.σ 1=vstr s/\S.σ 2=ptr q/\S.σ 4=ptr u/\S.σ 6=vint i) ⟨0,?_⟩ (fun i S C ⟨z,o,H,x,j,y⟩=>?_) (fun S ⟨z,o,H,x,j,y⟩=>?_)
 ·exact qD
 ·have T:=qj C;have L:=p.ft _ (zs C);refine qn ?_;refine qX fun Q J=>?_;have M:=aI I (aI A J);refine qa ?_;apply qf <;> intro K
  ·refine qa ?_;exact⟨1,rfl⟩
  ·refine qa ?_;apply qf <;> intro K
   ·simp only [↓rA,rU,o,j,M,simprocAttr];exact bad _ (by decide) _ _
   ·refine qa ?_;exact r0 ⟨⟨c,qH,c.tables[i],0,rfl,fun _=>⟨p,L⟩⟩,rfl,rfl⟩
 ·simp only [↓rA,rU,z,o,x,j,y,A,zq,WR,simprocAttr];exact bad _ (by decide) _ _
abbrev vu (n:Int):V:=.lit (.int .u64 n)
def Wd (v:V):Prop:=∃ a b,v=.agg [vint a,vu b]
def BI (n:Nat) (v:V) (a:Bx):Prop :=
 ∃ (g c:Nat) (es:List Int) (rest:List V),es.length=n/\n<=c/\rest.length=c - n/\v=.lit (.slice (some ⟨g,0,none⟩) n c)/\a=[(g,.c (es.map vint++rest))]
def BI0 (n:Nat) (v:V) (a:Bx):Prop:=(n=0/\v=nilS/\a=[])∨(0 < n/\BI n v a)
abbrev slI (g n c:Nat):V:=.lit (.slice (some ⟨g,0,none⟩) n c)
theorem qmi {g c:Nat} {x:Int} (h:1<=c):BI0 1 (slI g 1 c) [(g,.c ([[vint x]].flatten++zC ((c - 1) * 1)))] :=
 .inr ⟨Nat.one_pos,g,c,[x],zC ((c - 1) * 1),rfl,h,by simp [zC],rfl,by simp⟩
variable {es:List Int}
theorem JO {a c' i:Nat} {rest:List V} {x:Int} (d:es.length=i) (h:i+1<=c'):BI0 (i+1) (slI a (i+1) c') [(a,.c ((es.map vint++rest).take (i * 1)++[[vint x]].flatten++zC ((c' - (i+1)) * 1)))]:=by
 subst d;refine .inr ⟨qP7 _,a,c',es++[x],zC ((c' - (es.length+1)) * 1),by simp,h,by simp [zC],rfl,?_⟩;simp
theorem qzr {a c' i:Nat} {rest:List V} {x:Int} (d:es.length=i) (h:i+1<=c'):BI (i+1) (slI a (i+1) c') [(a,.c ((es.map vint++rest).take (i * 1)++[[vint x]].flatten++zC ((c' - (i+1)) * 1)))] :=
 ((JO d h).resolve_left fun h=>absurd h.1 (Nat.succ_ne_zero _)).2
theorem sng {g b:Nat} {x:B} (h:b ≠ g/\g ≠ b):∀ p ∈ [(g,x)],¬ p.1=b/\¬ b=p.1:=fun p a=>by
 simp_all
theorem qnp (x:Int):Ok prog 405 [vint x] [] fun v a rs=>Wd v/\a=[]/\rs=[]:=by
 refine oE func405 fun F k d=>?_;refine qb fun e h=>?_;refine qa ?_;apply qf <;> intro j
 ·refine qa ?_;exact r0 ⟨⟨_,_,rfl⟩,rfl,rfl⟩
 ·refine qa ?_;exact r0 ⟨⟨_,_,rfl⟩,rfl,rfl⟩
theorem Wy (v:V) (R:Wd v):Ok prog 408 [v] [] fun v e rs=>BI 8 v e/\rs=[]:=by
 obtain⟨a,b,rfl⟩:=R;refine oE func408 fun F Z W=>?_;refine qb fun d Y=>?_;refine qa ?_;refine vg Ty.mixed (by rfl) 4 (fun i S=>∃ u e,BI0 i u e/\(∀ p ∈ e,p.1 ≠ d/\d ≠ p.1)/\S.boxes=e++[(d,.c [vint a,vu b])]/\S.rows=[]/\S.σ 1=ptr d/\S.σ 3=u/\(∃ t,S.σ 4=vu t)/\(∃ t,S.σ 5=vu t)/\S.σ 6=vint i) ⟨_,_,zc _,zc _,?_⟩ (fun i S K ⟨u,e,q,hd,o,x,A,C,⟨t,I⟩,⟨M,D⟩,G⟩=>?_) (fun S ⟨u,e,q,hd,o,x,A,C,⟨t,I⟩,⟨M,D⟩,G⟩=>?_)
 ·refine qB ?_;exact⟨_,[],.inl ⟨rfl,rfl,rfl⟩,by simp,rfl,rfl,⟨_,rfl⟩,⟨_,rfl⟩⟩
 ·have T:=qj K;rcases q with⟨rfl,rfl,rfl⟩ | ⟨X,g,c,es,rest,w,k,z,rfl,rfl⟩
  ·simp only [↓rA,rB,C,I,G,tU,simprocAttr];intro y;refine jS.r ?_;simp only [↓rA,rB,o,x,tU,simprocAttr];refine fun g c j k=>?_;have n:=zS j;simp only [↓rA,rB,I,G,simprocAttr];refine⟨_,[],zc _,zn _,?_⟩;simp only [rB,o,A,D,simprocAttr];exact⟨_,[_],qmi k,sng n.1,rfl,rfl,⟨_,rfl⟩,⟨_,rfl⟩,rfl⟩
  ·have hd:g ≠ d/\d ≠ g:=hd _ (kl.2 rfl);have Q:(i:Int) < 4:=by omega
   refine qa ?_;intro y;refine jS.r ?_;simp only [↓rA,rU,o,x,simprocAttr];refine⟨⟨by simp_all,k,by omega⟩,fun H N j J=>?_⟩;have L:wo [(g,B.c (List.map vint es++rest)),(d,B.c [vint a,vu b])] g=[(d,B.c [vint a,vu b])]:=by
    simp [wo,hd.2]
   replace j:¬ H ∈ qL (wo [(g,B.c (List.map vint es++rest)),(d,B.c [vint a,vu b])] g) _:=j;rw [L] at j;have n:=zS j;refine qa ?_;refine⟨_,[],zc _,zn _,?_⟩;refine qB ?_;exact⟨_,[_],JO w J,sng n.1,rfl,rfl,⟨_,rfl⟩,⟨_,rfl⟩⟩
 ·have P:=q.resolve_left (fun h=>absurd h.1 (by decide));obtain⟨_,g,c,es,rest,w,k,z,rfl,rfl⟩:=P;have hd:g ≠ d/\d ≠ g:=hd _ (kl.2 rfl);have U:¬ ((4:Nat):Int) < 4:=by decide
  simp only [↓rA,rB,G,U];refine vg Ty.mixed (by rfl) 4 (fun i S=>∃ u e,BI (4+i) u e/\(∀ p ∈ e,p.1 ≠ d/\d ≠ p.1)/\S.boxes=e++[(d,.c [vint a,vu b])]/\S.rows=[]/\S.σ 1=ptr d/\S.σ 3=u/\(∃ t,S.σ 5=vu t)/\S.σ 7=vint i) ⟨_,_,zc _,zc _,?_⟩ (fun i S K ⟨u,e,q,hd,o,x,A,C,⟨M,D⟩,O⟩=>?_) (fun S ⟨u,e,q,hd,o,x,A,C,⟨M,D⟩,O⟩=>?_)
  ·refine qB ?_;exact⟨_,[_],⟨g,c,es,rest,w,k,z,rfl,rfl⟩,sng hd.symm,rfl,rfl,⟨_,rfl⟩⟩
  ·have T:=qj K;obtain⟨g,c,es,rest,w,k,z,rfl,rfl⟩:=q;have hd:g ≠ d/\d ≠ g:=hd _ (kl.2 rfl);have Q:(i:Int) < 4:=by omega
   refine qa ?_;intro y;refine jS.r ?_;simp only [↓rA,rU,o,x,simprocAttr];refine⟨⟨by simp_all,k,by omega⟩,fun H N j J=>?_⟩;have L:wo [(g,B.c (List.map vint es++rest)),(d,B.c [vint a,vu b])] g=[(d,B.c [vint a,vu b])]:=by
    simp [wo,hd.2]
   replace j:¬ H ∈ qL (wo [(g,B.c (List.map vint es++rest)),(d,B.c [vint a,vu b])] g) _:=j;rw [L] at j;have n:=zS j;refine qa ?_;refine⟨_,[],zc _,zn _,?_⟩;refine qB ?_;exact⟨_,[_],qzr w J,sng n.1,rfl,rfl,⟨_,rfl⟩⟩
  ·obtain⟨g,c,es,rest,w,k,z,rfl,rfl⟩:=q;have hd:g ≠ d/\d ≠ g:=hd _ (kl.2 rfl);refine qa ?_;refine⟨_,[_],[],Le.refl _,?_,zn _,⟨g,c,es,rest,w,k,z,rfl,rfl⟩,rfl⟩;simp
abbrev lI (y:Option Value) (es:List Int):V:=.list y 1 (es.map fun x=>[vint x])
theorem JT {m:Nat} (h:m<=1000):IntKind.i64.wrap ((m:Int) - 1)=(m:Int) - 1:=qv (by omega) (by omega)
theorem qzt (y w:Option Value) (a b:List Int) (n:a.length=8) (hb:b.length=8):Ok prog 413 [lI y a,lI w b] [] fun v x rs=>(∃ t,v=.lit (.bool t))/\x=[]/\rs=[]:=by
 refine oE func413 fun F H C=>?_;refine qa ?_;refine jR Ty.mixed (by kernel_rfl) (fun k=>k) (fun(k:Nat) S=>k<=8/\S.boxes=[]/\S.rows=[]/\S.σ 0=lI y a/\S.σ 1=lI w b/\S.σ 5=vint ((k:Int) - 1)) 8 ⟨0,?_⟩ (fun k S ⟨G,z,A,h,j,d⟩=>?_)
 ·simp only [rB,simprocAttr]
 ·rcases k with _ | m
  ·have q:¬ 0<=((0:Nat):Int) - 1:=by decide
   simp only [↓rA,rB,d];exact r0 ⟨⟨_,rfl⟩,rfl,rfl⟩
  ·have e:(((m+1:Nat)):Int) - 1=(m:Int):=by omega
   rw [e] at d;have q:(0:Int)<=(m:Int):=by omega
   have u:m < 8:=by omega
   have o:m < a.length:=by omega
   have p:m < b.length:=by omega
   have hd:=JT (m:=m) (by omega);simp only [↓rA,rB,Nat.reduceEqDiff,reduceCtorEq,h,j,d,q,zq,u,n,hb,zz,qI _ _ _ o,qI _ _ _ p,tU,Nat.reduceShiftRight,Nat.reduceMod];apply qf <;> intro D
   ·simp only [↓rA,rB,Nat.reduceEqDiff,reduceCtorEq,z,A,h,j,d,q,zq,u,n,hb,zz,qI _ _ _ o,qI _ _ _ p,tU,Nat.reduceShiftRight,Nat.reduceMod];exact r0 ⟨⟨_,rfl⟩,rfl,rfl⟩
   ·refine qa ?_;exact⟨m,qP5 _,0,by omega,rfl⟩
theorem qa8 (y:Option Value) (a:List Int) (C:a.length=8):Ok prog 410 [lI y a] [] fun v e rs=>BI 8 v e/\rs=[]:=by
 refine oE func410 fun F Q N=>?_;refine qa ?_;refine vg Ty.mixed (by rfl) 8 (fun i S=>∃ u e,BI0 i u e/\S.boxes=e/\S.rows=[]/\S.σ 0=lI y a/\S.σ 3=u/\(∃ t,S.σ 4=vint t)/\S.σ 5=vint i) ⟨_,_,zc _,zc _,?_⟩ (fun i S D ⟨u,e,w,k,p,n,A,⟨t,o⟩,j⟩=>?_) (fun S ⟨u,e,w,k,p,n,A,⟨t,o⟩,j⟩=>?_)
 ·refine qB ?_;exact⟨_,[],.inl ⟨rfl,rfl,rfl⟩,rfl,rfl,⟨_,rfl⟩⟩
 ·have M:=qj D;have G:i < a.length:=by omega
  have K:(i:Int) < 8:=by omega
  rcases w with⟨rfl,rfl,rfl⟩ | ⟨P,g,c,es,rest,x,d,H,rfl,rfl⟩
  ·simp only [↓rA,rB,n,o,j,C,zz,qI _ _ _ G,tU,simprocAttr];refine qf (fun d=>?_) (fun d=>?_) <;>
   ·simp only [↓rA,rB,A,tU,simprocAttr];intro y;refine jS.r ?_;simp only [↓rA,rB,k,p,tU,simprocAttr];refine fun g c z d=>?_;simp only [↓rA,rB,j,simprocAttr];refine⟨_,[],zc _,zn _,?_⟩;simp only [rB,k,n,simprocAttr];exact⟨_,[_],qmi d,rfl,rfl,⟨_,rfl⟩,rfl⟩
  ·have L:wo [(g,B.c (List.map vint es++rest))] g=[]:=by simp [wo]
   simp only [↓rA,rB,Int.reduceEq,Nat.reduceEqDiff,reduceCtorEq,n,o,j,zq,D,K,C,zz,qI _ _ _ G,tU,Nat.reduceShiftRight,Nat.reduceMod];refine qf (fun d=>?_) (fun d=>?_) <;>
   ·refine qa ?_;intro y;refine jS.r ?_;simp only [↓rA,rU,k,p,simprocAttr];refine⟨⟨by simp_all,by omega,by omega⟩,fun I O z J=>?_⟩;replace z:¬ I ∈ qL (wo [(g,B.c (List.map vint es++rest))] g) _:=z;simp only [↓rA,rU,k,j,M,L,simprocAttr];refine⟨_,[],zc _,zn _,?_⟩;refine qB ?_;exact⟨_,[_],JO x J,rfl,rfl,⟨_,rfl⟩⟩
 ·obtain⟨_,g,c,es,rest,x,d,H,rfl,rfl⟩:=w.resolve_left (fun h=>absurd h.1 (by decide));have q:¬ ((8:Nat):Int) < 8:=by decide
  refine qa ?_;exact⟨_,[_],[],Le.refl _,zc _,zn _,⟨g,c,es,rest,x,d,H,rfl,rfl⟩,rfl⟩
def IL (v:V):Prop:=∃ y es,es.length=8/\v=lI y es
theorem qCr:(es.map fun x=>[vint x]).flatten=es.map vint:=by
 induction es with
 | nil=>rfl
 | cons a l d=>simp_all
theorem WH {g c:Nat} {rest:List V} (a:es.length=n) (hc:n<=c):qmy g n c 1 (es.map vint++rest) (es.map fun x=>[vint x]) :=
 ⟨by rw [qCr,qPh,qBf (by simp_all)],fun e h=>by obtain⟨x,_,rfl⟩:=x9.1 h;rfl,by simp_all,hc⟩
theorem qdg {f:FuncId} {args:List V} {d:Bx} (h:Ok prog f args d fun v a rs=>BI 8 v a/\rs=[]):Ok prog f args d fun v a rs=>IL v/\a=[]/\rs=[]:=by
 refine Ok.freeze h fun v a rs h=>?_;obtain⟨⟨g,c,es,rest,e,j,k,rfl,rfl⟩,rfl⟩:=h;exact .inr ⟨g,8,c,1,_,_,[],_,zp _,WH e j,.here,⟨_,es,e,rfl⟩,rfl,rfl⟩
theorem qzs {f:FuncId} {args:List V} {v:V} {a:Bx} {Q:V->Bx->List Row->Prop} (h:∀ y es,es.length=8->Ok prog f (lI y es::args) [] Q) (hb:BI 8 v a):Ok prog f (v::args) a Q:=by
 obtain⟨g,c,es,rest,d,e,j,rfl,rfl⟩:=hb;exact Ok.consume (WH d e) (.cons .here (FzL.refl _)) (h _ es d)
theorem uw (v:V) (d:Wd v):Ok prog 408 [v] [] fun v a rs=>IL v/\a=[]/\rs=[]:=qdg (Wy v d)
theorem qze (v:V) (e:IL v):Ok prog 410 [v] [] fun v a rs=>IL v/\a=[]/\rs=[]:=by
 obtain⟨y,es,d,rfl⟩:=e;exact qdg (qa8 y es d)
theorem Vs (v:V) (a:Bx) (e:BI 8 v a):Ok prog 410 [v] a fun v a rs=>IL v/\a=[]/\rs=[] :=
 qzs (fun y es d=>qdg (qa8 y es d)) e
theorem qnu (v:V) (J:IL v):Ok prog 409 [v] [] fun v j rs=>Wd v/\j=[]/\rs=[]:=by
 obtain⟨y,a,A,rfl⟩:=J;refine oE func409 fun F O L=>?_;refine qb fun d M=>?_;refine qa ?_;refine jR Ty.mixed (by rfl) (fun k=>k) (fun(k:Nat) S=>k<=4/\(∃ x,S.boxes=[(d,x)]/\x=.c [vint 0,vu 0])/\S.rows=[]/\S.σ 0=lI y a/\S.σ 2=ptr d/\(∃ t,S.σ 3=vu t)/\(∃ t,S.σ 4=vu t)/\S.σ 5=vint ((k:Int) - 1)) 4 ⟨0,?_⟩ (fun k S ⟨N,⟨x,w,K⟩,z,n,o,⟨t3,p⟩,⟨t4,u⟩,h⟩=>?_)
 ·simp only [rB,simprocAttr];simp
 ·subst K;rcases k with _ | m
  ·have q:¬ (0:Int)<=0 - 1:=by decide
   refine qa ?_;exact r0 ⟨⟨_,_,rfl⟩,rfl,rfl⟩
  ·have e:(((m+1:Nat)):Int) - 1=(m:Int):=by omega
   rw [e] at h;have q:(0:Int)<=(m:Int):=by omega
   have G:m < 8:=by omega
   have H:m+4 < 8:=by omega
   have C:m < a.length:=by omega
   have D:m+4 < a.length:=by omega
   have hd:=JT (m:=m) (by omega);have I:IntKind.i64.wrap ((m:Int)+4)=((m+4:Nat):Int):=by rw [qv (by omega) (by omega)];omega
   simp only [↓rA,rB,Nat.reduceEqDiff,reduceCtorEq,w,z,n,o,p,u,h,q,I,zq,G,H,A,hd,zz,qI _ _ _ C,qI _ _ _ D,tU,Nat.reduceShiftRight,Nat.reduceMod];exact⟨m,qP5 _,0,by omega,⟨_,rfl,rfl⟩,⟨_,rfl⟩,⟨_,rfl⟩,rfl⟩
theorem J7 (v:V) (H:IL v) (n:Int):Ok prog 412 [v,vint n] [] fun v d rs=>IL v/\d=[]/\rs=[]:=by
 obtain⟨y,a,I,rfl⟩:=H;refine oE func412 fun F W R=>?_;refine qa ?_;refine vg Ty.mixed (by rfl) 8 (fun i S=>∃ u d,BI0 i u d/\S.boxes=d/\S.rows=[]/\S.σ 0=lI y a/\S.σ 1=vint n/\S.σ 5=u/\S.σ 6=vint i) ⟨_,_,zc _,zc _,?_⟩ (fun i S J ⟨u,d,C,j,A,k,z,o,e⟩=>?_) (fun S ⟨u,d,C,j,A,k,z,o,e⟩=>?_)
 ·refine qB ?_;exact⟨_,[],.inl ⟨rfl,rfl,rfl⟩,rfl,rfl⟩
 ·have Q:=qj J;have K:i < a.length:=by omega
  have O:(i:Int) < 8:=by omega
  rcases C with⟨rfl,rfl,rfl⟩ | ⟨U,g,c,es,rest,D,p,L,rfl,rfl⟩
  ·simp only [↓rA,rB,k,o,e,I,zz,qI _ _ _ K,tU,simprocAttr];intro y;refine jS.r ?_;simp only [↓rA,rB,j,A,tU,simprocAttr];refine fun g c G p=>?_;simp only [↓rA,rB,e,simprocAttr];refine⟨_,[],zc _,zn _,?_⟩;simp only [rB,j,k,z,simprocAttr];exact⟨_,[_],qmi p,rfl,rfl,rfl⟩
  ·have P:wo [(g,B.c (List.map vint es++rest))] g=[]:=by simp [wo]
   simp only [↓rA,rB,Nat.reduceEqDiff,Nat.reduceLT,Nat.reduceLeDiff,Nat.reduceMul,reduceCtorEq,k,o,e,zq,J,O,I,zz,qI _ _ _ K,tU,Nat.reduceShiftRight,Nat.reduceMod];intro y;refine jS.r ?_;simp only [↓rA,rU,j,A,simprocAttr];refine⟨⟨by simp_all,by omega,by omega⟩,fun M T G N=>?_⟩;replace G:¬ M ∈ qL (wo [(g,B.c (List.map vint es++rest))] g) _:=G;simp only [↓rA,rU,j,e,Q,P,simprocAttr];refine⟨_,[],zc _,zn _,?_⟩;refine qB ?_;exact⟨_,[_],JO D N,rfl,rfl⟩
 ·obtain⟨_,g,c,es,rest,D,p,L,rfl,rfl⟩:=C.resolve_left (fun h=>absurd h.1 (by decide));have q:¬ ((8:Nat):Int) < 8:=by decide
  obtain⟨w,x,rfl⟩:∃ w x,es=w::x:=by
   cases es with
   | nil=>cases D
   | cons a l=>simp
  simp only [↓rA,rB,j,z,o,e,q,tU,simprocAttr];refine qr [_] [] (zp _) (Vs _ _ ⟨g,c,IntKind.i64.wrap (w+n)::x,rest,by omega,p,L,rfl,rfl⟩) ?_;rintro v d rs ⟨H,rfl,rfl⟩;simp only [↓rA,rB];exact r0 ⟨H,rfl,rfl⟩
theorem qu0 (v:V) (a:Bx) (e:BI 8 v a) (n:Int):Ok prog 412 [v,vint n] a fun v a rs=>IL v/\a=[]/\rs=[] :=
 qzs (fun y es d=>J7 _ ⟨y,es,d,rfl⟩ n) e
theorem qwt (v w:V) (A:IL v) (M:IL w):Ok prog 414 [v,w] [] fun v C rs=>IL v/\C=[]/\rs=[]:=by
 obtain⟨y,a,G,rfl⟩:=A;obtain⟨N,o,H,rfl⟩:=M;refine Ok.of_exM [(5,4)] Ty.mixed func414 rfl (by simp) (by rfl) fun F R P=>?_;refine qa ?_;refine vg Ty.mixed (by rfl) 8 (fun i S=>((i=0/\S.σ 5=nilS/\S.rows=[])∨∃ z es,es.length=i/\S.σ 5=lI (some z) es/\S.rows=[⟨z,1,3⟩])/\S.boxes=[]/\S.σ 0=lI y a/\S.σ 1=lI N o/\S.σ 6=vint i) ⟨_,_,zc _,zc _,?_⟩ (fun i S x ⟨u,D,j,k,n⟩=>?_) (fun S ⟨u,D,j,k,n⟩=>?_)
 ·exact qA
 ·have Q:=qj x;have J:i < a.length:=by omega
  have K:i < o.length:=by omega
  have L:(i:Int) < 8:=by omega
  rcases u with⟨rfl,d,p⟩ | ⟨z,es,I,d,p⟩
  ·simp only [↓rA,rB,j,k,d,n,x,G,H,zz,qI _ _ _ J,qI _ _ _ K,tU,simprocAttr];intro O e;refine⟨[],[⟨e,1,3⟩],zn _,?_,?_⟩
   ·exact List.Sublist.cons_cons _ (zn _)
   simp only [rB,j,k,simprocAttr];exact⟨⟨e,[_],rfl,rfl,rfl⟩,rfl⟩
  ·simp only [↓rA,rB,Nat.reduceEqDiff,Nat.reduceLT,Nat.reduceLeDiff,Nat.reduceMul,reduceCtorEq,p,j,k,d,n,zq,x,L,G,H,zz,qI _ _ _ J,qI _ _ _ K,tU,Nat.reduceShiftRight,Nat.reduceMod];intro O;refine xf ?_;refine qa ?_;refine⟨by omega,fun e=>?_⟩;refine⟨[],[⟨e,1,3⟩],zn _,List.Sublist.cons_cons _ (zn _),?_⟩;refine qB ?_;refine⟨e,es++[IntKind.i64.wrap (a[i] - o[i])],by simp_all,?_,rfl⟩;simp
 ·obtain⟨h,_⟩ | ⟨z,es,I,d,p⟩:=u
  ·cases h
  have q:¬ ((8:Nat):Int) < 8:=by decide
  simp only [↓rA,rB,D,d,n,q,tU,simprocAttr];refine qF (qze _ ⟨_,es,I,rfl⟩) ?_;rintro v C rs ⟨A,rfl,rfl⟩;simp only [↓rA,rB];exact r0 ⟨A,rfl,rfl⟩
theorem qG8 {A R:List V} (h:A.length=n):(A++R).drop n=R:=qK3 h
theorem qE7 {A R:List V} {v w:V} (h:A.length=n):(A++v::R).take n++[w]++(A++v::R).drop (n+1)=A++w::R:=by
 subst h;simp
theorem X4 {i:Nat} (h:i < es.length):∃ A B,A.length=i/\es.map vint=A++vint es[i]::B/\∀ z,(es.set i z).map vint=A++vint z::B:=by
 induction es generalizing i with
 | nil=>cases h
 | cons a l j =>
  cases i with
  | zero=>simp
  | succ i =>
   obtain⟨A,B,k,d,e⟩:=j (Nat.lt_of_succ_lt_succ h);exact⟨vint a::A,B,by simp_all,by simp [d],fun z=>by simp [e]⟩
theorem qUd:(∀ (v w:V) (n:Wd v) (K:Wd w),Ok prog 406 [v,w] [] fun v d rs=>Wd v/\d=[]/\rs=[])/\∀ (v w:V) (n:Wd v) (K:Wd w),Ok prog 416 [v,w] [] fun v d rs=>Wd v/\d=[]/\rs=[]:=by
 constructor
 all_goals
  intro v w n K;obtain⟨a,b,rfl⟩:=n;obtain⟨L,M,rfl⟩:=K
  first | refine oE func406 fun F w0 T=>?_ | refine oE func416 fun F w0 T=>?_
  refine qb fun C W=>?_;refine qb fun D X=>?_;refine qb fun o Y=>?_;refine qa ?_;refine zB [] _ (zp _) (Wy _ ⟨a,b,rfl⟩) ?_;rintro v d rs ⟨⟨g,c,es,rest,z,Z,hr,rfl,rfl⟩,rfl⟩ e;simp only [z7,Jx,js,xb,y8,or_false,not_or,List.cons_append,List.nil_append] at e;have n4:o ≠ g/\g ≠ o:=⟨qKh e.1.1,e.1.1⟩;have n3:D ≠ g/\g ≠ D:=⟨qKh e.1.2.1,e.1.2.1⟩;have n2:C ≠ g/\g ≠ C:=⟨qKh e.1.2.2,e.1.2.2⟩;have hh:=aI n2 (aI n3 (aI n4 (aI W (aI X Y))));refine qW (uw _ ⟨L,M,rfl⟩) ?_;rintro v d rs ⟨⟨y,p,O,rfl⟩,rfl,rfl⟩;refine qa ?_;refine qG Ty.mixed (by kernel_rfl) 8 (fun i S=>(∃ es:List Int,es.length=8/\S.boxes=[(g,.c (es.map vint++rest)),(o,.c [vint 0,vu 0]),(D,.c [vint L,vu M]),(C,.c [vint a,vu b])])/\S.rows=[]/\S.σ 4=ptr o/\S.σ 5=slI g 8 c/\S.σ 6=lI y p/\S.σ 7=vint i) ⟨0,?_⟩ (fun i S J ⟨⟨es,z,h⟩,I,G,j,H,k⟩=>?_) (fun S ⟨⟨es,z,h⟩,I,G,j,H,k⟩=>?_)
  ·refine qB ?_;exact⟨es,z,rfl⟩
  ·have R:=qj J;have P:(i:Int) < 8:=by omega
   have aa:i < es.length:=by omega
   have Q:i < p.length:=by omega
   obtain⟨A,B,hA,U,N⟩:=X4 aa;have u:A.length=i * 1:=by omega
   rw [U,jm,qMr] at h
   first | simp only [↓rA,rB,Nat.reduceEqDiff,h,I,G,j,H,k,R,zq,J,O,zz,qI _ _ _ Q,qG8 u,P,tU,Nat.reduceShiftRight,Nat.reduceMod] | simp only [↓rA,rB,Nat.reduceEqDiff,h,I,G,j,H,k,R,zq,J,O,zz,qI _ _ _ Q,qG8 u,P,tU,Nat.reduceShiftRight,Nat.reduceMod]
   first | (refine⟨by simp_all,0,es.set i (IntKind.i64.wrap (es[i]+p[i])),by simp_all,?_⟩;rw [qNk,N,qE7 u,jm,qMr];done) | (refine⟨by simp_all,0,es.set i (IntKind.i64.wrap (es[i] - p[i])),by simp_all,?_⟩;rw [qNk,N,qE7 u,jm,qMr];done)
  ·have q:¬ ((8:Nat):Int) < 8:=by decide
   first | simp only [↓rA,rB,h,j,k,q,tU,simprocAttr] | simp only [↓rA,rB,h,j,k,q,tU,simprocAttr]
   refine qr [_] _ (zp _) (Vs _ _ ⟨g,c,es,rest,z,Z,hr,rfl,rfl⟩) ?_;rintro v d rs ⟨n,rfl,rfl⟩
   first | simp only [↓rA,rB,tU,Nat.reduceShiftRight,Nat.reduceMod] | simp only [↓rA,rB,tU,Nat.reduceShiftRight,Nat.reduceMod]
   refine qF (qnu _ n) ?_;rintro v d rs ⟨⟨x,x',rfl⟩,rfl,rfl⟩;refine qa ?_;exact r0 ⟨⟨_,_,rfl⟩,rfl,rfl⟩
def qJ6:=qUd.1
def qH3:=qUd.2
theorem qwr (v:V) (e:Wd v):Ok prog 415 [v] [] fun v j rs=>Wd v/\j=[]/\rs=[]:=by
 obtain⟨a,b,rfl⟩:=e;refine Ok.of_exM [(1,3)] Ty.mixed func415 rfl (by simp) (by rfl) fun F M G=>?_;refine qb fun p H=>?_;refine qb fun q I=>?_;refine qa ?_;refine JP Ty.mixed (by rfl) (by rfl) (fun L S=>S.rows=[]/\S.σ 1=ptr p/\S.σ 2=ptr q/\(∃ x n,S.boxes=[(q,.c [vint x,vu n]),(p,.c [vint a,vu b])])/\(L 0=true->Wd (S.σ 3))/\(L 1=true->S.σ 4=.agg [vint a,vu b])/\(L 2=true->Wd (S.σ 5))) ?_ ?_ ?_
 ·exact⟨rfl,rfl,rfl,⟨_,_,rfl⟩,(fun h=>by cases h),(fun h=>by cases h),(fun h=>by cases h)⟩
 ·intro L S i o d C k ⟨z,u,w,⟨x,n,A⟩,f0,f1,f2⟩
  match i,d with
  | 0,d =>
   cases d;refine qW (qnp 0) ?_;rintro v j rs ⟨e,rfl,rfl⟩;simp only [↓rA,rU,z,u,w,simprocAttr];exact⟨⟨_,_,rfl⟩,fun _=>e,f1,f2⟩
  | 1,d =>
   cases d;refine qa ?_;exact⟨⟨_,_,rfl⟩,f0,fun _=>trivial,f2⟩
  | 2,d =>
   cases d;have D:=f0 (dt k 0);have J:=f1 (dt k 1);refine qW (qH3 _ _ D ⟨a,b,rfl⟩) ?_;rintro v j rs ⟨e,rfl,rfl⟩;refine qa ?_;simp_all
  | 3,d =>
   cases d;obtain⟨y,N,K⟩:=f2 (dt k 2);refine qa ?_;exact⟨⟨_,_,rfl⟩,f0,f1,fun _=>⟨_,_,rfl⟩⟩
 ·intro L S C ⟨z,u,w,⟨x,n,A⟩,f0,f1,f2⟩;refine qa ?_;exact r0 ⟨⟨_,_,rfl⟩,rfl,rfl⟩
theorem UU (v:V) (d:Wd v):Ok prog 411 [v] [] fun v e rs=>IL v/\e=[]/\rs=[]:=by
 obtain⟨a,b,rfl⟩:=d;refine oE func411 fun F o h=>?_;refine qb fun j k=>?_;refine qa ?_;apply qf <;> intro n
 ·refine qW (qwr _ ⟨a,b,rfl⟩) ?_;rintro v e rs ⟨d,rfl,rfl⟩;refine qW (uw _ d) ?_;rintro v e rs ⟨d,rfl,rfl⟩;refine qa ?_;exact r0 ⟨d,rfl,rfl⟩
 ·refine qW (uw _ ⟨a,b,rfl⟩) ?_;rintro v e rs ⟨d,rfl,rfl⟩;refine qa ?_;exact r0 ⟨d,rfl,rfl⟩
def Qt (v:V):Prop:=∃ (n:Int) (t:Bool),v=.tup [vint n,.lit (.bool t)]
theorem Vx (v w:V) (j:IL v) (k:IL w):Ok prog 413 [v,w] [] fun v a rs=>(∃ t,v=.lit (.bool t))/\a=[]/\rs=[]:=by
 obtain⟨y,es,e,rfl⟩:=j;obtain⟨n,d,h,rfl⟩:=k;exact qzt y n es d e h
theorem qsi (v:V) (K:Wd v) (n:Int):Ok prog 407 [v,vint n] [] fun v d rs=>Qt v/\d=[]/\rs=[]:=by
 obtain⟨a,b,rfl⟩:=K;refine oE func407 fun F w0 Z=>?_;refine qb fun L h2=>?_;refine qa ?_;apply qf <;> intro o
 ·refine qa ?_;exact r0 ⟨⟨_,_,rfl⟩,rfl,rfl⟩
 refine qW (UU _ ⟨a,b,rfl⟩) ?_;rintro v d rs ⟨⟨Y,M,l6,rfl⟩,rfl,rfl⟩;refine qW (qnp n) ?_;rintro v d rs ⟨K,rfl,rfl⟩;refine qW (UU _ K) ?_;rintro v d rs ⟨C,rfl,rfl⟩;simp only [↓rA,rB,tU,simprocAttr];refine qX fun D h3=>?_;simp only [↓rA,rB,results407];have W:BI 8 (slI D 8 8) [(D,.c (List.replicate 8 [vint 0]).flatten)]:=⟨D,8,List.replicate 8 0,[],rfl,w3 _,rfl,rfl,rfl⟩;refine Qi Ty.mixed (by rfl) (fun k=>k) (fun(k:Nat) S=>k<=128/\(∃ d,(k=0->IL (S.σ 8)/\d=[])/\(∀ n,Ok prog 412 [S.σ 8,vint n] d fun v d rs=>IL v/\d=[]/\rs=[])/\S.boxes=d++[(L,.c [vint a,vu b])])/\S.rows=[]/\S.σ 1=vint n/\S.σ 2=ptr L/\S.σ 6=lI Y M/\S.σ 7=v/\(∃ t,S.σ 9=vint t)/\S.σ 10=vint ((k:Int) - 1)) 128 ⟨_,_,zc _,zc _,?_⟩ (fun k S ⟨hk,⟨d,R,A,O⟩,j,y,z,H,u,⟨t9,J⟩,G⟩=>?_)
 ·refine⟨w3 _,⟨[_],fun h=>absurd h (by decide),fun n=>qu0 _ _ W n,rfl⟩,rfl,rfl,rfl,rfl,rfl,⟨_,rfl⟩,rfl⟩
 ·rcases k with _ | m
  ·have q:¬ (0:Int)<=0 - 1:=by decide
   obtain⟨T,rfl⟩:=R rfl;generalize I:S.σ 8=X at T A;simp only [↓rA,rB,O,I,G,q,tU,simprocAttr];refine qF (A 0) ?_;rintro x d rs ⟨p,rfl,rfl⟩;simp only [↓rA,rB,j,u,List.nil_append,tU,simprocAttr];refine qF (Vx v x C p) ?_;rintro w d rs ⟨⟨t,rfl⟩,rfl,rfl⟩;cases t
   ·simp only [↓rA,rB,j,u,List.nil_append,tU,simprocAttr];refine qF (Vx x v p C) ?_;rintro w d rs ⟨⟨t,rfl⟩,rfl,rfl⟩;cases t <;> simp only [↓rA,rB,j,J,List.nil_append,simprocAttr]
    all_goals
     skip
     repeat' (first
      | (refine qf (fun o=>?_) (fun o=>?_) <;> ((try simp only [↓rA,rB,j,y,z,J,o,tU,simprocAttr])))
      | exact⟨_,[],[],Le.refl _,zn _,zn _,⟨_,_,rfl⟩,rfl,rfl⟩)
   ·simp only [↓rA,rB,j,J,List.nil_append,simprocAttr]
    repeat' (first
     | (refine qf (fun o=>?_) (fun o=>?_) <;> ((try simp only [↓rA,rB,j,y,z,o,tU,simprocAttr])))
     | exact⟨_,[],[],Le.refl _,zn _,zn _,⟨_,_,rfl⟩,rfl,rfl⟩)
  ·have e:(((m+1:Nat)):Int) - 1=(m:Int):=by omega
   rw [e] at G;have q:(0:Int)<=(m:Int):=by omega
   have hd:=JT (m:=m) (by omega);have N:IntKind.i64.wrap ((m:Int).tdiv 16)=((m / 16:Nat):Int):=by
    rw [show (m:Int).tdiv 16=((m / 16:Nat):Int) from rfl,qv (by omega) (by omega)]
   have Q:(m:Int).tmod 16=((m % 16:Nat):Int):=rfl;generalize I:S.σ 8=X at A;simp only [↓rA,rB,O,H,I,G,q,tU,simprocAttr];have hl:m / 16 < 8:=by omega
   have U:m / 16 < M.length:=by omega
   refine⟨by omega,by rw [N,zz];omega,?_⟩;rw [N,Q,qQr,qI _ _ _ U];refine qB ?_;refine qr d _ (zp _) (A _) ?_;rintro x d rs ⟨p,rfl,rfl⟩;refine qW (Vx x v p C) ?_;rintro w d rs ⟨⟨t,rfl⟩,rfl,rfl⟩;cases t
   ·simp only [↓rA,rB,j,u,List.nil_append,tU,simprocAttr];refine qF (qwt x v p C) ?_;rintro v9 d rs ⟨P,rfl,rfl⟩;simp only [↓rA,rB,j,List.nil_append,simprocAttr];apply qf <;> intro o
    ·refine qa ?_;exact r0 ⟨⟨_,_,rfl⟩,rfl,rfl⟩
    ·refine qa ?_;refine⟨m,qP5 _,_,[],zc _,zn _,by omega,⟨[],fun _=>⟨?_,rfl⟩,?_,rfl⟩,rfl,y,z,H,u,⟨_,rfl⟩,rfl⟩
     ·exact P
     ·exact fun n=>J7 _ P n
   ·simp only [↓rA,rB,j,List.nil_append,simprocAttr];apply qf <;> intro o
    ·refine qa ?_;exact r0 ⟨⟨_,_,rfl⟩,rfl,rfl⟩
    ·refine qa ?_;refine⟨m,qP5 _,_,[],zc _,zn _,by omega,⟨[],fun _=>⟨?_,rfl⟩,?_,rfl⟩,rfl,y,z,H,u,⟨_,rfl⟩,rfl⟩
     ·exact p
     ·exact fun n=>J7 _ p n
theorem qj8 (u:List Fac) (hu:u.length<=1000):Ok prog 402 [qN u] [] fun v p rs=>(∃ l:List Str,l.length<=u.length/\v=.list none 1 (l.map fun s=>[vstr s]))/\p=[]/\rs=[]:=by
 refine oE func402 fun F N H=>?_;refine qa ?_;refine xo.nilRow 3 1 9 (by rfl) (by decide) ?_;refine KW Ty.mixed (by kernel_rfl) u.length (fun i S=>∃ y,(∃ l:List Str,l.length<=i/\S.σ 3=.list (some y) 1 (l.map fun s=>[vstr s]))/\S.rows=[⟨y,1,9⟩]/\S.σ 0=qN u/\S.σ 4=vint i/\S.boxes=[]) ⟨0,1,nilv,?_⟩ (fun i S x ⟨y,⟨l,o,e⟩,n,d,h,k⟩=>?_) (fun S ⟨y,⟨l,o,e⟩,n,d,h,k⟩=>?_)
 ·refine qB ?_;simp
 ·have L:=qj x;refine qn ?_;refine jR Ty.mixed (by kernel_rfl) (fun j=>l.length - j) (fun j S=>j<=l.length/\S.σ 5=vint j/\S.σ 3=.list (some y) 1 (l.map fun s=>[vstr s])/\S.rows=[⟨y,1,9⟩]/\S.σ 0=qN u/\S.σ 4=vint i/\S.boxes=[]) 0 ⟨0,?_⟩ fun j S ⟨K,I,e,n,d,h,k⟩=>?_
  ·exact qA
  ·by_cases z:j < l.length
   ·have M:=qj z (show l.length<=9223372036854775807 by omega);generalize A:u[i].name=s;cases q:Op.bytesLess l[j].data.toList s.data.toList
    ·by_cases w:l[j]=s
     ·have J:Op.bytesLess s.data.toList s.data.toList=false:=w▸q;refine qn ?_;exact⟨0,1,y,⟨l,by omega,rfl⟩,rfl⟩
     ·refine qn ?_;refine jS.l ?_;refine qn ?_;refine⟨(by((simp;omega))),fun C D=>xf ?_⟩;refine qa ?_;refine⟨(by((simp;omega))),fun G=>yt ?_⟩;refine qa ?_;refine⟨(by((simp;omega))),fun a=>?_⟩;exact⟨0,1,a,⟨l.take j++[s]++l.drop j,by simp;omega,by simp⟩,rfl⟩
    ·refine qn ?_;exact⟨j+1,by omega,0,by omega,rfl⟩
   ·generalize A:u[i].name=s;refine qn ?_;refine jS.l ?_;refine qn ?_;refine⟨(by((simp;omega))),fun C D=>xf ?_⟩;refine qa ?_;refine⟨(by((simp;omega))),fun G=>yt ?_⟩;refine qa ?_;refine⟨(by((simp;omega))),fun a=>?_⟩;exact⟨0,1,a,⟨l.take j++[s]++l.drop j,by simp;omega,by simp⟩,rfl⟩
 ·refine qn ?_;exact⟨_,[],[],Le.list _ _ _,zn _,zn _,⟨l,o,rfl⟩,rfl,rfl⟩
theorem qgr (u:List Fac) (hu:u.length<=1000) (j:Str):Ok prog 403 [qN u,vstr j] [] fun v d rs=>Qt v/\d=[]/\rs=[]:=by
 refine Ok.of_exM [(6,2)] Ty.mixed func403 rfl (by simp) (by rfl) fun F J G=>?_;refine qW (qnp 0) ?_;rintro v d rs ⟨⟨x,a,rfl⟩,rfl,rfl⟩;refine qb fun e H=>?_;refine qa ?_;refine qG Ty.mixed (by rfl) u.length (fun i S=>(∃ x a,S.boxes=[(e,.c [vint x,vu a])])/\S.rows=[]/\S.σ 0=qN u/\S.σ 1=vstr j/\S.σ 6=ptr e/\S.σ 7=vint i) ⟨0,?_⟩ (fun i S C ⟨⟨x,a,w⟩,y,k,o,p,q⟩=>?_) (fun S ⟨⟨x,a,w⟩,y,k,o,p,q⟩=>?_)
 ·refine qB ?_;simp
 ·have I:=qj C;refine qn ?_;apply qf <;> intro h
  ·refine qn ?_;refine jQ (qnp _) ?_;rintro v d rs ⟨D,rfl,rfl⟩;refine⟨rfl,?_⟩;refine qa ?_;refine jQ (qJ6 _ _ ⟨x,a,rfl⟩ D) ?_;rintro v d rs ⟨⟨z,K,rfl⟩,rfl,rfl⟩;refine⟨rfl,?_⟩;refine qa ?_;exact⟨0,_,_,rfl⟩
  ·refine qa ?_;exact⟨0,_,_,rfl⟩
 ·refine qn ?_;refine qF (qsi _ ⟨x,a,rfl⟩ 1) ?_;rintro v d rs ⟨⟨n,t,rfl⟩,rfl,rfl⟩;have A:=qyc n;cases t
  ·refine qa ?_;exact r0 ⟨⟨_,_,rfl⟩,rfl,rfl⟩
  ·refine qi _ A ?_;refine qa ?_;refine qf (fun h=>?_) (fun h=>?_) <;>
   ·refine qa ?_;exact r0 ⟨⟨_,_,rfl⟩,rfl,rfl⟩
theorem qkt (u:List Fac) (hu:u.length<=1000):Ok prog 397 [qN u] [] fun v e rs=>(∃ d:List Fac,d.length=u.length/\v=qN d)/\e=[]/\rs=[]:=by
 refine Ok.of_exM [(5,4)] Ty.mixed func397 rfl (by simp) (by rfl) fun F z w=>?_;refine qa ?_;refine xo.nilRow 3 2 294 (by rfl) (by decide) ?_;refine KW Ty.mixed (by rfl) u.length (fun i S=>∃ y,(∃ l:List Fac,l.length=i/\S.σ 3=.list (some y) 2 (l.map cFac))/\S.rows=[⟨y,2,294⟩]/\S.σ 0=qN u/\S.σ 4=vint i/\S.boxes=[]) ⟨0,1,nilv,?_⟩ (fun i S p ⟨y,⟨l,a,j⟩,o,h,k,n⟩=>?_) (fun S ⟨y,⟨l,a,j⟩,o,h,k,n⟩=>?_)
 ·refine qB ?_;simp
 ·have x:=qj p;refine qn ?_;intro A;refine xf ?_;refine qa ?_;refine⟨(by omega),fun q=>?_⟩;refine⟨0,1,q,⟨l++[⟨u[i].name,IntKind.i64.wrap (0 - u[i].exp)⟩],by simp [a],by simp⟩,rfl⟩
 ·refine qn ?_;exact⟨_,[],[],Le.list _ _ _,zn _,zn _,⟨l,a,rfl⟩,rfl,rfl⟩
def Ut (v:V):Prop:=∃ (u:List Fac) (k:Int),u.length<=1000/\v=.tup [qN u,vint k]
theorem qqs (u:List Fac) (hu:u.length<=1000):Ok prog 396 [qN u] [] fun v e rs=>Ut v/\e=[]/\rs=[]:=by
 have bad:∀ (k:Int) (X:Bx) (Y:List Row),∃ v o q,Le (.tup [nilS,vint k]) v/\o.Sublist X/\q.Sublist Y/\Ut v/\o=[]/\q=[]:=fun k X Y =>
  ⟨_,[],[],jf (.cons (Le.nil 2) (.c1 .nil)),zn _,zn _,⟨[],k,KM _,rfl⟩,rfl,rfl⟩
 refine oE func396 fun F K I=>?_;refine qa ?_;refine qG Ty.mixed (by rfl) u.length (fun i S=>S.boxes=[]/\S.rows=[]/\S.σ 0=qN u/\S.σ 4=vint i) ⟨0,?_⟩ (fun i S j ⟨d,a,h,x⟩=>?_) (fun S ⟨d,a,h,x⟩=>?_)
 ·exact qD
 ·have G:=qj j;refine qn ?_;refine qo _ (UG _) ?_;refine qa ?_;apply qf <;> intro p
  ·simp only [↓rA,rU,a,simprocAttr];exact bad _ _ _
  ·refine qa ?_;simp
 ·refine qn ?_;refine qF (qj8 u hu) ?_;rintro v e rs ⟨⟨l,J,rfl⟩,rfl,rfl⟩;simp only [↓rA,rB,a];refine xo.nilRow 7 2 294 (by rfl) (by decide) ?_;refine KW Ty.mixed (by rfl) l.length (fun i S=>∃ y,(∃ w:List Fac,w.length<=i/\S.σ 7=.list (some y) 2 (w.map cFac))/\S.rows=[⟨y,2,294⟩]/\S.σ 0=qN u/\S.σ 6=.list none 1 (l.map fun s=>[vstr s])/\S.σ 8=vint i/\S.boxes=[]) ⟨0,1,nilv,?_⟩ (fun i S j ⟨y,⟨w,D,A⟩,a,h,z,C,d⟩=>?_) (fun S ⟨y,⟨w,D,A⟩,a,h,z,C,d⟩=>?_)
  ·refine qB ?_;simp
  ·have G:=qj j;refine qn ?_;refine qF (qgr u hu _) ?_;rintro v e rs ⟨⟨n,t,rfl⟩,rfl,rfl⟩;cases t
   ·simp only [↓rA,rU,a,simprocAttr];exact bad _ _ _
   ·refine qa ?_;apply qf <;> intro p
    ·refine qn ?_;intro L;refine xf ?_;refine qa ?_;refine⟨(by omega),fun H=>?_⟩;exact⟨0,1,H,⟨w++[⟨l[i],n⟩],by simp_all,by simp⟩,rfl⟩
    ·refine qa ?_;exact⟨0,1,y,⟨w,by omega,rfl⟩,rfl⟩
  ·refine qn ?_;apply qf <;> intro p
   ·simp only [↓rA,rU,d,a,simprocAttr];exact bad _ _ _
   ·refine qa ?_;exact⟨_,[],[],jf (.cons (Le.list _ _ _) (.c1 .nil)),zn _,zn _,⟨w,0,by omega,rfl⟩,rfl,rfl⟩
theorem qeb (u w:List Fac):Ok prog 387 [qN u,qN w] [] fun v d rs=>Ut v/\d=[]/\rs=[]:=by
 have bad:∀ (k:Int) (X:Bx) (Y:List Row),∃ v e h,Le (.tup [nilS,vint k]) v/\e.Sublist X/\h.Sublist Y/\Ut v/\e=[]/\h=[]:=fun k X Y =>
  ⟨_,[],[],jf (.cons (Le.nil 2) (.c1 .nil)),zn _,zn _,⟨[],k,KM _,rfl⟩,rfl,rfl⟩
 refine oE func387 fun F q n=>?_;refine qi _ (uL u) ?_;by_cases hu:kJ u=0
 case neg =>
  simp only [↓rA,rU,hu,simprocAttr];exact bad _ _ _
 have o:=jX hu;refine qi _ (uL w) ?_;by_cases a:kJ w=0
 case neg =>
  simp only [↓rA,rU,a,simprocAttr];exact bad _ _ _
 have p:=jX a;refine qa ?_;refine jS.l ?_;simp only [↓rA,rB,a,tU,simprocAttr];refine⟨by rw [zz];omega,fun x=>⟨by rw [zz,zz];omega,fun y=>?_⟩⟩;refine qF (Ok.le (.cons (by rw [<-k8];exact Le.list _ _ _) .nil) (qqs (u++w) (by rw [zr];omega))) ?_;rintro v d rs ⟨⟨z,k,j,rfl⟩,rfl,rfl⟩;refine qa ?_;exact r0 ⟨⟨z,k,j,rfl⟩,rfl,rfl⟩
theorem qqk (u w:List Fac):Ok prog 388 [qN u,qN w] [] fun v a rs=>Ut v/\a=[]/\rs=[]:=by
 have bad:∀ (k:Int) (X:Bx) (Y:List Row),∃ v d h,Le (.tup [nilS,vint k]) v/\d.Sublist X/\h.Sublist Y/\Ut v/\d=[]/\h=[]:=fun k X Y =>
  ⟨_,[],[],jf (.cons (Le.nil 2) (.c1 .nil)),zn _,zn _,⟨[],k,KM _,rfl⟩,rfl,rfl⟩
 refine oE func388 fun F q o=>?_;refine qi _ (uL u) ?_;by_cases hu:kJ u=0
 case neg =>
  simp only [↓rA,rU,hu,simprocAttr];exact bad _ _ _
 refine qi _ (uL w) ?_;by_cases e:kJ w=0
 case neg =>
  simp only [↓rA,rU,e,simprocAttr];exact bad _ _ _
 have p:=jX e;refine qa ?_;refine qF (qkt w (by omega)) ?_;rintro v a rs ⟨⟨n,_,rfl⟩,rfl,rfl⟩;refine qW (qeb u n) ?_;rintro v a rs ⟨⟨z,k,j,rfl⟩,rfl,rfl⟩;refine qa ?_;exact r0 ⟨⟨z,k,j,rfl⟩,rfl,rfl⟩
theorem quv {u:List Fac} (h:u.length<=1000):u.length<=big:=by unfold big;omega
theorem qmg (o:Str) (a b:Typ) (q:xK a) (hb:xK b):Qf prog 375 [vstr o,w8 a,w8 b]:=by
 refine oE func375 fun F w0 Z=>?_;refine qb fun C U=>?_;refine qb fun D W=>?_;refine qb fun G X=>?_;refine qb fun H Y=>?_;have w:=aI U (aI W (aI X Y));simp only [↓qJ,↓zx,↓ua,↓wR,zw,qu,kM,vA,wB,jx,yd,ky,ub,kO,jA,jZ,zP,j1,yh,xB,Xu,yx,w3,eq_self,and_self,not_false_eq_true,ne_eq,z7,Jx,List.take_zero,qL1,qO3,List.length_cons,List.length_nil,List.nil_append,wl,List.toList_toArray,qJ0,qM9,results375,tU,simprocAttr];rw [zu];refine xe (fun S=>S.boxes=[(H,.c [vint 1,nilS,vstr qH]),(G,.c [vint 0,nilS,vstr qH]),(D,.c [vint b.kind,qN b.unit,vstr b.of]),(C,.c [vint a.kind,qN a.unit,vstr a.of])]/\S.rows=[]/\S.σ 0=vstr o/\S.σ 4=ptr C/\S.σ 5=ptr D/\S.σ 6=ptr G/\S.σ 8=ptr H/\∃ n,S.σ 9=qq n) ?_ ?_
 ·refine qa ?_
  repeat' (first
   | (refine qf (fun d=>?_) (fun d=>?_) <;> ((try refine qa ?_)))
   | (refine qE (fun d=>?_) (fun d=>?_) <;> ((try refine qa ?_)))
   | (refine qo _ (j3 _ _ _) ?_;try simp only [↓rA,rU,simprocAttr])
   | simp)
 rintro S ⟨p,y,h,j,x,J,K,n,I⟩;rw [zu];simp only [↓wh,↓qJ,↓zx,↓zA,zw,qu,xY];rw [zu];refine xe (fun S=>S.boxes=[(H,.c [vint 1,nilS,vstr qH]),(G,.c [vint 0,nilS,vstr qH]),(D,.c [vint b.kind,qN b.unit,vstr b.of]),(C,.c [vint a.kind,qN a.unit,vstr a.of])]/\S.rows=[]/\S.σ 0=vstr o/\S.σ 4=ptr C/\S.σ 5=ptr D/\S.σ 6=ptr G/\S.σ 8=ptr H/\S.σ 9=qq n/\∃ k,S.σ 10=vint k) ?_ ?_
 ·refine qa ?_
  repeat' (first
   | (refine qf (fun d=>?_) (fun d=>?_) <;> ((try refine qa ?_)))
   | (refine qE (fun d=>?_) (fun d=>?_) <;> ((try refine qa ?_)))
   | simp)
 clear p y h j x J K I S;rintro S ⟨p,y,h,j,x,J,K,I,k,aa⟩;by_cases L:o=⟨#[97,110,100]⟩
 ·have f0:(o=⟨#[97,110,100]⟩)=True:=eq_true L;have f1:(o=⟨#[111,114]⟩)=False:=eq_false (by simp_all);have f2:(o=⟨#[61,61]⟩)=False:=eq_false (by simp_all);have f3:(o=⟨#[33,61]⟩)=False:=eq_false (by simp_all);have f4:(o=⟨#[60]⟩)=False:=eq_false (by simp_all);have f5:(o=⟨#[60,61]⟩)=False:=eq_false (by simp_all);have f6:(o=⟨#[42]⟩)=False:=eq_false (by simp_all);have f7:(o=⟨#[47]⟩)=False:=eq_false (by simp_all);have e:=aI f0 ( aI f1 ( aI f2 ( aI f3 ( aI f4 ( aI f5 ( aI f6 (f7)))))));clear f0 f1 f2 f3 f4 f5 f6 f7;simp only [↓rA,rU,p,h,j,w,e,simprocAttr]
  repeat' (first
   | (refine qf (fun d=>?_) (fun d=>?_) <;> ((try refine qa ?_)))
   | (refine zm (fun d=>?_) (fun d=>?_) <;> ((try refine qa ?_)))
   | exact xX _ _ _ _ _
   )
 by_cases M:o=⟨#[111,114]⟩
 ·have f0:(o=⟨#[97,110,100]⟩)=False:=eq_false (by omega);have f1:(o=⟨#[111,114]⟩)=True:=eq_true M;have f2:(o=⟨#[61,61]⟩)=False:=eq_false (by simp_all);have f3:(o=⟨#[33,61]⟩)=False:=eq_false (by simp_all);have f4:(o=⟨#[60]⟩)=False:=eq_false (by simp_all);have f5:(o=⟨#[60,61]⟩)=False:=eq_false (by simp_all);have f6:(o=⟨#[42]⟩)=False:=eq_false (by simp_all);have f7:(o=⟨#[47]⟩)=False:=eq_false (by simp_all);have e:=aI f0 ( aI f1 ( aI f2 ( aI f3 ( aI f4 ( aI f5 ( aI f6 (f7)))))));clear f0 f1 f2 f3 f4 f5 f6 f7;simp only [↓rA,rU,p,h,j,w,e,simprocAttr]
  repeat' (first
   | (refine qf (fun d=>?_) (fun d=>?_) <;> ((try refine qa ?_)))
   | (refine zm (fun d=>?_) (fun d=>?_) <;> ((try refine qa ?_)))
   | exact xX _ _ _ _ _
   )
 by_cases N:o=⟨#[61,61]⟩
 ·have f0:(o=⟨#[97,110,100]⟩)=False:=eq_false (by omega);have f1:(o=⟨#[111,114]⟩)=False:=eq_false (by omega);have f2:(o=⟨#[61,61]⟩)=True:=eq_true N;have f3:(o=⟨#[33,61]⟩)=False:=eq_false (by simp_all);have f4:(o=⟨#[60]⟩)=False:=eq_false (by simp_all);have f5:(o=⟨#[60,61]⟩)=False:=eq_false (by simp_all);have f6:(o=⟨#[42]⟩)=False:=eq_false (by simp_all);have f7:(o=⟨#[47]⟩)=False:=eq_false (by simp_all);have e:=aI f0 ( aI f1 ( aI f2 ( aI f3 ( aI f4 ( aI f5 ( aI f6 (f7)))))));clear f0 f1 f2 f3 f4 f5 f6 f7;simp only [↓rA,rU,p,h,j,x,w,e,simprocAttr]
  repeat' (first
   | (refine qf (fun d=>?_) (fun d=>?_) <;> ((try refine qa ?_)))
   | (refine qE (fun d=>?_) (fun d=>?_) <;> ((subst d;try refine qa ?_)))
   | (refine qo _ (ju _ _ q) ?_;try refine qa ?_)
   | (refine qF (yj _ _ q) ?_;rintro v z A ⟨⟨t,rfl⟩,rfl,rfl⟩;try simp only [↓rA,rU,y,h,I,e,simprocAttr])
   | exact xX _ _ _ _ _
   )
 by_cases O:o=⟨#[33,61]⟩
 ·have f0:(o=⟨#[97,110,100]⟩)=False:=eq_false (by omega);have f1:(o=⟨#[111,114]⟩)=False:=eq_false (by omega);have f2:(o=⟨#[61,61]⟩)=False:=eq_false (by omega);have f3:(o=⟨#[33,61]⟩)=True:=eq_true O;have f4:(o=⟨#[60]⟩)=False:=eq_false (by simp_all);have f5:(o=⟨#[60,61]⟩)=False:=eq_false (by simp_all);have f6:(o=⟨#[42]⟩)=False:=eq_false (by simp_all);have f7:(o=⟨#[47]⟩)=False:=eq_false (by simp_all);have e:=aI f0 ( aI f1 ( aI f2 ( aI f3 ( aI f4 ( aI f5 ( aI f6 (f7)))))));clear f0 f1 f2 f3 f4 f5 f6 f7;simp only [↓rA,rU,p,h,j,x,w,e,simprocAttr]
  repeat' (first
   | (refine qf (fun d=>?_) (fun d=>?_) <;> ((try refine qa ?_)))
   | (refine qE (fun d=>?_) (fun d=>?_) <;> ((subst d;try refine qa ?_)))
   | (refine qo _ (ju _ _ q) ?_;try refine qa ?_)
   | (refine qF (yj _ _ q) ?_;rintro v z A ⟨⟨t,rfl⟩,rfl,rfl⟩;try simp only [↓rA,rU,y,h,I,e,simprocAttr])
   | exact xX _ _ _ _ _
   )
 by_cases P:o=⟨#[60]⟩
 ·have f0:(o=⟨#[97,110,100]⟩)=False:=eq_false (by omega);have f1:(o=⟨#[111,114]⟩)=False:=eq_false (by omega);have f2:(o=⟨#[61,61]⟩)=False:=eq_false (by omega);have f3:(o=⟨#[33,61]⟩)=False:=eq_false (by omega);have f4:(o=⟨#[60]⟩)=True:=eq_true P;have f5:(o=⟨#[60,61]⟩)=False:=eq_false (by simp_all);have f6:(o=⟨#[42]⟩)=False:=eq_false (by simp_all);have f7:(o=⟨#[47]⟩)=False:=eq_false (by simp_all);have e:=aI f0 ( aI f1 ( aI f2 ( aI f3 ( aI f4 ( aI f5 ( aI f6 (f7)))))));clear f0 f1 f2 f3 f4 f5 f6 f7;simp only [↓rA,rU,p,h,j,x,w,e,simprocAttr]
  repeat' (first
   | (refine qf (fun d=>?_) (fun d=>?_) <;> ((try refine qa ?_)))
   | (refine qE (fun d=>?_) (fun d=>?_) <;> (first | (subst d;try refine qa ?_) | (try refine qa ?_)))
   | (refine qo _ (ju _ _ q) ?_;try refine qa ?_)
   | (refine qF (yj _ _ q) ?_;rintro v z A ⟨⟨t,rfl⟩,rfl,rfl⟩;try simp only [↓rA,rU,y,h,j,w,e,simprocAttr])
   | exact xX _ _ _ _ _
   )
 by_cases Q:o=⟨#[60,61]⟩
 ·have f0:(o=⟨#[97,110,100]⟩)=False:=eq_false (by omega);have f1:(o=⟨#[111,114]⟩)=False:=eq_false (by omega);have f2:(o=⟨#[61,61]⟩)=False:=eq_false (by omega);have f3:(o=⟨#[33,61]⟩)=False:=eq_false (by omega);have f4:(o=⟨#[60]⟩)=False:=eq_false (by omega);have f5:(o=⟨#[60,61]⟩)=True:=eq_true Q;have f6:(o=⟨#[42]⟩)=False:=eq_false (by simp_all);have f7:(o=⟨#[47]⟩)=False:=eq_false (by simp_all);have e:=aI f0 ( aI f1 ( aI f2 ( aI f3 ( aI f4 ( aI f5 ( aI f6 (f7)))))));clear f0 f1 f2 f3 f4 f5 f6 f7;simp only [↓rA,rU,p,h,j,x,w,e,simprocAttr]
  repeat' (first
   | (refine qf (fun d=>?_) (fun d=>?_) <;> ((try refine qa ?_)))
   | (refine qE (fun d=>?_) (fun d=>?_) <;> (first | (subst d;try refine qa ?_) | (try refine qa ?_)))
   | (refine qo _ (ju _ _ q) ?_;try refine qa ?_)
   | (refine qF (yj _ _ q) ?_;rintro v z A ⟨⟨t,rfl⟩,rfl,rfl⟩;try simp only [↓rA,rU,y,h,j,w,e,simprocAttr])
   | exact xX _ _ _ _ _
   )
 by_cases R:o=⟨#[42]⟩
 ·have f0:(o=⟨#[97,110,100]⟩)=False:=eq_false (by omega);have f1:(o=⟨#[111,114]⟩)=False:=eq_false (by omega);have f2:(o=⟨#[61,61]⟩)=False:=eq_false (by omega);have f3:(o=⟨#[33,61]⟩)=False:=eq_false (by omega);have f4:(o=⟨#[60]⟩)=False:=eq_false (by omega);have f5:(o=⟨#[60,61]⟩)=False:=eq_false (by omega);have f6:(o=⟨#[42]⟩)=True:=eq_true R;have f7:(o=⟨#[47]⟩)=False:=eq_false (by simp_all);have e:=aI f0 ( aI f1 ( aI f2 ( aI f3 ( aI f4 ( aI f5 ( aI f6 (f7)))))));clear f0 f1 f2 f3 f4 f5 f6 f7;simp only [↓rA,rU,p,h,j,x,w,e,simprocAttr]
  repeat' (first
   | (refine qf (fun d=>?_) (fun d=>?_) <;> ((try refine qa ?_)))
   | (refine qF (qeb _ _) ?_;rintro v z A ⟨⟨u,k,hu,rfl⟩,rfl,rfl⟩;try refine qa ?_)
   | exact xX _ _ _ _ _
   | exact wE _ _ _ _ _ _ _ (Le.refl _) (quv (by omega)))
 by_cases T:o=⟨#[47]⟩
 ·have f0:(o=⟨#[97,110,100]⟩)=False:=eq_false (by omega);have f1:(o=⟨#[111,114]⟩)=False:=eq_false (by omega);have f2:(o=⟨#[61,61]⟩)=False:=eq_false (by omega);have f3:(o=⟨#[33,61]⟩)=False:=eq_false (by omega);have f4:(o=⟨#[60]⟩)=False:=eq_false (by omega);have f5:(o=⟨#[60,61]⟩)=False:=eq_false (by omega);have f6:(o=⟨#[42]⟩)=False:=eq_false (by omega);have f7:(o=⟨#[47]⟩)=True:=eq_true T;have e:=aI f0 ( aI f1 ( aI f2 ( aI f3 ( aI f4 ( aI f5 ( aI f6 (f7)))))));clear f0 f1 f2 f3 f4 f5 f6 f7;simp only [↓rA,rU,p,h,j,x,w,e,simprocAttr]
  repeat' (first
   | (refine qf (fun d=>?_) (fun d=>?_) <;> ((try refine qa ?_)))
   | (refine qF (qqk _ _) ?_;rintro v z A ⟨⟨u,k,hu,rfl⟩,rfl,rfl⟩;try refine qa ?_)
   | exact xX _ _ _ _ _
   | exact wE _ _ _ _ _ _ _ (Le.refl _) (quv (by omega)))
 refine qa ?_
 repeat' (first
  | (refine qf (fun d=>?_) (fun d=>?_) <;> ((try refine qa ?_)))
  | (refine qo _ (ju _ _ q) ?_;try refine qa ?_)
  | exact xX _ _ _ _ _
  | exact wE _ _ _ _ _ _ _ (Le.refl _) q
  )
abbrev kP (t:Typ):List V:=[vint t.kind,qN t.unit,vstr t.of]
theorem qrg {h:Hd} {ins:Bool} (d:za h ins=true) (a:(n:Int)=kD h.kind) :
  (h.kind=1/\n=0)∨(h.kind=2/\n=0)∨(h.kind=3/\n=0)∨(h.kind=4/\n=1)∨(h.kind=5/\n=2)∨(h.kind=6/\n=1)∨(h.kind=7/\n=2)∨(h.kind=8/\n=3)∨(h.kind=9/\n=2):=by
 unfold za at d;unfold kD at a;by_cases u:h.kind=1
 ·simp_all
 by_cases w:h.kind=2
 ·simp_all
 by_cases x:h.kind=3
 ·simp_all
 by_cases e:h.kind=4
 ·rw [e] at a;exact .inr (.inr (.inr (.inl ⟨e,by omega⟩)))
 by_cases j:h.kind=5
 ·rw [j] at a;exact .inr (.inr (.inr (.inr (.inl ⟨j,by omega⟩))))
 by_cases k:h.kind=6
 ·rw [k] at a;exact .inr (.inr (.inr (.inr (.inr (.inl ⟨k,by omega⟩)))))
 by_cases o:h.kind=7
 ·rw [o] at a;exact .inr (.inr (.inr (.inr (.inr (.inr (.inl ⟨o,by omega⟩))))))
 by_cases p:h.kind=8
 ·rw [p] at a;exact .inr (.inr (.inr (.inr (.inr (.inr (.inr (.inl ⟨p,by omega⟩)))))))
 rw [if_neg u,if_neg w,if_neg x,if_neg e,if_neg j,if_neg k,if_neg o,if_neg p] at d;have q:h.kind=9:=of_decide_eq_true d;rw [q] at a;exact .inr (.inr (.inr (.inr (.inr (.inr (.inr (.inr ⟨q,by omega⟩)))))))
theorem qce (n:Nat) (c:Cat) (e:Str) (t:Tab) (h:Hd) (l:List E) (ins:Bool) (own:Option Value) (a:List Typ) (S:n<=1000000) (N:zD n c) (Z:vf t) (hu:h.unit.length<=big) (Y:za h ins=true) (R:(a.length:Int)=kD h.kind) (w:∀ x ∈ a,xK x) :
  Qf prog 343 [vSc c e t,.agg (cH h (kI l)),.list own 3 (a.map kP)]:=by
 have X:=qrg Y R;clear R;refine Ok.of_exM [(11,2),(13,2),(21,2),(26,2)] Ty.mixed func343 rfl (by simp) (by rfl) fun F w0 I0=>?_;rcases X with⟨k,u⟩ | ⟨k,u⟩ | ⟨k,u⟩ | ⟨k,u⟩ | ⟨k,u⟩ | ⟨k,u⟩ | ⟨k,u⟩ | ⟨k,u⟩ | ⟨k,u⟩
 ·obtain rfl:a=[]:=qL2 u;refine qb fun A d=>?_;refine qb fun C j=>?_;refine qb fun D o=>?_;have q:=aI d (aI j o);have y:(1:Int) < ((2:Nat):Int)/\(0:Int) < ((2:Nat):Int)/\(1:Int) < ((3:Nat):Int)/\(2:Int) < ((3:Nat):Int)/\IntKind.i64.wrap (((3:Nat):Int) - 1)=2/\IntKind.i64.wrap (((2:Nat):Int) - 1)=1/\IntKind.i64.wrap ((2:Int) - 1)=1/\IntKind.i64.wrap ((1:Int) - 1)=0:=by decide
  refine qa ?_
  repeat' (exact wE _ _ _ _ _ _ _ (Le.refl _) (by omega))
 ·obtain rfl:a=[]:=qL2 u;refine qb fun A d=>?_;refine qb fun C j=>?_;refine qb fun D o=>?_;have q:=aI d (aI j o);have y:(1:Int) < ((2:Nat):Int)/\(0:Int) < ((2:Nat):Int)/\(1:Int) < ((3:Nat):Int)/\(2:Int) < ((3:Nat):Int)/\IntKind.i64.wrap (((3:Nat):Int) - 1)=2/\IntKind.i64.wrap (((2:Nat):Int) - 1)=1/\IntKind.i64.wrap ((2:Int) - 1)=1/\IntKind.i64.wrap ((1:Int) - 1)=0:=by decide
  refine qa ?_
  repeat' (first
   | (refine qF (qlm c e t h.name Z) ?_;rintro v G I ⟨⟨P,J,rfl,O⟩,rfl,rfl⟩;try refine qa ?_)
   | exact wE _ _ _ _ _ _ _ (Le.refl _) (by assumption))
 ·obtain rfl:a=[]:=qL2 u;refine qb fun A d=>?_;refine qb fun C j=>?_;refine qb fun D o=>?_;have q:=aI d (aI j o);have y:(1:Int) < ((2:Nat):Int)/\(0:Int) < ((2:Nat):Int)/\(1:Int) < ((3:Nat):Int)/\(2:Int) < ((3:Nat):Int)/\IntKind.i64.wrap (((3:Nat):Int) - 1)=2/\IntKind.i64.wrap (((2:Nat):Int) - 1)=1/\IntKind.i64.wrap ((2:Int) - 1)=1/\IntKind.i64.wrap ((1:Int) - 1)=0:=by decide
  refine qa ?_
  repeat' (first
   | (refine qF (KE c e t h.name e (km N.lf S) N.ff) ?_;rintro v G I ⟨⟨P,J,rfl,O⟩,rfl,rfl⟩;try refine qa ?_)
   | exact wE _ _ _ _ _ _ _ (Le.refl _) (by assumption))
 ·obtain⟨t0,rfl⟩:∃ t0,a=[t0]:=by
   rcases a with _ | ⟨t0,(_ | ⟨M,L⟩)⟩ <;> first | simp_all | simp
  have z:xK t0:=w _ (by simp);refine qb fun A d=>?_;refine qb fun C j=>?_;refine qb fun D o=>?_;have q:=aI d (aI j o);have y:(1:Int) < ((2:Nat):Int)/\(0:Int) < ((2:Nat):Int)/\(1:Int) < ((3:Nat):Int)/\(2:Int) < ((3:Nat):Int)/\IntKind.i64.wrap (((3:Nat):Int) - 1)=2/\IntKind.i64.wrap (((2:Nat):Int) - 1)=1/\IntKind.i64.wrap ((2:Int) - 1)=1/\IntKind.i64.wrap ((1:Int) - 1)=0:=by decide
  refine qa ?_
  repeat' (first
   | (refine qf (fun H=>?_) (fun H=>?_) <;> ((try refine qa ?_)))
   | (refine jQ (KE c e t h.name t0.of (km N.lf S) N.ff) ?_;rintro v G I ⟨⟨P,J,rfl,O⟩,rfl,rfl⟩;refine⟨rfl,?_⟩;try refine qa ?_)
   | exact xX _ _ _ _ _
   | exact wE _ _ _ _ _ _ _ (Le.refl _) (by assumption))
 ·obtain⟨t0,t1,rfl⟩:∃ t0 t1,a=[t0,t1]:=by
   rcases a with _ | ⟨t0,(_ | ⟨t1,(_ | ⟨M,L⟩)⟩)⟩ <;> first | simp_all | simp
  have z:xK t0:=w _ (by simp);have K:xK t1:=w _ (by simp);have T:Qf prog 374 [.agg [vint h.kind,vstr h.op,vstr h.name,vstr h.table,vint h.val.kind,vint h.val.n,vstr h.val.s,qN h.unit,vint h.param,vint h.wk,vint h.ws,kI l],w8 t0,w8 t1]:=by
   have:=qjr (.mk h l) t0 t1 z;simp only [vE,qY] at this;exact this
  rw [k] at T;refine qb fun A d=>?_;refine qb fun C j=>?_;refine qb fun D o=>?_;have q:=aI d (aI j o);have y:(1:Int) < ((2:Nat):Int)/\(0:Int) < ((2:Nat):Int)/\(1:Int) < ((3:Nat):Int)/\(2:Int) < ((3:Nat):Int)/\IntKind.i64.wrap (((3:Nat):Int) - 1)=2/\IntKind.i64.wrap (((2:Nat):Int) - 1)=1/\IntKind.i64.wrap ((2:Int) - 1)=1/\IntKind.i64.wrap ((1:Int) - 1)=0:=by decide
  refine qa ?_
  repeat' (first
   | (refine jQ (T) ?_;rintro v G I ⟨⟨P,J,rfl,O⟩,rfl,rfl⟩;refine⟨rfl,?_⟩;try refine qa ?_)
   | exact wE _ _ _ _ _ _ _ (Le.refl _) (by assumption))
 ·obtain⟨t0,rfl⟩:∃ t0,a=[t0]:=by
   rcases a with _ | ⟨t0,(_ | ⟨M,L⟩)⟩ <;> first | simp_all | simp
  have z:xK t0:=w _ (by simp);refine qb fun A d=>?_;refine qb fun C j=>?_;refine qb fun D o=>?_;have q:=aI d (aI j o);have y:(1:Int) < ((2:Nat):Int)/\(0:Int) < ((2:Nat):Int)/\(1:Int) < ((3:Nat):Int)/\(2:Int) < ((3:Nat):Int)/\IntKind.i64.wrap (((3:Nat):Int) - 1)=2/\IntKind.i64.wrap (((2:Nat):Int) - 1)=1/\IntKind.i64.wrap ((2:Int) - 1)=1/\IntKind.i64.wrap ((1:Int) - 1)=0:=by decide
  by_cases Q:h.op=⟨#[45]⟩
  ·have f1:(h.op=⟨#[45]⟩)=True:=eq_true Q;have f2:(h.op=⟨#[110,111,116]⟩)=False:=eq_false (by simp_all);refine qi _ (j3 _ _ _) ?_;generalize decide (t0.kind=2∨t0.kind=3)=p;cases p <;> simp only [↓rA,rU,q,k,f1,f2,simprocAttr]
   ·exact xX _ _ _ _ _
   ·exact wE _ _ _ _ _ _ _ (Le.refl _) z
  by_cases U:h.op=⟨#[110,111,116]⟩
  ·have f1:(h.op=⟨#[45]⟩)=False:=eq_false Q;have f2:(h.op=⟨#[110,111,116]⟩)=True:=eq_true U;by_cases W:t0.kind=1 <;> simp only [↓rA,rU,q,k,f1,f2,W,simprocAttr] <;> exact xX _ _ _ _ _
  ·refine qa ?_;exact xX _ _ _ _ _
 ·obtain⟨t0,t1,rfl⟩:∃ t0 t1,a=[t0,t1]:=by
   rcases a with _ | ⟨t0,(_ | ⟨t1,(_ | ⟨M,L⟩)⟩)⟩ <;> first | simp_all | simp
  have z:xK t0:=w _ (by simp);have K:xK t1:=w _ (by simp);refine qb fun A d=>?_;refine qb fun C j=>?_;refine qb fun D o=>?_;have q:=aI d (aI j o);have y:(1:Int) < ((2:Nat):Int)/\(0:Int) < ((2:Nat):Int)/\(1:Int) < ((3:Nat):Int)/\(2:Int) < ((3:Nat):Int)/\IntKind.i64.wrap (((3:Nat):Int) - 1)=2/\IntKind.i64.wrap (((2:Nat):Int) - 1)=1/\IntKind.i64.wrap ((2:Int) - 1)=1/\IntKind.i64.wrap ((1:Int) - 1)=0:=by decide
  refine qa ?_
  repeat' (first
   | (refine jQ (qmg h.op t0 t1 z K) ?_;rintro v G I ⟨⟨P,J,rfl,O⟩,rfl,rfl⟩;refine⟨rfl,?_⟩;try refine qa ?_)
   | exact wE _ _ _ _ _ _ _ (Le.refl _) (by assumption))
 ·obtain⟨t0,t1,t2,rfl⟩:∃ t0 t1 t2,a=[t0,t1,t2]:=by
   rcases a with _ | ⟨t0,(_ | ⟨t1,(_ | ⟨t2,(_ | ⟨M,L⟩)⟩)⟩)⟩ <;> first | simp_all | simp
  have z:xK t0:=w _ (by simp);have K:xK t1:=w _ (by simp);have aa:xK t2:=w _ (by simp);refine qb fun A d=>?_;refine qb fun C j=>?_;refine qb fun D o=>?_;have q:=aI d (aI j o);have y:(1:Int) < ((2:Nat):Int)/\(0:Int) < ((2:Nat):Int)/\(1:Int) < ((3:Nat):Int)/\(2:Int) < ((3:Nat):Int)/\IntKind.i64.wrap (((3:Nat):Int) - 1)=2/\IntKind.i64.wrap (((2:Nat):Int) - 1)=1/\IntKind.i64.wrap ((2:Int) - 1)=1/\IntKind.i64.wrap ((1:Int) - 1)=0:=by decide
  refine qa ?_
  repeat' (first
   | (refine qf (fun H=>?_) (fun H=>?_) <;> ((try simp only [↓rA,rB,yo,Int.reduceLE,Int.reduceToNat,Nat.reduceAdd,Nat.reduceEqDiff,reduceCtorEq,results343,k,y,H,tU,Nat.reduceShiftRight,Nat.reduceMod])))
   | (refine jQ (qde t1 t2 K) ?_;rintro v G I ⟨⟨J,rfl⟩,rfl,rfl⟩;refine⟨rfl,?_⟩;try refine qa ?_)
   | exact xX _ _ _ _ _
   | exact wE _ _ _ _ _ _ _ (Le.refl _) (by assumption))
 ·obtain⟨t0,t1,rfl⟩:∃ t0 t1,a=[t0,t1]:=by
   rcases a with _ | ⟨t0,(_ | ⟨t1,(_ | ⟨M,L⟩)⟩)⟩ <;> first | simp_all | simp
  have z:xK t0:=w _ (by simp);have K:xK t1:=w _ (by simp);refine qb fun A d=>?_;refine qb fun C j=>?_;refine qb fun D o=>?_;have q:=aI d (aI j o);have y:(1:Int) < ((2:Nat):Int)/\(0:Int) < ((2:Nat):Int)/\(1:Int) < ((3:Nat):Int)/\(2:Int) < ((3:Nat):Int)/\IntKind.i64.wrap (((3:Nat):Int) - 1)=2/\IntKind.i64.wrap (((2:Nat):Int) - 1)=1/\IntKind.i64.wrap ((2:Int) - 1)=1/\IntKind.i64.wrap ((1:Int) - 1)=0:=by decide
  simp only [↓rA,rB,Int.reduceEq,Int.reduceLE,Int.reduceToNat,Nat.reduceAdd,Nat.reduceEqDiff,reduceCtorEq,q,k,y,tU,Nat.reduceShiftRight,Nat.reduceMod]
  repeat' (first
   | (refine qf (fun H=>?_) (fun H=>?_) <;> ((try refine qa ?_)))
   | (refine jQ (qde t0 t1 z) ?_;rintro v G I ⟨⟨J,rfl⟩,rfl,rfl⟩;refine⟨rfl,?_⟩;try refine qa ?_)
   | exact xX _ _ _ _ _
   | exact wE _ _ _ _ _ _ _ (Le.refl _) (by assumption))
end Go.Proofs.YtkdgbjhbpbgdeaaGreatDoor
namespace Go.Nv
def Xo {α:Type} (p:α->Bool) (l:List α) (v:V):Prop:=((∀ x ∈ l,p x=false)/\v=vint (-1))∨∃ i,∃ h:i < l.length,p l[i]=true/\(∀ j,∀ a:j < i,p (l[j]'(qPs a h))=false)/\v=vint i
abbrev VZ (g:FuncId) (b:Nat):V:=.lit (.func (.func g) #[] #[.pointer (some ⟨b,0,none⟩)])
abbrev qbl {α:Type} (P:Program) (g:FuncId) (c:α->V) (l:List α) (b:Nat) (z:List V) (p:α->Bool):Prop:=∀ x ∈ l,Ok P g [c x,ptr b] [(b,.c z)] fun v a d=>v=qq (p x)/\a=[(b,.c z)]/\d=[]
theorem Xo.any {α:Type} {p:α->Bool} {l:List α} {v:V} (h:Xo p l v):∃ n:Int,v=vint n/\(decide (0<=n)=l.any p):=by
 rcases h with⟨a,rfl⟩ | ⟨i,d,a,_,rfl⟩
 ·simp_all
 ·exact⟨i,rfl,by rw [eq_comm,decide_eq_true (by omega),qP6];exact⟨_,zs d,a⟩⟩
end Go.Nv
namespace Go.Proofs.YtkdgbjhbpbgdeaaGreatDoor
theorem Wp (l:List Ftr) (g:FuncId) (b:Nat) (z:List V) (p:Ftr->Bool) (C:zg prog g=true) (G:qbl prog g (fun x=>.agg (cFtr x)) l b z p) (D:l.length<=big):Ok prog 174 [qm l,VZ g b] [(b,.c z)] fun v k rs=>Xo p l v/\k=[(b,.c z)]/\rs=[]:=by
 unfold big at D;refine oE func174 fun F K H=>?_;simp only [↓rA,rB,simprocAttr,results174,tU];refine qG Ty.mixed (by rfl) l.length (fun i S=>(∀ x ∈ l.take i,p x=false)/\S.boxes=[(b,.c z)]/\S.rows=[]/\S.σ 0=qm l/\S.σ 1=VZ g b/\S.σ 7=vint l.length/\S.σ 8=vint i) ⟨0,?_⟩ (fun i S a ⟨d,w,A,n,o,q,u⟩=>?_) (fun S ⟨d,w,A,n,o,q,u⟩=>?_)
 ·refine qB ?_;simp
 ·have J:=qj a;have y:=G _ (zs a);simp only [qs] at y;simp only [↓rA,rU,w,n,o,q,u,C,zq,a,qs,simprocAttr];refine qr _ [] (zp _) y ?_;rintro v k rs ⟨rfl,rfl,rfl⟩;cases e:p l[i]
  ·refine qa ?_;refine⟨0,fun x h=>?_,rfl⟩;rw [zt a] at h;rcases z6.1 h with h | h
   ·simp_all
   simp_all
  ·refine qa ?_;exact⟨_,_,[],Le.refl _,zc _,zn _,.inr ⟨i,a,e,fun j I=>d _ (qOu.2 ⟨j,by rw [kB];omega,by simp⟩),rfl⟩,rfl,rfl⟩
 ·refine qn ?_;rw [xa (w3 _)] at d;exact⟨_,_,[],Le.refl _,zc _,zn _,.inl ⟨d,rfl⟩,rfl,rfl⟩
abbrev qnd (l:List Fld):V:=.list none 4 (l.map KK)
theorem qSe:(∀ (l:List Tab) (g:FuncId) (b:Nat) (z:List V) (p:Tab->Bool) (D:zg prog g=true) (C:qbl prog g (fun x=>.agg (cTab x)) l b z p) (A:l.length<=big),Ok prog 322 [qR l,VZ g b] [(b,.c z)] fun v h rs=>Xo p l v/\h=[(b,.c z)]/\rs=[])/\∀ (l:List Fld) (g:FuncId) (b:Nat) (z:List V) (p:Fld->Bool) (D:zg prog g=true) (C:qbl prog g (fun x=>.agg (KK x)) l b z p) (A:l.length<=big),Ok prog 33 [qnd l,VZ g b] [(b,.c z)] fun v h rs=>Xo p l v/\h=[(b,.c z)]/\rs=[]:=by
 constructor
 all_goals
  intro l g b z p D C A;unfold big at A
  first | refine oE func322 fun F I G=>?_ | refine oE func33 fun F I G=>?_
  first | simp only [↓rA,rB,simprocAttr,results322,tU] | simp only [↓rA,rB,simprocAttr,results33,tU]
  first | refine qG Ty.mixed (by rfl) l.length (fun i S=>(∀ x ∈ l.take i,p x=false)/\S.boxes=[(b,.c z)]/\S.rows=[]/\S.σ 0=qR l/\S.σ 1=VZ g b/\S.σ 7=vint l.length/\S.σ 8=vint i) ⟨0,?_⟩ (fun i S d ⟨a,w,y,n,o,q,u⟩=>?_) (fun S ⟨a,w,y,n,o,q,u⟩=>?_) | refine qG Ty.mixed (by rfl) l.length (fun i S=>(∀ x ∈ l.take i,p x=false)/\S.boxes=[(b,.c z)]/\S.rows=[]/\S.σ 0=qnd l/\S.σ 1=VZ g b/\S.σ 7=vint l.length/\S.σ 8=vint i) ⟨0,?_⟩ (fun i S d ⟨a,w,y,n,o,q,u⟩=>?_) (fun S ⟨a,w,y,n,o,q,u⟩=>?_)
  ·refine qB ?_;simp
  ·have K:=qj d;have H:=C _ (zs d);refine qn ?_;refine qr _ [] (zp _) H ?_;rintro v h rs ⟨rfl,rfl,rfl⟩;cases e:p l[i]
   ·refine qa ?_;refine⟨0,fun x k=>?_,rfl⟩;rw [zt d] at k;rcases z6.1 k with k | k
    ·simp_all
    simp_all
   ·refine qa ?_;exact⟨_,_,[],Le.refl _,zc _,zn _,.inr ⟨i,d,e,fun j J=>a _ (qOu.2 ⟨j,by rw [kB];omega,by simp⟩),rfl⟩,rfl,rfl⟩
  ·refine qn ?_;rw [xa (w3 _)] at a;exact⟨_,_,[],Le.refl _,zc _,zn _,.inl ⟨a,rfl⟩,rfl,rfl⟩
def qrs:=qSe.1
def Wq:=qSe.2
theorem qs4 (l:List Fld) (g:FuncId) (b:Nat) (z:List V) (p:Fld->Bool) (d:zg prog g=true) (j:qbl prog g (fun x=>.agg (KK x)) l b z p) (e:l.length<=big):Ok prog 208 [qnd l,VZ g b] [(b,.c z)] fun v a rs=>v=qq (l.any p)/\a=[(b,.c z)]/\rs=[]:=by
 refine oE func208 fun F q k=>?_;refine qa ?_;refine qr [_] [] (zp _) (Wq l g b z p d j e) ?_;rintro v a rs ⟨h,rfl,rfl⟩;obtain⟨n,rfl,o⟩:=h.any;refine qa ?_;exact⟨_,[_],[],Le.refl _,zc _,zn _,by simp_all,rfl,rfl⟩
abbrev yF (c:Cat) (e:Str) (f:V):List V:=qT c++[vstr e,f]
abbrev XS (P:Program) (f:FuncId) (h:List V) (a:Bx):Prop:=Ok P f h a fun v d e=>(∃ (t:Typ) (n:Int),v=.tup [w8 t,vint n]/\xK t)/\d=a/\e=[]
theorem XS.of {P:Program} {f:FuncId} {d:List V} (h:Qf P f d) (a:Bx):XS P f d a:=by
 refine Ok.permR (Ok.permL (Ok.frame a h) (qKy (wl _).symm)) ?_;simp_all
theorem w7 (t:Typ) (n:Int) (e:xK t) (X:Bx) (Y:List VL.Row):∃ v a d,Le (.tup [w8 t,vint n]) v/\a.Sublist X/\d.Sublist Y/\(∃ (t:Typ) (n:Int),v=.tup [w8 t,vint n]/\xK t)/\a=[]/\d=[] :=
 ⟨_,[],[],Le.refl _,zn _,zn _,⟨t,n,rfl,e⟩,rfl,rfl⟩
theorem kH:xK typ0:=by simp [xK]
abbrev jP (h:Hd) (l:List E):List V:=Go.Lo.cH h (kI l)
theorem qqy (x:Ftr) (s:Str) (b:Nat):Ok prog 393 [.agg (cFtr x),ptr b] [(b,.c [vstr s])] fun v a rs=>v=qq (decide (x.name=s))/\a=[(b,.c [vstr s])]/\rs=[]:=by
 simp only [qs];refine oE func393 fun F j d=>?_;refine qb fun e h=>?_;refine qa ?_;exact⟨_,[_],[],Le.refl _,List.Sublist.cons _ (zc _),zn _,rfl,rfl,rfl⟩
section
variable (c:Cat) (e:Str) (f:V) (hf:yx [f]=true)
include hf
theorem qCq (h:Hd) (l:List E) (k:V) (hu:h.unit.length<=big):Qf prog 351 [.agg (yF c e f),.agg (jP h l),k]:=by
 refine oE func351 fun F w n=>?_;refine qb fun o a=>?_;refine qb fun p d=>?_;refine qb fun q j=>?_;have u:=aI a (aI d (aI j hf));refine qa ?_;exact w7 ⟨h.val.kind,h.unit,h.name⟩ 0 hu _ _
theorem qfm (s h:Str) (G:c.features.length<=1000000) (w:∀ x ∈ c.features,QK x):Qf prog 379 [.agg (yF c e f),vstr s,vstr h]:=by
 have y:zg prog 393=true:=by kernel_rfl
 refine oE func379 fun F I z=>?_;refine qb fun A p=>?_;refine qb fun d q=>?_;refine qb fun C u=>?_;have o:=aI p (aI q (aI u hf));refine qa ?_;refine qr [_] [_,_] (List.Perm.swap _ _ _) (Wp c.features _ d [vstr s] (fun x=>decide (x.name=s)) y (fun x _=>qqy x s d) (by unfold big;omega)) ?_;rintro v D H ⟨⟨_,rfl⟩ | ⟨i,a,_,_,rfl⟩,rfl,rfl⟩
 ·refine qi _ (kr 4) ?_;refine qa ?_;exact w7 typ0 4 kH _ _
 ·have j:(0:Int)<=(i:Int):=by omega
  have k:¬ (i:Int) < 0:=by omega
  by_cases n:c.features[i].entity=h
  ·simp only [↓rA,rU,o,j,k,zq,a,qs,n,simprocAttr];exact w7 c.features[i].typ 0 (w _ (zs a)).1 _ _
  ·simp only [↓rA,rU,o,j,k,zq,a,qs,n,simprocAttr];refine qo _ (kr 5) ?_;refine qa ?_;exact w7 typ0 5 kH _ _
theorem qDo (h:Hd) (l:List E) (u:V) (o:c.features.length<=1000000) (k:∀ x ∈ c.features,QK x):Qf prog 353 [.agg (yF c e f),.agg (jP h l),u]:=by
 have p:=qfm c e f hf h.name e o k;refine oE func353 fun F H w=>?_;refine qb fun y a=>?_;refine qb fun z d=>?_;refine qb fun A j=>?_;have D:=aI a (aI d (aI j hf));refine qW p ?_;rintro v C G ⟨⟨t,n,rfl,q⟩,rfl,rfl⟩;refine qa ?_;exact w7 t n q _ _
theorem qw1 (h:Hd) (l:List E) (o:Option Value) (a:Typ) (u:c.features.length<=1000000) (q:∀ x ∈ c.features,QK x):Qf prog 354 [.agg (yF c e f),.agg (jP h l),.list o 3 [kP a]]:=by
 have w:=qfm c e f hf h.name a.of u q;refine Ok.of_exM [(3,4)] Ty.mixed func354 rfl (by simp) (by rfl) fun F J z=>?_;refine qb fun A d=>?_;refine qb fun C j=>?_;refine qb fun D p=>?_;have H:=aI d (aI j (aI p hf));by_cases k:a.kind=5
 ·refine qW w ?_;rintro v G I ⟨⟨t,n,rfl,y⟩,rfl,rfl⟩;refine qa ?_;exact w7 t n y _ _
 ·refine qi _ (kr 5) ?_;refine qa ?_;exact w7 typ0 5 kH _ _
theorem qFb (h:Hd) (l:List E) (o:Option Value) (a b d:Typ) (hb:xK b):Qf prog 358 [.agg (yF c e f),.agg (jP h l),.list o 3 [kP a,kP b,kP d]]:=by
 have u:=qb1 b d hb;have q:xK (ul b d).1:=by unfold ul;split;split;exact hb;exact kH;exact kH
 refine oE func358 fun F C w=>?_;refine qb fun x j=>?_;refine qb fun y n=>?_;refine qb fun z p=>?_;have A:=aI j (aI n (aI p hf));by_cases k:a.kind=1
 ·refine qa ?_;refine qt _ u.v ?_;refine qa ?_;exact w7 _ _ q _ _
 ·refine qi _ (kr 5) ?_;refine qa ?_;exact w7 typ0 5 kH _ _
theorem qDz (h:Hd) (l:List E) (o:Option Value) (a b:Typ) (d:xK a):Qf prog 359 [.agg (yF c e f),.agg (jP h l),.list o 3 [kP a,kP b]]:=by
 have q:=qb1 a b d;have p:xK (ul a b).1:=by unfold ul;split;split;exact d;exact kH;exact kH
 refine oE func359 fun F A u=>?_;refine qb fun w j=>?_;refine qb fun x k=>?_;refine qb fun y n=>?_;have z:=aI j (aI k (aI n hf));refine qa ?_;refine qt _ q.v ?_;refine qa ?_;exact w7 _ _ p _ _
theorem qHy (h:Hd) (l:List E) (o:Option Value) (a:Typ) (p:xK a):Qf prog 356 [.agg (yF c e f),.agg (jP h l),.list o 3 [kP a]]:=by
 refine oE func356 fun F z q=>?_;refine qb fun u j=>?_;refine qb fun w k=>?_;refine qb fun x n=>?_;have y:=aI j (aI k (aI n hf));refine qa ?_
 repeat' (first
  | (refine qf (fun d=>?_) (fun d=>?_) <;> ((try refine qa ?_)))
  | (refine qE (fun d=>?_) (fun d=>?_) <;> ((try refine qa ?_)))
  | (refine qo _ (yz a.kind a.unit a.of) ?_;try simp only [↓rA,rU,simprocAttr])
  | (refine qo _ (kr 5) ?_;try refine qa ?_)
  | exact w7 a 0 p _ _
  | exact w7 typ0 5 kH _ _
  | exact wE _ _ [] _ _ _ _ (Le.nil 2) (by simp))
theorem qFo (h:Hd) (l:List E) (o:Option Value) (a b:Typ) (j:xK a):Qf prog 355 [.agg (yF c e f),.agg (jP h l),.list o 3 [kP a,kP b]]:=by
 refine oE func355 fun F D x=>?_;refine qb fun y p=>?_;refine qb fun z q=>?_;refine qb fun A u=>?_;have n:=aI p (aI q (aI u hf));by_cases k:b.kind=1
 case neg =>
  refine qi _ (kr 5) ?_;refine qa ?_;exact w7 typ0 5 kH _ _
 refine qb fun C w=>?_;have n:=aI n w;refine qa ?_
 repeat' (first
  | (refine qf (fun d=>?_) (fun d=>?_) <;> ((try refine qa ?_)))
  | (refine zm (fun d=>?_) (fun d=>?_) <;> ((try refine qa ?_)))
  | (refine qo _ (yz a.kind a.unit a.of) ?_;try refine qa ?_)
  | (refine qo _ (kr 5) ?_;try refine qa ?_)
  | exact w7 a 0 j _ _
  | exact w7 ⟨3,a.unit,qH⟩ 0 j _ _
  | exact w7 typ0 5 kH _ _
  | exact wE _ _ [] _ _ _ _ (Le.nil 2) (by simp))
end
def qHt (a ls:Bool) (v:V) (t:Typ) (X base:Bx):Prop:=(a=false/\ls=false/\X=[])∨∃ b,a=true/\Nb b base/\v=ptr b/\((ls=false/\X=[(b,.c [vint 0,nilS,vstr qH])])∨(ls=true/\X=[(b,.c (kP t))]))
def qN4 (X Y:Bx):Prop:=∀ p ∈ X,∀ q ∈ Y,p.1 ≠ q.1/\q.1 ≠ p.1
def InB (base:Bx) (d e h:Nat) (o:Option Value) (a b:Typ) (L:Nat->Bool) (S:St):Prop :=
 S.σ 2=.list o 3 [kP a,kP b]/\S.σ 3=ptr d/\S.σ 4=ptr e/\S.σ 6=ptr h/\S.rows=[] /\
 (L 0=true->S.σ 16=.list o 3 [kP a,kP b])/\(L 1=true->S.σ 17=.ref (kP a))/\(L 2=true->S.σ 18=w8 a)/\(L 3=true->S.σ 19=.list o 3 [kP a,kP b])/\(L 4=true->S.σ 20=.ref (kP b))/\(L 5=true->S.σ 21=w8 b) /\
 ∃ X Y,qHt (L 6) (L 8) (S.σ 8) a X base/\qHt (L 7) (L 9) (S.σ 9) b Y base/\qN4 X Y/\S.boxes=X++(Y++base)
theorem qIr {b:Nat}:∀ {X:Bx},Nb b X->∀ p ∈ X,b ≠ p.1/\p.1 ≠ b
 | x::X,hn,p,a=>by
  simp only [Nb] at hn;rcases xb.1 a with rfl | a
  ·exact⟨hn.1.2,hn.1.1⟩
  ·exact qIr hn.2 p a
theorem qdx {b:Nat}:∀ {X Y:Bx},Nb b (X++Y)->Nb b X/\Nb b Y
 | [],Y,h=>⟨trivial,h⟩
 | x::X,Y,h=>by
  simp only [List.cons_append,Nb] at h;have:=qdx h.2;exact⟨by simp only [Nb];exact⟨h.1,this.1⟩,this.2⟩
theorem opN (o:Str):∃ n:Nat,n<=10/\((o=(⟨#[97,110,100]⟩:Str))=(n=0))/\((o=(⟨#[111,114]⟩:Str))=(n=1))/\((o=(⟨#[61,61]⟩:Str))=(n=2))/\((o=(⟨#[33,61]⟩:Str))=(n=3))/\((o=(⟨#[60]⟩:Str))=(n=4))/\((o=(⟨#[60,61]⟩:Str))=(n=5))/\((o=(⟨#[42]⟩:Str))=(n=6))/\((o=(⟨#[47]⟩:Str))=(n=7))/\((o=(⟨#[43]⟩:Str))=(n=8))/\((o=(⟨#[45]⟩:Str))=(n=9)):=by
 by_cases a:o=(⟨#[97,110,100]⟩:Str)
 ·subst a;exact⟨0,by decide,propext (iff_of_true rfl rfl),pF,pF,pF,pF,pF,pF,pF,pF,pF⟩
 by_cases d:o=(⟨#[111,114]⟩:Str)
 ·subst d;exact⟨1,by decide,pF,propext (iff_of_true rfl rfl),pF,pF,pF,pF,pF,pF,pF,pF⟩
 by_cases e:o=(⟨#[61,61]⟩:Str)
 ·subst e;exact⟨2,by decide,pF,pF,propext (iff_of_true rfl rfl),pF,pF,pF,pF,pF,pF,pF⟩
 by_cases h:o=(⟨#[33,61]⟩:Str)
 ·subst h;exact⟨3,by decide,pF,pF,pF,propext (iff_of_true rfl rfl),pF,pF,pF,pF,pF,pF⟩
 by_cases j:o=(⟨#[60]⟩:Str)
 ·subst j;exact⟨4,by decide,pF,pF,pF,pF,propext (iff_of_true rfl rfl),pF,pF,pF,pF,pF⟩
 by_cases k:o=(⟨#[60,61]⟩:Str)
 ·subst k;exact⟨5,by decide,pF,pF,pF,pF,pF,propext (iff_of_true rfl rfl),pF,pF,pF,pF⟩
 by_cases p:o=(⟨#[42]⟩:Str)
 ·subst p;exact⟨6,by decide,pF,pF,pF,pF,pF,pF,propext (iff_of_true rfl rfl),pF,pF,pF⟩
 by_cases q:o=(⟨#[47]⟩:Str)
 ·subst q;exact⟨7,by decide,pF,pF,pF,pF,pF,pF,pF,propext (iff_of_true rfl rfl),pF,pF⟩
 by_cases u:o=(⟨#[43]⟩:Str)
 ·subst u;exact⟨8,by decide,pF,pF,pF,pF,pF,pF,pF,pF,propext (iff_of_true rfl rfl),pF⟩
 by_cases w:o=(⟨#[45]⟩:Str)
 ·subst w;exact⟨9,by decide,pF,pF,pF,pF,pF,pF,pF,pF,pF,propext (iff_of_true rfl rfl)⟩
 exact⟨10,by decide,propext (iff_of_false a (by decide)),propext (iff_of_false d (by decide)),propext (iff_of_false e (by decide)),propext (iff_of_false h (by decide)),propext (iff_of_false j (by decide)),propext (iff_of_false k (by decide)),propext (iff_of_false p (by decide)),propext (iff_of_false q (by decide)),propext (iff_of_false u (by decide)),propext (iff_of_false w (by decide))⟩
theorem qFl (c:Cat) (e:Str) (f:V) (hf:yx [f]=true) (h:Hd) (l:List E) (o:Option Value) (a b:Typ) (ha:xK a) (hb:xK b):Qf prog 357 [.agg (yF c e f),.agg (jP h l),.list o 3 [kP a,kP b]]:=by
 have A:=yz a.kind a.unit a.of;have hB:=yz b.kind b.unit b.of;generalize decide (a.kind=2∨a.kind=3)=na at A;generalize decide (b.kind=2∨b.kind=3)=nb at hB;have ag:=XZ a.unit b.unit ha;generalize ao:decide (a.unit=b.unit)=se at ag;refine Ok.of_exM [(1,3)] Ty.mixed func357 rfl (by simp [ntmps357]) (by kernel_rfl) fun F w0 I0=>?_;refine qb fun Q H=>?_;refine qb fun P j=>?_;refine qb fun N h6=>?_;have hh:=aI H (aI j (aI h6 hf));refine qa ?_;have an:N ≠ P/\N ≠ Q:=⟨h6.1.2,h6.2.1.2⟩;refine yp Ty.mixed (by kernel_rfl) (by kernel_rfl) (InB [(N,.c [vint 0,nilS,vstr qH]),(P,.c (jP h l)),(Q,.c (yF c e f))] Q P N o a b) ?_ ?_ ?_
 ·exact⟨by exact qA,by exact qA,by exact qA,by exact qA,by exact qA,nofun,nofun,nofun,nofun,nofun,nofun,[],[],.inl ⟨rfl,rfl,rfl⟩,.inl ⟨rfl,rfl,rfl⟩,fun p K=>(by cases K),by exact qA⟩
 ·intro L S i o1 w R he ⟨G,M,C,D,z,f0,f1,f2,f3,f4,f5,X,Y,I,J,A,x⟩
  match i,w with
  | 0,w =>
   cases w;refine qa ?_;refine lP ⟨G,M,C,D,z,fun _=>rfl,f1,f2,f3,f4,f5,X,Y,I,J,A,x⟩
  | 1,w =>
   cases w;have l0:=dt he 0;have d0:=f0 l0;refine qa ?_;refine lP ⟨G,M,C,D,z,f0,fun _=>rfl,f2,f3,f4,f5,X,Y,I,J,A,x⟩
  | 2,w =>
   cases w;have l1:=dt he 1;have d1:=f1 l1;refine qa ?_;refine lP ⟨G,M,C,D,z,f0,f1,fun _=>rfl,f3,f4,f5,X,Y,I,J,A,x⟩
  | 3,w =>
   cases w;refine qa ?_;refine lP ⟨G,M,C,D,z,f0,f1,f2,fun _=>rfl,f4,f5,X,Y,I,J,A,x⟩
  | 4,w =>
   cases w;have l3:=dt he 3;have d3:=f3 l3;refine qa ?_;refine lP ⟨G,M,C,D,z,f0,f1,f2,f3,fun _=>rfl,f5,X,Y,I,J,A,x⟩
  | 5,w =>
   cases w;have l4:=dt he 4;have d4:=f4 l4;refine qa ?_;refine lP ⟨G,M,C,D,z,f0,f1,f2,f3,f4,fun _=>rfl,X,Y,I,J,A,x⟩
  | 6,w =>
   cases w;have ae:L 8=false/\X=[]:=by
    rcases I with⟨_,O,H⟩ | ⟨_,y,_⟩
    ·exact⟨O,H⟩
    ·rw [R] at y;cases y
   obtain⟨l8,rfl⟩:=ae;rw [qKv] at x;refine qa ?_;refine fun U aa=>?_;replace aa:=zS aa;have ab:=qdx aa;refine lP ⟨G,M,C,D,z,f0,f1,f2,f3,f4,f5,[(U,.c [vint 0,nilS,vstr qH])],Y,.inr ⟨U,rfl,ab.2,rfl,.inl ⟨l8,rfl⟩⟩,J,fun p K q T=>?_,?_⟩
   ·rw [kl.1 K];exact qIr ab.1 q T
   ·show (U,_)::S.boxes=_;rw [x];rfl
  | 7,w =>
   cases w;have af:L 9=false/\Y=[]:=by
    rcases J with⟨_,O,H⟩ | ⟨_,y,_⟩
    ·exact⟨O,H⟩
    ·rw [R] at y;cases y
   obtain⟨l9,rfl⟩:=af;rw [qKv] at x;refine qa ?_;refine fun U aa=>?_;replace aa:=zS aa;have ab:=qdx aa;refine⟨_,_,X++([(U,.c [vint 0,nilS,vstr qH])]++_),_,zc _,zc _,(show ((U,_)::S.boxes).Perm _ by rw [x];exact ux.symm),zp _,G,M,C,D,z,f0,f1,f2,f3,f4,f5,X,[(U,.c [vint 0,nilS,vstr qH])],I,.inr ⟨U,rfl,ab.2,rfl,.inl ⟨l9,rfl⟩⟩,fun p K q T=>?_,?_⟩
   ·rw [kl.1 T];exact(qIr ab.1 p K).symm
   ·rfl
  | 8,w =>
   cases w;have l6:=dt he 6;have l2:=dt he 2;have d2:=f2 l2;have ae:∃ d,Nb d [(N,B.c [vint 0,nilS,vstr qH]),(P,.c (jP h l)),(Q,.c (yF c e f))]/\S.σ 8=ptr d/\X=[(d,.c [vint 0,nilS,vstr qH])]:=by
    rcases I with⟨y,_⟩ | ⟨d,_,O,H,⟨_,j⟩ | ⟨j,_⟩⟩
    ·rw [l6] at y;cases y
    ·exact⟨d,O,H,j⟩
    ·rw [R] at j;cases j
   obtain⟨d,ac,s8,rfl⟩:=ae;rw [qMr,qKv] at x;refine qa ?_;refine lP ⟨G,M,C,D,z,f0,f1,f2,f3,f4,f5,[(d,.c (kP a))],Y,.inr ⟨d,l6,ac,s8,.inr ⟨rfl,rfl⟩⟩,J,fun p K q T=>?_,?_⟩
   ·rw [kl.1 K];exact A (d,.c [vint 0,nilS,vstr qH]) (kl.2 rfl) q T
   ·rfl
  | 9,w =>
   cases w;have l7:=dt he 7;have l5:=dt he 5;have d5:=f5 l5;have af:∃ d,Nb d [(N,B.c [vint 0,nilS,vstr qH]),(P,.c (jP h l)),(Q,.c (yF c e f))]/\S.σ 9=ptr d/\Y=[(d,.c [vint 0,nilS,vstr qH])]:=by
    rcases J with⟨y,_⟩ | ⟨d,_,O,H,⟨_,j⟩ | ⟨j,_⟩⟩
    ·rw [l7] at y;cases y
    ·exact⟨d,O,H,j⟩
    ·rw [R] at j;cases j
   obtain⟨d,ac,s9,rfl⟩:=af;rw [qMr,qKv] at x;have fin:S.boxes=X++((d,.c [vint 0,nilS,vstr qH])::[(N,B.c [vint 0,nilS,vstr qH]),(P,.c (jP h l)),(Q,.c (yF c e f))]):=x;rcases I with⟨q1,q2,rfl⟩ | ⟨W,q1,q2,q3,⟨q4,rfl⟩ | ⟨q4,rfl⟩⟩
   ·rw [qKv] at x;refine qa ?_;exact lP ⟨G,M,C,D,z,f0,f1,f2,f3,f4,f5,[],[(d,.c (kP b))],.inl ⟨q1,q2,rfl⟩,.inr ⟨d,l7,ac,s9,.inr ⟨rfl,rfl⟩⟩,fun p K=>(by cases K),rfl⟩
   ·rw [qMr,qKv] at x;have ad:W ≠ d/\d ≠ W:=A _ (kl.2 rfl) (d,.c [vint 0,nilS,vstr qH]) (kl.2 rfl);refine qa ?_;exact lP ⟨G,M,C,D,z,f0,f1,f2,f3,f4,f5,[(W,.c [vint 0,nilS,vstr qH])],[(d,.c (kP b))],.inr ⟨W,q1,q2,q3,.inl ⟨q4,rfl⟩⟩,.inr ⟨d,l7,ac,s9,.inr ⟨rfl,rfl⟩⟩,fun p K q T=>(by rw [kl.1 K,kl.1 T];exact ad),rfl⟩
   ·rw [qMr,qKv] at x;have ad:W ≠ d/\d ≠ W:=A _ (kl.2 rfl) (d,.c [vint 0,nilS,vstr qH]) (kl.2 rfl);refine qa ?_;exact lP ⟨G,M,C,D,z,f0,f1,f2,f3,f4,f5,[(W,.c (kP a))],[(d,.c (kP b))],.inr ⟨W,q1,q2,q3,.inr ⟨q4,rfl⟩⟩,.inr ⟨d,l7,ac,s9,.inr ⟨rfl,rfl⟩⟩,fun p K q T=>(by rw [kl.1 K,kl.1 T];exact ad),rfl⟩
 ·intro L S R ⟨G,M,C,D,z,f0,f1,f2,f3,f4,f5,X,Y,I,J,A,x⟩;obtain⟨b8,n8,s8,rfl⟩:∃ d,Nb d [(N,B.c [vint 0,nilS,vstr qH]),(P,.c (jP h l)),(Q,.c (yF c e f))]/\S.σ 8=ptr d/\X=[(d,.c (kP a))]:=by
   rcases I with⟨y,_⟩ | ⟨d,_,O,H,⟨j,_⟩ | ⟨_,j⟩⟩
   ·rw [R 6 (by simp)] at y;cases y
   ·rw [R 8 (by simp)] at j;cases j
   ·exact⟨d,O,H,j⟩
  obtain⟨b9,n9,s9,rfl⟩:∃ d,Nb d [(N,B.c [vint 0,nilS,vstr qH]),(P,.c (jP h l)),(Q,.c (yF c e f))]/\S.σ 9=ptr d/\Y=[(d,.c (kP b))]:=by
   rcases J with⟨y,_⟩ | ⟨d,_,O,H,⟨j,_⟩ | ⟨_,j⟩⟩
   ·rw [R 7 (by simp)] at y;cases y
   ·rw [R 9 (by simp)] at j;cases j
   ·exact⟨d,O,H,j⟩
  have ad:b8 ≠ b9/\b9 ≠ b8:=A (b8,.c (kP a)) (kl.2 rfl) (b9,.c (kP b)) (kl.2 rfl);simp only [List.cons_append,List.nil_append] at x;simp only [Nb] at n8 n9;have hh:=aI hh (aI ad (aI n8 n9));clear I J A f0 f1 f2 f3 f4 f5 G;rw [zu];refine xe (fun S=>∃ nn:Bool,S.boxes=[(b8,.c (kP a)),(b9,.c (kP b)),(N,.c [vint 0,nilS,vstr qH]),(P,.c (jP h l)),(Q,.c (yF c e f))]/\S.rows=[]/\S.σ 4=ptr P/\S.σ 6=ptr N/\S.σ 8=ptr b8/\S.σ 9=ptr b9/\S.σ 10=qq nn) ?_ ?_
  ·refine qi _ A ?_;cases na
   ·refine qa ?_;exact⟨_,rfl⟩
   ·refine qi _ hB ?_;refine qa ?_;exact⟨_,rfl⟩
  rintro S ⟨nn,x,z,C,D,s8,s9,ak⟩;refine qi _ ag ?_;refine qb fun al ah=>?_;have hh:=aI hh ah;refine qb fun am ai=>?_;have hh:=aI hh ai;obtain⟨n,hn,e0,e1,e2,e3,e4,e5,e6,e7,e8,e9⟩:=opN h.op;have ee:=aI e0 (aI e1 (aI e2 (aI e3 (aI e4 (aI e5 (aI e6 (aI e7 (aI e8 e9))))))));clear e0 e1 e2 e3 e4 e5 e6 e7 e8 e9;have aj:n=0∨n=1∨n=2∨n=3∨n=4∨n=5∨n=6∨n=7∨n=8∨n=9∨n=10:=by omega
  clear hn;rcases aj with rfl | rfl | rfl | rfl | rfl | rfl | rfl | rfl | rfl | rfl | rfl
  all_goals
   try refine qa ?_
   repeat' (first
    | (refine qf (fun Z=>?_) (fun Z=>?_) <;> (first | (subst Z;try refine qa ?_) | (try refine qa ?_)))
    | (refine qE (fun Z=>?_) (fun Z=>?_) <;> (first | (subst Z;try refine qa ?_) | (try refine qa ?_)))
    | (refine zm (fun Z=>?_) (fun Z=>?_) <;> (first | (subst Z;try simp only [↓rA,rB,yo,qGs,simprocAttr,results357,hh,z,C,D,s8,s9,ak,ee,Bool.decide_eq_true,tU]) | (try refine qa ?_)))
    | (refine qo _ (kr 5) ?_;try refine qa ?_)
    | (refine qo _ (kr 70) ?_;try refine qa ?_)
    | (refine qF (qo8 a.unit b.unit) ?_;rintro v bs rs ⟨⟨u,k,rfl,hu⟩,rfl,rfl⟩;try refine qa ?_)
    | (refine qF (quy a.unit b.unit) ?_;rintro v bs rs ⟨⟨u,k,rfl,hu⟩,rfl,rfl⟩;try refine qa ?_)
    | exact wE _ _ [] _ _ _ _ (Le.nil 2) (by simp)
    | exact wE _ _ a.unit _ _ _ _ (Le.refl _) ha
    | exact wE _ _ _ _ _ _ _ (Le.refl _) (by unfold big;omega)
    | exact w7 typ0 5 kH _ _
    | exact w7 typ0 70 kH _ _)
abbrev fS (c:Cat) (e:Str) (f:V):List V:=[.agg [qR c.tables,qm c.features,qm c.drafts,qm c.past,vstr e,f]]
abbrev qvp (c:Cat) (e:Str) (f:V):List Ent:=[(0,Value.int .i64 1,V.fn 351 (fS c e f)),(1,Value.int .i64 2,V.fn 352 (fS c e f)),(2,Value.int .i64 3,V.fn 353 (fS c e f)),(3,Value.int .i64 4,V.fn 354 (fS c e f)),(4,Value.int .i64 5,V.fn 355 (fS c e f)),(5,Value.int .i64 6,V.fn 356 (fS c e f)),(6,Value.int .i64 7,V.fn 357 (fS c e f)),(7,Value.int .i64 8,V.fn 358 (fS c e f)),(8,Value.int .i64 9,V.fn 359 (fS c e f))]
theorem qB2 (c:Cat) (e:Str) (f:V) (h:yx [f]=true) (k:Int) (g:FuncId) (q:findM (qvp c e f) (.int .i64 k)=some (V.fn g (fS c e f))):zk prog 326 [.agg (yF c e f),vint k] (.fn g [.agg (yF c e f)]):=by
 refine oE func326 fun F u j=>?_;refine qb fun n a=>?_;refine qb fun o d=>?_;have p:=aI a (aI d h);have f0:findM [] (.int .i64 1)=none:=rfl;have f1:findM [(0,Value.int .i64 1,V.fn 351 (fS c e f))] (.int .i64 2)=none:=rfl;have f2:findM [(0,Value.int .i64 1,V.fn 351 (fS c e f)),(1,Value.int .i64 2,V.fn 352 (fS c e f))] (.int .i64 3)=none:=rfl;have f3:findM [(0,Value.int .i64 1,V.fn 351 (fS c e f)),(1,Value.int .i64 2,V.fn 352 (fS c e f)),(2,Value.int .i64 3,V.fn 353 (fS c e f))] (.int .i64 4)=none:=rfl;have f4:findM [(0,Value.int .i64 1,V.fn 351 (fS c e f)),(1,Value.int .i64 2,V.fn 352 (fS c e f)),(2,Value.int .i64 3,V.fn 353 (fS c e f)),(3,Value.int .i64 4,V.fn 354 (fS c e f))] (.int .i64 5)=none:=rfl;have f5:findM [(0,Value.int .i64 1,V.fn 351 (fS c e f)),(1,Value.int .i64 2,V.fn 352 (fS c e f)),(2,Value.int .i64 3,V.fn 353 (fS c e f)),(3,Value.int .i64 4,V.fn 354 (fS c e f)),(4,Value.int .i64 5,V.fn 355 (fS c e f))] (.int .i64 6)=none:=rfl;have f6:findM [(0,Value.int .i64 1,V.fn 351 (fS c e f)),(1,Value.int .i64 2,V.fn 352 (fS c e f)),(2,Value.int .i64 3,V.fn 353 (fS c e f)),(3,Value.int .i64 4,V.fn 354 (fS c e f)),(4,Value.int .i64 5,V.fn 355 (fS c e f)),(5,Value.int .i64 6,V.fn 356 (fS c e f))] (.int .i64 7)=none:=rfl;have f7:findM [(0,Value.int .i64 1,V.fn 351 (fS c e f)),(1,Value.int .i64 2,V.fn 352 (fS c e f)),(2,Value.int .i64 3,V.fn 353 (fS c e f)),(3,Value.int .i64 4,V.fn 354 (fS c e f)),(4,Value.int .i64 5,V.fn 355 (fS c e f)),(5,Value.int .i64 6,V.fn 356 (fS c e f)),(6,Value.int .i64 7,V.fn 357 (fS c e f))] (.int .i64 8)=none:=rfl;have f8:findM [(0,Value.int .i64 1,V.fn 351 (fS c e f)),(1,Value.int .i64 2,V.fn 352 (fS c e f)),(2,Value.int .i64 3,V.fn 353 (fS c e f)),(3,Value.int .i64 4,V.fn 354 (fS c e f)),(4,Value.int .i64 5,V.fn 355 (fS c e f)),(5,Value.int .i64 6,V.fn 356 (fS c e f)),(6,Value.int .i64 7,V.fn 357 (fS c e f)),(7,Value.int .i64 8,V.fn 358 (fS c e f))] (.int .i64 9)=none:=rfl;exact qe
theorem qBl (t:Tab) (h:Hd) (l:List E) (b:Nat):Ok prog 323 [.agg (cTab t),ptr b] [(b,.c (jP h l))] fun v a rs=>v=qq (decide (t.name=h.table))/\a=[(b,.c (jP h l))]/\rs=[]:=by
 refine oE func323 fun F k d=>?_;refine qb fun e j=>?_;refine qa ?_;exact⟨_,[_],[],Le.refl _,List.Sublist.cons _ (zc _),zn _,rfl,rfl,rfl⟩
theorem qDu (x:Fld) (s:Str) (b:Nat):Ok prog 325 [.agg (KK x),ptr b] [(b,.c [vstr s])] fun v a rs=>v=qq (decide (x.name=s))/\a=[(b,.c [vstr s])]/\rs=[]:=by
 refine oE func325 fun F j d=>?_;refine qb fun e h=>?_;refine qa ?_;exact⟨_,[_],[],Le.refl _,List.Sublist.cons _ (zc _),zn _,rfl,rfl,rfl⟩
theorem qgl (k:Int) (u:V) (a:List Fac) (o:Str) (n:Int) (e:Bx) (X:Bx) (Y:List VL.Row) (hu:Le u (qN a)) (j:a.length<=big) (hb:e.Sublist X) :
  ∃ v d h,Le (.tup [.agg [vint k,u,vstr o],vint n]) v/\d.Sublist X/\h.Sublist Y/\(∃ (t:Typ) (n:Int),v=.tup [w8 t,vint n]/\xK t)/\d=e/\h=[] :=
 ⟨.tup [w8 ⟨k,a,o⟩,vint n],_,[],jf (.cons (wc (.c1 (.cons hu (.c1 .nil)))) (.c1 .nil)),hb,zn _,⟨⟨k,a,o⟩,n,rfl,j⟩,rfl,rfl⟩
theorem qDt (t:Tab) (s:Str) (b:Nat) (d:vf t):XS prog 324 [vstr s,ptr b] [(b,.c (cTab t))]:=by
 have h:zg prog 325=true:=by kernel_rfl
 refine oE func324 fun F y j=>?_;refine qb fun a q=>?_;refine qb fun k u=>?_;refine qa ?_;refine qr [_] [_,_] (List.Perm.swap _ _ _) (Wq t.fields _ a [vstr s] (fun x=>decide (x.name=s)) h (fun x _=>qDu x s a) d.1) ?_;rintro v n w ⟨⟨_,rfl⟩ | ⟨i,e,_,_,rfl⟩,rfl,rfl⟩
 ·refine qi _ (kr 4) ?_;refine qa ?_;exact qgl _ _ [] _ _ _ _ _ (Le.refl _) (by simp) (((zc _).cons _).cons _)
 ·have o:(0:Int)<=(i:Int):=by omega
  have p:¬ (i:Int) < 0:=by omega
  refine qn ?_;exact qgl _ _ _ _ _ _ _ _ (Le.refl _) (d.2 _ (zs e)) (((zc _).cons _).cons _)
abbrev qJm (b:Nat):V:=VZ 324 b
theorem qDq (c:Cat) (e:Str) (t:Tab) (b:Nat) (k:vf t) (h:Hd) (l:List E) (p:V):XS prog 352 [.agg (yF c e (qJm b)),.agg (jP h l),p] [(b,.c (cTab t))]:=by
 have o:zg prog 324=true:=by kernel_rfl
 refine oE func352 fun F D q=>?_;refine qb fun w a=>?_;refine qb fun x d=>?_;refine qb fun y j=>?_;have A:=aI a (aI d (aI j o));refine qa ?_;refine qr [(b,.c (cTab t))] _ (x8 (l₁:=[_,_,_]) (l₂:=[(b,B.c (cTab t))])) (qDt t h.name b k) ?_;rintro v z C ⟨⟨u,n,rfl,hu⟩,rfl,rfl⟩;refine qa ?_;exact qgl _ _ _ _ _ _ _ _ (Le.refl _) hu (List.Sublist.cons_cons _ (zn _))
theorem vL {b:Nat} {Y:Bx}:∀ {X:Bx},b ∉ X.map (·.1)->zF (X++Y) b=zF Y b
 | [],_=>rfl
 | (x,z)::X,h=>by
  have a:¬ b=x:=fun e=>h (by simp_all);have j:=vL (Y:=Y) (X:=X) fun d=>h (z8 _ d);cases z <;> simp only [List.cons_append,zF,a,if_false] <;> exact j
theorem X6 {b:Nat} {Y:Bx} {z:List V}:∀ {X:Bx},b ∉ X.map (·.1)->kZ (X++Y) b z=X++kZ Y b z
 | [],_=>rfl
 | (x,q)::X,h=>by
  have a:¬ b=x:=fun e=>h (by simp_all);have j:=X6 (Y:=Y) (z:=z) (X:=X) fun d=>h (z8 _ d);cases q <;> simp only [List.cons_append,kZ,a,if_false,j]
def qh9 (ins:Bool) (f:V) (a:Bx):Prop:=(ins=false/\f=.lit .nilFunc/\a=[])∨(ins=true/\∃ b t,vf t/\f=qJm b/\a=[(b,.c (cTab t))])
theorem qh9.ok {ins:Bool} {f:V} {a:Bx} (h:qh9 ins f a):yx [f]=true:=by
 rcases h with⟨_,rfl,_⟩ | ⟨_,b,t,_,rfl,_⟩ <;> rfl
theorem qLl {l:List Typ} (h:(l.length:Int)=1):∃ a,l=[a]:=by
 match l,h with
 | [a],_=>simp
theorem qI2 {l:List Typ} (h:(l.length:Int)=2):∃ a b,l=[a,b]:=by
 match l,h with
 | [a,b],_=>simp
theorem qW4 {l:List E} (h:(l.length:Int)=2):∃ a b,l=[a,b]:=by
 match l,h with
 | [a,b],_=>simp
theorem qNg {l:List Typ} (h:(l.length:Int)=3):∃ a b d,l=[a,b,d]:=by
 match l,h with
 | [a,b,d],_=>simp
theorem qqr {h:Hd} {ins:Bool} (a:za h ins=true):h.kind=1∨h.kind=2∨h.kind=3∨h.kind=4∨h.kind=5∨h.kind=6∨h.kind=7∨h.kind=8∨h.kind=9:=by
 unfold za at a
 repeat' split at a
 all_goals simp_all
theorem qj3 {h:Hd} (a:za h false=true):¬ h.kind=2:=fun d=>by
 unfold za at a;simp_all
theorem qwj {h:Hd} {ins:Bool} (a:za h ins=true) (d:h.kind=5):ins=false:=by
 unfold za at a;simp_all
theorem qvq (c:Cat) (e:Str) (ins:Bool) (f:V) (w:Bx) (y:qh9 ins f w) (h:Hd) (l:List E) (C:za h ins=true) (hu:h.unit.length<=big) (A:c.features.length<=1000000) (z:∀ x ∈ c.features,QK x) (u:List Typ) (p:(u.length:Int)=kD h.kind) (q:∀ t ∈ u,xK t) (o:Option Value) :
  ∃ g,findM (qvp c e f) (.int .i64 h.kind)=some (V.fn g (fS c e f))/\zg prog g=true/\∀ j,(h.kind=2->j=w)->XS prog g [.agg (yF c e f),.agg (jP h l),.list o 3 (u.map kP)] j:=by
 have n:=y.ok;have k:=qqr C;rcases k with k | k | k | k | k | k | k | k | k
 all_goals rw [k] at p ⊢
 ·exact⟨_,rfl,by rfl,fun j _=>XS.of (qCq c e f n h l _ hu) j⟩
 ·refine⟨_,rfl,by rfl,fun j D=>?_⟩;rcases y with⟨rfl,_⟩ | ⟨_,b,t,F,rfl,rfl⟩
  ·exact absurd (qj3 C) (by omega)
  ·rw [D rfl];exact qDq c e t b F h l _
 ·exact⟨_,rfl,by rfl,fun j _=>XS.of (qDo c e f n h l _ A z) j⟩
 ·obtain⟨a,rfl⟩:=qLl p;exact⟨_,rfl,by rfl,fun j _=>XS.of (qw1 c e f n h l o a A z) j⟩
 ·obtain⟨a,b,rfl⟩:=qI2 p;exact⟨_,rfl,by rfl,fun j _=>XS.of (qFo c e f n h l o a b (q _ (by simp))) j⟩
 ·obtain⟨a,rfl⟩:=qLl p;exact⟨_,rfl,by rfl,fun j _=>XS.of (qHy c e f n h l o a (q _ (by simp))) j⟩
 ·obtain⟨a,b,rfl⟩:=qI2 p;exact⟨_,rfl,by rfl,fun j _=>XS.of (qFl c e f n h l o a b (q _ (by simp)) (q _ (by simp))) j⟩
 ·obtain⟨a,b,d,rfl⟩:=qNg p;exact⟨_,rfl,by rfl,fun j _=>XS.of (qFb c e f n h l o a b d (q _ (by simp))) j⟩
 ·obtain⟨a,b,rfl⟩:=qI2 p;exact⟨_,rfl,by rfl,fun j _=>XS.of (qDz c e f n h l o a b (q _ (by simp))) j⟩
def qWc (c:Cat) (a:E):Prop:=∃ h p q d,a=.mk h [p,q]/\h.kind=5/\zX p true=true/\zX q true=true/\c.tables.find? (fun t=>decide (t.name=h.table))=some d
mutual
def qio:E->List E
 | .mk h l=>if h.kind=5 then [.mk h l] else aggsEs l
def aggsEs:List E->List E
 | []=>[]
 | x::r=>qio x++aggsEs r
end
theorem qig (h:Hd) (l:List E):qio (.mk h l)=if h.kind=5 then [.mk h l] else aggsEs l:=by rw [qio]
theorem qqn:∀ {l:List E} {a:E},a ∈ aggsEs l->∃ x ∈ l,a ∈ qio x
 | [],a,h=>by rw [aggsEs] at h;cases h
 | x::r,a,h=>by
  rw [aggsEs] at h;rcases z6.1 h with h | h
  ·exact⟨x,.head _,h⟩
  ·obtain⟨y,d,h⟩:=qqn h;exact⟨y,.tail _ d,h⟩
def qih (c:Cat) (x:E):Prop:=∀ a ∈ qio x,qWc c a
theorem qih.mk {c:Cat} {h:Hd} {l:List E} (e:h.kind=5->qWc c (.mk h l)) (j:∀ x ∈ l,qih c x):qih c (.mk h l):=fun a d=>by
 rw [qig] at d;split at d
 ·rw [kl.1 d];exact e ‹_›
 ·obtain⟨x,k,d⟩:=qqn d;exact j x k a d
abbrev qWu (P:Program) (f:FuncId) (h:List V) (a:Bx) (A:Prop):Prop:=Ok P f h a fun v d e=>(∃ (t:Typ) (n:Int),v=.tup [w8 t,vint n]/\xK t/\(n=0->A))/\d=a/\e=[]
theorem qUb {A:Prop} (t:Typ) (n:Int) (e:xK t) (h:n=0->A) (X:Bx) (Y:List VL.Row):∃ v a d,Le (.tup [w8 t,vint n]) v/\a.Sublist X/\d.Sublist Y/\(∃ (t:Typ) (n:Int),v=.tup [w8 t,vint n]/\xK t/\(n=0->A))/\a=[]/\d=[] :=
 ⟨_,[],[],Le.refl _,zn _,zn _,⟨t,n,rfl,e,h⟩,rfl,rfl⟩
theorem qWe {A:Prop} (k:Int) (u:V) (a:List Fac) (o:Str) (n:Int) (e:Bx) (X:Bx) (Y:List VL.Row) (hu:Le u (qN a)) (p:a.length<=big) (h:n=0->A) (hb:e.Sublist X) :
  ∃ v d j,Le (.tup [.agg [vint k,u,vstr o],vint n]) v/\d.Sublist X/\j.Sublist Y/\(∃ (t:Typ) (n:Int),v=.tup [w8 t,vint n]/\xK t/\(n=0->A))/\d=e/\j=[] :=
 ⟨.tup [w8 ⟨k,a,o⟩,vint n],_,[],jf (.cons (wc (.c1 (.cons hu (.c1 .nil)))) (.c1 .nil)),hb,zn _,⟨⟨k,a,o⟩,n,rfl,p,h⟩,rfl,rfl⟩
abbrev bsI (a d j k:Nat) (c:Cat) (e:Str) (f n:V) (h:Hd) (l:List E) (z:List V):Bx:=[(k,.c (yF c e n)),(j,.c z),(d,.c (jP h l)),(a,.c (yF c e f))]
def InR (d a j o:Nat) (c:Cat) (e:Str) (f q:V) (h:Hd) (l:List E) (p:Bx) (y:Value) (k:List Typ) (g:FuncId) (L:Nat->Bool) (S:St):Prop :=
 S.σ 2=ptr d/\S.σ 3=ptr a/\S.σ 4=ptr j/\S.σ 9=.list (some y) 3 (k.map kP)/\(∃ r,S.rows=r) /\
 (L 0=true->S.σ 68=.agg (yF c e f))/\(L 1=true->S.σ 69=ptr a)/\(L 2=true->S.σ 70=vint h.kind)/\(L 3=true->S.σ 71=.fn g [.agg (yF c e f)])/\(L 4=true->S.σ 72=.agg (jP h l))/\(L 5=true->S.σ 73=.list (some y) 3 (k.map kP)) /\
 (L 6=true->∃ t n,xK t/\S.σ 74=.tup [w8 t,vint n])/\(L 7=true->∃ t,xK t/\S.σ 75=w8 t)/\(L 8=true->∃ n,S.σ 76=vint n)/\(L 10=true->∃ n,S.σ 5=vint n) /\
 ∃ z,((L 9=false/\z=[vint 0,nilS,vstr qH])∨(L 9=true/\∃ t,xK t/\z=kP t))/\S.boxes=bsI d a j o c e f q h l z++p
theorem qrm:∀ x:E,∀ (ins:Bool) (c:Cat) (e:Str) (f:V) (O:Bx),uh x->zX x ins=true->c.features.length<=1000000->c.tables.length<=1000000->(∀ x ∈ c.features,QK x)->(∀ t ∈ c.tables,vf t)->qh9 ins f O->qWu prog 285 [.agg (yF c e f),vE x] O (qih c x):=by
 intro x
 induction x using E.ind with
 | h h l ih =>
 intro ins c e f O ai hp hl aF hF hT ag;obtain⟨p1,p2,p3,p4,p5⟩:=yX hp;have am:=ai.len;have ha:=ai.args;have hu:=ai.unit;have hf:=ag.ok;simp only [E.args,E.hd] at am ha hu;have aE:=am;unfold big at aE;have k1:zg prog 323=true:=by kernel_rfl
 rw [vE,wI];refine Ok.of_exM [(19,3)] Ty.mixed func285 rfl (by simp) (by rfl) fun F w0 I0=>?_;simp only [↓rA,rU,hf,simprocAttr];refine qX fun M h2=>?_;simp only [↓rA,rU,simprocAttr];refine qX fun w h3=>?_;simp only [↓rA,rU,simprocAttr];refine qX fun C h4=>?_;simp only [↓rA,rU,h3,h4,simprocAttr];refine qX fun N h6=>?_;have o:=aI h2 (aI h3 (aI h4 (aI h6 hf)));simp only [↓qJ,↓zx,↓ua,↓wR,zw,qu,kM,vA,wB,jx,yd,ky,ub,kO,jA,jZ,zP,j1,yh,xB,Xu,yx,w3,eq_self,and_self,not_false_eq_true,ne_eq,z7,Jx,List.take_zero,qL1,qO3,List.length_cons,List.length_nil,List.cons_append,List.nil_append,wl,List.toList_toArray,qJ0,qM9,Nat.reduceEqDiff,Nat.reduceAdd,results285,o,tU,Nat.reduceShiftRight,Nat.reduceMod];rw [zu];refine xe (fun S=>∃ Q Z,qh9 (ins || decide (h.kind=5)) Q (Z++O)/\((h.kind=2->Z=[])/\(h.kind=5->qWc c (.mk h l)))/\(S.boxes.Perm (bsI M w C N c e f Q h l [vint 0,nilS,vstr qH]++(Z++O))/\zF S.boxes w=some (jP h l))/\S.rows=[]/\S.σ 2=ptr M/\S.σ 3=ptr w/\S.σ 4=ptr C/\S.σ 6=ptr N) ?_ ?_
 ·by_cases U:h.kind=5
  case neg =>
   simp only [↓rA,rU,o,U,simprocAttr];exact⟨f,[],by assumption,⟨fun _=>rfl,fun k=>k.elim⟩,zp _⟩
  obtain rfl:=qwj p1 U;obtain⟨rfl,rfl⟩:f=.lit .nilFunc/\O=[]:=by
   rcases ag with⟨_,h1,h2⟩ | ⟨h0,_⟩
   ·exact qD
   ·cases h0
  simp only [↓rA,rU,o,U,simprocAttr];refine qr [(w,.c (jP h l))] [_,_,_] (ux (l₁:=[_,_])) (qrs c.tables _ w (jP h l) (fun t=>decide (t.name=h.table)) k1 (fun t _=>qBl t h l w) (by unfold big;omega)) ?_;rintro v O rs ⟨⟨_,rfl⟩ | ⟨i,T,hit,_,rfl⟩,rfl,rfl⟩
  ·simp only [↓rA,rU,U,simprocAttr];refine qo _ (kr 4) ?_;simp only [↓rA,rU,o,simprocAttr];exact qUb typ0 4 kH (fun h=>absurd h (by decide)) _ _
  ·have h0:(0:Int)<=(i:Int):=by omega
   have av:¬ (i:Int) < 0:=by omega
   simp only [↓rA,rU,o,h0,av,zq,T,simprocAttr];refine qX fun X h8=>?_;have o:=aI o h8;by_cases I:c.tables[i].entity=e
   ·subst I;simp only [↓rA,rU,o,simprocAttr];refine⟨qJm X,[(X,.c (cTab c.tables[i]))],.inr ⟨by simp [U],X,_,hT _ (zs T),rfl,rfl⟩,⟨fun h2=>absurd h2 (by omega),fun _=>?_⟩,?_⟩
    ·obtain⟨p,q,rfl⟩:=qW4 (l:=l) (by rw [p3,U];rfl);rw [U] at p4;obtain⟨tb,aH⟩:=qPw.1 (List.find?_isSome (p:=fun t=>decide (t.name=h.table)) |>.2 ⟨_,zs T,hit⟩);exact⟨h,p,q,tb,rfl,U,p4 p (by simp),p4 q (by simp),aH⟩
    refine List.Perm.trans (List.Perm.cons (X,B.c (cTab c.tables[i])) (ux (l₁:=[_,_]) (a:=(w,B.c (jP h l)))).symm) (x8 (l₁:=[(X,B.c (cTab c.tables[i]))]))
   ·simp only [↓rA,rU,o,I,simprocAttr];refine qo _ (kr 5) ?_;simp only [↓rA,rU,o,simprocAttr];exact qUb typ0 5 kH (fun h=>absurd h (by decide)) _ _
 rintro S ⟨Q,Z,ah,⟨az,aA⟩,⟨gp,au⟩,j,g2,g3,g4,g6⟩;generalize ak:Z++O=R at ah gp;have aC:h.kind=2->R=O:=fun k=>by rw [<-ak,az k];rfl
 have aD:=ah.ok;have ao:O.Sublist R:=by rw [<-ak];exact qRf _ _
 simp only [↓rA,rU,au,g3,simprocAttr];refine xo.nilRow 9 3 35 (by rfl) (by decide) ?_;refine zI Ty.mixed (by rfl) l.length (fun i S=>∃ (W:List Typ) (y:Value),(W.length=i/\∀ x ∈ l.take i,qih c x)/\(∀ t ∈ W,xK t)/\S.boxes=bsI M w C N c e f Q h l [vint 0,nilS,vstr qH]++R/\S.rows=[⟨y,3,35⟩]/\S.σ 2=ptr M/\S.σ 3=ptr w/\S.σ 4=ptr C/\S.σ 6=ptr N/\S.σ 9=.list (some y) 3 (W.map kP)/\S.σ 45=kI l/\S.σ 46=vint l.length/\S.σ 47=vint i) ⟨_,_,_,_,zc _,zc _,gp,zp _,?_⟩ (fun i S T ⟨W,y,⟨aq,af⟩,aj,u,j,g2,g3,g4,g6,g9,ae,ab,ac⟩=>?_) (fun S ⟨W,y,⟨aq,af⟩,aj,u,j,g2,g3,g4,g6,g9,ae,ab,ac⟩=>?_)
 ·simp only [rU,j,g2,g3,g4,g6,simprocAttr];simp
 ·have aJ:=qj T;have D:=zs T;have al:=ih l[i] D _ c e Q R (ha _ D) (p4 _ D) hl aF hF hT ah;rw [vE,qY] at al;simp only [↓rA,rU,u,j,ae,ab,ac,zq,T,qY,simprocAttr];refine qX fun ad aw=>?_;have o:=aI o aw;simp only [↓rA,rU,u,g6,o,qY,simprocAttr];refine zB R [_,_,_,_,_] (x8 (l₁:=[_,_,_,_,_])) al ?_;rintro v aa rs ⟨⟨t,n,rfl,ht,aB⟩,rfl,rfl⟩ hN;have an:∀ x ∈ [ad,N,C,w,M],x ∉ aa.map (·.1):=fun x D hm=>by
   rw [k8] at hN;exact(w4.1 hN).2.2 x hm x D rfl
  have ar:=fun Y=>vL (Y:=Y) (an C (by simp));have aK:=fun Y z=>X6 (Y:=Y) (z:=z) (an C (by simp));simp only [↓rA,rU,j,simprocAttr];refine qX fun P ax=>?_;have ay:(ad ≠ P/\P ≠ ad)/\(N ≠ P/\P ≠ N)/\(C ≠ P/\P ≠ C)/\(w ≠ P/\P ≠ w)/\(M ≠ P/\P ≠ M)/\Dum:=(qdx ax).2;by_cases n0:n=0
  case neg =>
   simp only [↓rA,rU,j,n0,simprocAttr];refine qo _ (kr n) ?_;simp only [↓rA,rU,j,g4,o,ay,ar,aK,simprocAttr];exact qWe _ _ [] _ _ _ _ _ (Le.refl _) (by simp) (fun h=>absurd h n0) ((ao.trans (qOy _ _)).cons _)
  ·simp only [↓rA,rU,j,g9,n0,simprocAttr];refine fun y2=>xf ?_;simp only [↓rA,rU,j,ac,aJ,simprocAttr];refine⟨by omega,fun y3=>?_⟩;refine⟨aa++bsI M w C N c e f Q h l [vint 0,nilS,vstr qH],[⟨y3,3,35⟩],_,_,((zc aa).append (List.Sublist.cons _ (zc _))).cons _,List.Sublist.cons_cons _ (zn _),x8,zp _,?_⟩;simp only [rU,g2,g3,g4,g6,ae,ab,simprocAttr];exact⟨W++[t],y3,⟨by simp [aq],fun x D=>by
    rw [zt T] at D;rcases z6.1 D with D | D
    ·exact af x D
    ·rw [kl.1 D];exact aB n0⟩,fun q hq=>(z6.1 hq).elim (aj q) fun hq=>kl.1 hq▸ht,rfl,by simp⟩
 ·obtain⟨g,hg,k2,HR⟩:=qvq c e ins f O ag h l p1 hu hl hF W (by omega) aj (some y);have HR:=HR R aC;have o:=aI o (aI aD k2);simp only [↓rA,rU,ab,ac,qRn,simprocAttr];refine yp Ty.mixed (by rfl) (by rfl) (InR M w C N c e f Q h l R y W g) ?_ ?_ ?_
  ·exact⟨by exact qA,by exact qA,by exact qA,by exact qA,⟨_,rfl⟩,nofun,nofun,nofun,nofun,nofun,nofun,nofun,nofun,nofun,nofun,_,.inl ⟨rfl,rfl⟩,by assumption⟩
  ·intro L S i o1 d hL I ⟨J,G,H,K,j,f0,f1,f2,f3,f4,f5,f6,f7,f8,f10,z,A,u⟩
   match i,d with
   | 0,d =>
    cases d;simp only [↓rA,rU,J,u,o,simprocAttr];exact lP ⟨J,G,H,K,j,fun _=>rfl,f1,f2,f3,f4,f5,f6,f7,f8,f10,z,A,u⟩
   | 1,d =>
    cases d;simp only [↓rA,rU,G,simprocAttr];exact lP ⟨J,G,H,K,j,f0,fun _=>rfl,f2,f3,f4,f5,f6,f7,f8,f10,z,A,u⟩
   | 2,d =>
    cases d;have d1:=f1 (dt I 1);simp only [↓rA,rU,u,o,d1,simprocAttr];exact lP ⟨J,G,H,K,j,f0,f1,fun _=>rfl,f3,f4,f5,f6,f7,f8,f10,z,A,u⟩
   | 3,d =>
    cases d;have d0:=f0 (dt I 0);have d2:=f2 (dt I 2);simp only [↓rA,rU,u,d0,d2,simprocAttr];refine qo _ (qB2 c e f hf h.kind g hg) ?_;simp only [↓rA,rU,simprocAttr];exact lP ⟨J,G,H,K,j,f0,f1,f2,fun _=>rfl,f4,f5,f6,f7,f8,f10,z,A,rfl⟩
   | 4,d =>
    cases d;simp only [↓rA,rU,G,u,o,simprocAttr];exact lP ⟨J,G,H,K,j,f0,f1,f2,f3,fun _=>rfl,f5,f6,f7,f8,f10,z,A,u⟩
   | 5,d =>
    cases d;simp only [↓rA,rU,K,simprocAttr];exact lP ⟨J,G,H,K,j,f0,f1,f2,f3,f4,fun _=>rfl,f6,f7,f8,f10,z,A,u⟩
   | 6,d =>
    cases d;have d3:=f3 (dt I 3);have d4:=f4 (dt I 4);have d5:=f5 (dt I 5);simp only [↓rA,rU,u,o,d3,d4,d5,simprocAttr];refine qr R _ (x8 (l₁:=bsI M w C N c e f Q h l z)) HR ?_;rintro v aa rs ⟨⟨t,n,rfl,ht⟩,rfl,rfl⟩;simp only [↓rA,rU,simprocAttr];exact⟨aa++bsI M w C N c e f Q h l z,_,_,_,zc _,zc _,x8,zp _,J,G,H,K,j,f0,f1,f2,f3,f4,f5,fun _=>⟨t,n,ht,rfl⟩,f7,f8,f10,z,A,rfl⟩
   | 7,d =>
    cases d;have l6:=dt I 6;obtain⟨t6,n6,ap,d6⟩:=f6 l6;simp only [↓rA,rU,d6,simprocAttr];exact lP ⟨J,G,H,K,j,f0,f1,f2,f3,f4,f5,f6,fun _=>⟨t6,ap,rfl⟩,f8,f10,z,A,u⟩
   | 8,d =>
    cases d;have l6:=dt I 6;obtain⟨t6,n6,ap,d6⟩:=f6 l6;simp only [↓rA,rU,d6,simprocAttr];exact lP ⟨J,G,H,K,j,f0,f1,f2,f3,f4,f5,f6,f7,fun _=>⟨n6,rfl⟩,f10,z,A,u⟩
   | 9,d =>
    cases d;have l7:=dt I 7;obtain⟨t7,aG,d7⟩:=f7 l7;obtain⟨z0,z1,z2,rfl⟩:∃ z0 z1 z2,z=[z0,z1,z2]:=A.elim (fun h=>⟨_,_,_,h.2⟩) (fun h=>let ⟨_,_,_,h⟩:=h;⟨_,_,_,h⟩);simp only [↓rA,rU,H,u,o,d7,simprocAttr];exact lP ⟨J,G,H,K,j,f0,f1,f2,f3,f4,f5,f6,f7,f8,f10,_,.inr ⟨rfl,t7,aG,rfl⟩,rfl⟩
   | 10,d =>
    cases d;have l8:=dt I 8;obtain⟨n8,d8⟩:=f8 l8;simp only [↓rA,rU,d8,simprocAttr];exact lP ⟨J,G,H,K,j,f0,f1,f2,f3,f4,f5,f6,f7,f8,fun _=>⟨n8,rfl⟩,z,A,u⟩
  ·intro L S hL ⟨J,G,H,K,j,f0,f1,f2,f3,f4,f5,f6,f7,f8,f10,z,A,u⟩;obtain⟨n,d10⟩:=f10 (hL 10 (by simp));rcases A with⟨A,_⟩ | ⟨_,t,ht,rfl⟩
   ·rw [hL 9 (by simp)] at A;cases A
   ·simp only [↓rA,rU,H,u,o,d10,simprocAttr];exact qWe _ _ _ _ _ _ _ _ (Le.refl _) ht (fun _=>qih.mk aA fun x D=>af x (by rw [xa (w3 _)];exact D)) (ao.trans (qRf (bsI M w C N c e f Q h l (kP t)) R))
end Go.Proofs.YtkdgbjhbpbgdeaaGreatDoor
