/- Merged out of my texts AD AFa AFb ASr ASv ASf. -/
import Derived.Test.YtkdgbjhbpbgdeaaGreatDoorKA
import Derived.Test.YtkdgbjhbpbgdeaaGreatDoorKVc
import Derived.Lib.Bytealg
import Derived.Test.YtkdgbjhbpbgdeaaGreatDoorKVd
import Derived.Test.YtkdgbjhbpbgdeaaGreatDoorProg
set_option linter.unusedSimpArgs false
set_option maxRecDepth 100000
set_option linter.defProp false
set_option maxHeartbeats 4000000
set_option linter.unusedVariables false
open Go.Proofs.Tryz
open Go.VL
namespace Go.Ar
abbrev Str:=ByteArray
abbrev vint (n:Int):V:=.lit (.int .i64 n)
abbrev qq (b:Bool):V:=.lit (.bool b)
abbrev vstr (s:Str):V:=.lit (.string s)
abbrev qGe (xs:List Int):V:=.list none 1 (xs.map fun x=>[vint x])
abbrev jV (xs:List Str):V:=.list none 1 (xs.map fun x=>[vstr x])
abbrev ptr (b:Nat):V:=.lit (.pointer (some ⟨b,0,none⟩))
abbrev nilS:V:=.lit (.slice none 0 0)
structure FID where
 src:Str
 seq:Int
 deriving DecidableEq
structure Val where
 kind:Int
 n:Int
 s:Str
 deriving DecidableEq
structure Rw where
 id:FID
 table:Str
 key:Str
 event:Int
 fields:List Val
 no:Int
 tick:Int
 deriving DecidableEq
structure Dlt where
 row:Rw
 tick:Int
 n:Int
 deriving DecidableEq
structure Grp where
 key:Str
 ds:List Dlt
 deriving DecidableEq
structure Arr where
 since:Int
 groups:List Grp
 deriving DecidableEq
abbrev Qc (i:FID):List V:=[vstr i.src,vint i.seq]
abbrev qS (v:Val):List V:=[vint v.kind,vint v.n,vstr v.s]
abbrev xT (l:List Val):V:=.list none 3 (l.map qS)
abbrev zJ (r:Rw):List V:=[vstr r.id.src,vint r.id.seq,vstr r.table,vstr r.key,vint r.event,xT r.fields,vint r.no,vint r.tick]
abbrev qZ (l:List Rw):V:=.list none 8 (l.map zJ)
abbrev qd9 (l:List FID):V:=.list none 2 (l.map Qc)
def less (a b:Str):Bool:=Op.bytesLess a.data.toList b.data.toList
def cmpI (a b:Int):Int:=if a < b then -1 else if b < a then 1 else 0
def cmpS (a b:Str):Int:=if less a b=true then -1 else if (less a b || decide (a=b))=true then 0 else 1
def orL:List Int->Int
 | []=>0
 | x::r=>if x=0 then orL r else x
def cmpID (a b:FID):Int:=if a=b then 0 else orL [cmpS a.src b.src,cmpI a.seq b.seq]
def cmpRow (a b:Rw):Int:=orL [cmpI a.event b.event,cmpID a.id b.id]
def cmpVal (a b:Val):Int:=orL [cmpI a.kind b.kind,cmpI a.n b.n,cmpS a.s b.s]
theorem Qd:∀ l:List UInt8,Op.bytesLess l l=false
 | []=>rfl
 | x::l=>by simp [Op.bytesLess,Qd l]
variable {a:Str}
theorem qfu:less a a=false:=Qd _
theorem qE9 {b:Str} (h:less a b=true):cmpS a b=-1:=by simp [cmpS,h]
theorem qa6 (a:Str):cmpS a a=0:=by simp [cmpS,qfu]
theorem qFa {b:Str} (h:less a b=false) (d:¬ a=b):cmpS a b=1:=by simp [cmpS,h,d]
theorem vV {b:Str}:cmpS a b=0↔a=b:=by
 constructor
 ·intro h;cases d:less a b
  ·by_cases e:a=b
   ·omega
   ·rw [qFa d e] at h;cases h
  ·rw [qE9 d] at h;cases h
 ·rintro rfl;exact qa6 a
theorem ji {a b:Int}:cmpI a b=0↔a=b:=by
 unfold cmpI;omega
theorem ZW {a b:FID}:cmpID a b=0↔a=b:=by
 unfold cmpID;constructor
 ·intro h;split at h
  ·omega
  ·simp only [orL] at h;cases a;cases b;split at h
   ·rename_i d;split at h
    ·rename_i e;have j:=vV.1 d;have k:=ji.1 e;simp_all
    omega
   omega
 simp_all
theorem qv {n:Int} (h:-9223372036854775808<=n) (a:n < 9223372036854775808):IntKind.i64.wrap n=n:=IntWalk.i64_in n ⟨h,by omega⟩
theorem qj {i N:Nat} (h:i < N) (a:N<=9223372036854775807:=by omega):IntKind.i64.wrap ((i:Int)+1)=((i+1:Nat):Int):=by
 rw [qv (by omega) (by omega)];rfl
theorem qc {v x:V} {e:Bx} {rs:List VL.Row} (h:v=x):∃ w a d,Le v w/\a.Sublist e/\d.Sublist rs/\w=x/\a=[]/\d=[] :=
 ⟨v,[],[],Le.refl _,zn _,zn _,h,rfl,rfl⟩
theorem Yq {v x:V} {e:Bx} {rs:List VL.Row} (h:Le v x):∃ w a d,Le v w/\a.Sublist e/\d.Sublist rs/\w=x/\a=[]/\d=[] :=
 ⟨x,[],[],h,zn _,zn _,rfl,rfl,rfl⟩
theorem qI {α:Type} (f:α->List V) (l:List α) (i:Nat) (h:i < l.length):(l.map f).getD i []=f l[i]:=by
 simp_all
end Go.Ar
open Go.Ar Go.Proofs.YtkdgbjhbpbgdeaaGreatDoor
namespace Go.Proofs.YtkdgbjhbpbgdeaaGreatDoor.Arr
theorem qnr (s:Str):zk prog 184 [vstr s] (qq false):=by
 refine oE func184 fun F d a=>?_;exact qe
theorem qns (s:Int):zk prog 70 [vint s] (qq false):=by
 refine oE func70 fun F d a=>?_;exact qe
theorem JM (a b:Int):zk prog 38 [vint a,vint b] (vint (cmpI a b)):=by
 refine oE func38 fun F k j=>?_;refine qi _ (qns a) ?_;refine qi _ (qns b) ?_;by_cases d:a < b
 ·exact qe (h:=by simp [cmpI,d])
 ·by_cases e:b < a
  ·exact qe (h:=by simp [cmpI,d,e])
  ·exact qe (h:=by simp [cmpI,d,e])
theorem qE8 (a b:Str):zk prog 111 [vstr a,vstr b] (vint (cmpS a b)):=by
 refine oE func111 fun F k j=>?_;refine qi _ (qnr a) ?_;refine qi _ (qnr b) ?_;cases d:Op.bytesLess a.data.toList b.data.toList
 ·by_cases e:a=b
  ·subst e;exact qe (h:=by simp [cmpS,less,d])
  ·exact qe (h:=by simp [cmpS,less,d,e])
 ·exact qe (h:=by simp [cmpS,less,d])
theorem qv5 (l:List Int) (p:l.length<=9223372036854775807):zk prog 37 [qGe l] (vint (orL l)):=by
 refine oE func37 fun F u q=>?_;refine qa ?_;refine qG Ty.mixed (by rfl) l.length (fun i S=>S.σ 6=qGe l/\S.σ 7=vint l.length/\S.σ 8=vint i/\S.σ 3=vint 0/\S.boxes=[]/\orL l=orL (l.drop i)) ⟨0,?_⟩ (fun i S j ⟨n,d,e,a,h,k⟩=>?_) (fun S ⟨n,d,e,a,h,k⟩=>?_)
 ·exact qA
 ·have hd:l.drop i=l[i]::l.drop (i+1):=qGt j;rw [hd,orL] at k;by_cases o:l[i]=0
  ·simp only [↓rA,rU,n,d,e,a,h,zq,j,o,qj j p,simprocAttr];simp_all
  ·simp only [↓rA,rU,n,d,e,a,h,zq,j,o,simprocAttr];exact qc (by rw [k,if_neg o])
 ·simp only [↓rA,rU,d,e,a,h,zq,WR,simprocAttr];exact qc (by rw [k];simp [orL])
theorem Jw:∀ a b:List UInt8,Go.Lib.compareBytes a b=if Op.bytesLess a b=true then -1 else if (Op.bytesLess a b || decide (a=b))=true then 0 else 1:=by
 intro a
 induction a with
 | nil=>intro b;cases b <;> simp [Go.Lib.compareBytes,Op.bytesLess]
 | cons x a j =>
  intro b;cases b with
  | nil=>rfl
  | cons y b =>
   simp only [Go.Lib.compareBytes,Op.bytesLess];have:=j b;by_cases d:x < y
   ·simp [d]
   ·by_cases h:x=y
    ·simp_all
    ·have k:y < x:=by
      rw [qRq] at d ⊢;have:x.toNat ≠ y.toNat:=fun e=>h (UInt8.toNat_inj.1 e);omega
     simp_all
theorem qix (S:St) (a b:Str):qib prog S 108 [vstr a,vstr b] (vint (cmpS a b)):=by
 intro w I j _ d;have:j=[.string a,.string b]:=qcc d;subst this;refine⟨.int .i64 (cmpS a b),w,?_,.inl rfl,by rfl⟩;rw [run_callFunc_extern func108 (by rfl) (by rfl) (by kernel_rfl) (e:=Extern.BytealgCompare.compare) (by kernel_rfl)];rw [Go.Lib.run_compareString (P:=prog) a b w];simp only [Result.andThen,Jw,cmpS,less];have:decide (a.data.toList=b.data.toList)=decide (a=b):=by
  rw [qOg,decide_eq_true_eq,decide_eq_true_eq];exact⟨fun h=>qRp (qMc h),fun h=>by rw [h]⟩
 simp_all
theorem qdb (a b:Str):zk prog 71 [vstr a,vstr b] (vint (cmpS a b)):=by
 refine oE func71 fun F e d=>?_;refine qa ?_;refine QL _ (qix _ a b) ?_;exact qe
theorem X3 (a b:Str):zk prog 39 [vstr a,vstr b] (vint (cmpS a b)):=by
 refine oE func39 fun F e d=>?_;refine qi _ (qdb a b) ?_;exact qe
theorem qhi (a b:FID):zk prog 77 [.agg (Qc a),.agg (Qc b)] (vint (cmpID a b)):=by
 refine oE func77 fun F q j=>?_;refine qb fun k o=>?_;refine qb fun n p=>?_;refine qa ?_;apply qf <;> intro d
 ·refine qa ?_;simp only [k7,decide_eq_true_eq] at d;have:a=b:=by cases a;cases b;simp_all
  exact qc (by simp [cmpID,this])
 ·have:¬ a=b:=fun e=>by simp_all
  refine qa ?_;refine qt _ (qE8 a.src b.src).v ?_;refine qa ?_;refine qt _ (JM a.seq b.seq).v ?_;refine qa ?_;refine qt _ (qv5 [cmpS a.src b.src,cmpI a.seq b.seq] (by simp)).v ?_;exact qe (h:=by simp [cmpID,this])
theorem qs6 (a b:Rw):zk prog 52 [.agg (zJ a),.agg (zJ b)] (vint (cmpRow a b)):=by
 refine oE func52 fun F n d=>?_;refine qb fun e j=>?_;refine qb fun h k=>?_;refine qa ?_;refine qt _ (JM a.event b.event).v ?_;refine qa ?_;refine qt _ (qhi a.id b.id).v ?_;refine qa ?_;refine qt _ (qv5 [cmpI a.event b.event,cmpID a.id b.id] (by simp)).v ?_;exact qe
theorem qa5 (a b:Val):zk prog 16 [.agg (qS a),.agg (qS b)] (vint (cmpVal a b)):=by
 refine oE func16 fun F n d=>?_;refine qb fun e j=>?_;refine qb fun h k=>?_;refine qa ?_;refine qt _ (JM a.kind b.kind).v ?_;refine qa ?_;refine qt _ (JM a.n b.n).v ?_;refine qa ?_;refine qt _ (X3 a.s b.s).v ?_;refine qa ?_;refine qt _ (qv5 [cmpI a.kind b.kind,cmpI a.n b.n,cmpS a.s b.s] (by simp)).v ?_;exact qe
end Go.Proofs.YtkdgbjhbpbgdeaaGreatDoor.Arr
namespace Go.Proofs
open Go.Shelf
def Tryz.sortR_ren:Go.Shelf.Ren:=⟨fun | 6=>51 | 15=>88 | 14=>87 | 28=>144 | 29=>145 | 20=>136 | 21=>137 | 22=>138 | 23=>139 | 24=>140 | 25=>141 | 26=>142 | 27=>143 | 46=>218 | 47=>219 | 48=>220 | 49=>221 | 50=>222 | 57=>295 | n=>n,fun | 22=>29 | 24=>62 | 25=>123 | 3=>3 | 39=>174 | 0=>0 | 53=>203 | 55=>205 | 4=>4 | 46=>197 | 45=>196 | 50=>139 | 5=>5 | 9=>9 | 66=>272 | 70=>276 | 76=>329 | 77=>330 | n=>n,fun | n=>n⟩
theorem Tryz.sortR:Go.Proofs.SlLaysF0.n6 Tryz.prog Tryz.sortR_ren:={
 mixed:=by rfl
 f6:=⟨Tryz.f51.name,by decide,ly Tryz.func51⟩
 f14:=⟨Tryz.f87.name,by decide,ly Tryz.func87⟩
 f15:=ly Tryz.func88
 f20:=⟨Tryz.f136.name,by decide,ly Tryz.func136⟩
 f21:=⟨Tryz.f137.name,by decide,ly Tryz.func137⟩
 f22:=⟨Tryz.f138.name,by decide,ly Tryz.func138⟩
 f23:=⟨Tryz.f139.name,by decide,ly Tryz.func139⟩
 f24:=⟨Tryz.f140.name,by decide,ly Tryz.func140⟩
 f25:=⟨Tryz.f141.name,by decide,ly Tryz.func141⟩
 f26:=⟨Tryz.f142.name,by decide,ly Tryz.func142⟩
 f27:=⟨Tryz.f143.name,by decide,ly Tryz.func143⟩
 f28:=ly Tryz.func144
 f29:=ly Tryz.func145
 f46:=⟨Tryz.f218.name,by decide,ly Tryz.func218⟩
 f47:=ly Tryz.func219
 f48:=ly Tryz.func220
 f49:=⟨Tryz.f221.name,by decide,ly Tryz.func221⟩
 f50:=⟨Tryz.f222.name,by decide,ly Tryz.func222⟩
 f57:=⟨Tryz.f295.name,by decide,ly Tryz.func295⟩
 t0:=Tryz.underlying0
 a0:=Tryz.isAgg0
 z0:=Tryz.sizeOf0
 v0:=Tryz.zeroValue0
 t3:=Tryz.underlying3
 a3:=Tryz.isAgg3
 z3:=Tryz.sizeOf3
 v3:=Tryz.zeroValue3
 t4:=Tryz.underlying4
 a4:=Tryz.isAgg4
 z4:=Tryz.sizeOf4
 v4:=Tryz.zeroValue4
 t5:=Tryz.underlying5
 a5:=Tryz.isAgg5
 z5:=Tryz.sizeOf5
 v5:=Tryz.zeroValue5
 t9:=Tryz.underlying9
 a9:=Tryz.isAgg9
 z9:=Tryz.sizeOf9
 v9:=Tryz.zeroValue9
 t22:=Tryz.underlying29
 a22:=Tryz.isAgg29
 z22:=Tryz.sizeOf29
 v22:=Tryz.zeroValue29
 t25:=Tryz.underlying123
 a25:=Tryz.isAgg123
 z25:=Tryz.sizeOf123
 v25:=Tryz.zeroValue123
 t39:=Tryz.underlying174
 a39:=Tryz.isAgg174
 z39:=Tryz.sizeOf174
 v39:=Tryz.zeroValue174
 t45:=Tryz.underlying196
 a45:=Tryz.isAgg196
 z45:=Tryz.sizeOf196
 v45:=Tryz.zeroValue196
 t46:=Tryz.underlying197
 a46:=Tryz.isAgg197
 z46:=Tryz.sizeOf197
 v46:=Tryz.zeroValue197
 t50:=Tryz.underlying139
 a50:=Tryz.isAgg139
 z50:=Tryz.sizeOf139
 v50:=Tryz.zeroValue139
 t53:=Tryz.underlying203
 a53:=Tryz.isAgg203
 z53:=Tryz.sizeOf203
 v53:=Tryz.zeroValue203
 t55:=Tryz.underlying205
 a55:=Tryz.isAgg205
 z55:=Tryz.sizeOf205
 v55:=Tryz.zeroValue205
 t66:=Tryz.underlying272
 a66:=Tryz.isAgg272
 z66:=Tryz.sizeOf272
 v66:=Tryz.zeroValue272
 t70:=Tryz.underlying276
 a70:=Tryz.isAgg276
 z70:=Tryz.sizeOf276
 v70:=Tryz.zeroValue276
 t76:=Tryz.underlying329
 a76:=Tryz.isAgg329
 z76:=Tryz.sizeOf329
 v76:=Tryz.zeroValue329
 t77:=Tryz.underlying330
 a77:=Tryz.isAgg330
 z77:=Tryz.sizeOf330
 v77:=Tryz.zeroValue330 }
def Tryz.sortV_ren:Go.Shelf.Ren:=⟨fun | 6=>233 | 15=>88 | 14=>300 | 28=>144 | 29=>145 | 20=>332 | 21=>333 | 22=>334 | 23=>335 | 24=>336 | 25=>337 | 26=>338 | 27=>339 | 46=>369 | 47=>219 | 48=>220 | 49=>370 | 50=>371 | 57=>385 | n=>n,fun | 22=>57 | 24=>37 | 25=>63 | 3=>3 | 39=>174 | 0=>0 | 53=>203 | 55=>205 | 4=>4 | 46=>197 | 45=>196 | 50=>139 | 5=>5 | 9=>9 | 66=>272 | 70=>276 | 76=>329 | 77=>330 | n=>n,fun | n=>n⟩
theorem Tryz.sortV:Go.Proofs.SlLaysF0.n6 Tryz.prog Tryz.sortV_ren:={
 mixed:=by rfl
 f6:=⟨Tryz.f233.name,by decide,ly Tryz.func233⟩
 f14:=⟨Tryz.f300.name,by decide,ly Tryz.func300⟩
 f15:=ly Tryz.func88
 f20:=⟨Tryz.f332.name,by decide,ly Tryz.func332⟩
 f21:=⟨Tryz.f333.name,by decide,ly Tryz.func333⟩
 f22:=⟨Tryz.f334.name,by decide,ly Tryz.func334⟩
 f23:=⟨Tryz.f335.name,by decide,ly Tryz.func335⟩
 f24:=⟨Tryz.f336.name,by decide,ly Tryz.func336⟩
 f25:=⟨Tryz.f337.name,by decide,ly Tryz.func337⟩
 f26:=⟨Tryz.f338.name,by decide,ly Tryz.func338⟩
 f27:=⟨Tryz.f339.name,by decide,ly Tryz.func339⟩
 f28:=ly Tryz.func144
 f29:=ly Tryz.func145
 f46:=⟨Tryz.f369.name,by decide,ly Tryz.func369⟩
 f47:=ly Tryz.func219
 f48:=ly Tryz.func220
 f49:=⟨Tryz.f370.name,by decide,ly Tryz.func370⟩
 f50:=⟨Tryz.f371.name,by decide,ly Tryz.func371⟩
 f57:=⟨Tryz.f385.name,by decide,ly Tryz.func385⟩
 t0:=Tryz.underlying0
 a0:=Tryz.isAgg0
 z0:=Tryz.sizeOf0
 v0:=Tryz.zeroValue0
 t3:=Tryz.underlying3
 a3:=Tryz.isAgg3
 z3:=Tryz.sizeOf3
 v3:=Tryz.zeroValue3
 t4:=Tryz.underlying4
 a4:=Tryz.isAgg4
 z4:=Tryz.sizeOf4
 v4:=Tryz.zeroValue4
 t5:=Tryz.underlying5
 a5:=Tryz.isAgg5
 z5:=Tryz.sizeOf5
 v5:=Tryz.zeroValue5
 t9:=Tryz.underlying9
 a9:=Tryz.isAgg9
 z9:=Tryz.sizeOf9
 v9:=Tryz.zeroValue9
 t22:=Tryz.underlying57
 a22:=Tryz.isAgg57
 z22:=Tryz.sizeOf57
 v22:=Tryz.zeroValue57
 t25:=Tryz.underlying63
 a25:=Tryz.isAgg63
 z25:=Tryz.sizeOf63
 v25:=Tryz.zeroValue63
 t39:=Tryz.underlying174
 a39:=Tryz.isAgg174
 z39:=Tryz.sizeOf174
 v39:=Tryz.zeroValue174
 t45:=Tryz.underlying196
 a45:=Tryz.isAgg196
 z45:=Tryz.sizeOf196
 v45:=Tryz.zeroValue196
 t46:=Tryz.underlying197
 a46:=Tryz.isAgg197
 z46:=Tryz.sizeOf197
 v46:=Tryz.zeroValue197
 t50:=Tryz.underlying139
 a50:=Tryz.isAgg139
 z50:=Tryz.sizeOf139
 v50:=Tryz.zeroValue139
 t53:=Tryz.underlying203
 a53:=Tryz.isAgg203
 z53:=Tryz.sizeOf203
 v53:=Tryz.zeroValue203
 t55:=Tryz.underlying205
 a55:=Tryz.isAgg205
 z55:=Tryz.sizeOf205
 v55:=Tryz.zeroValue205
 t66:=Tryz.underlying272
 a66:=Tryz.isAgg272
 z66:=Tryz.sizeOf272
 v66:=Tryz.zeroValue272
 t70:=Tryz.underlying276
 a70:=Tryz.isAgg276
 z70:=Tryz.sizeOf276
 v70:=Tryz.zeroValue276
 t76:=Tryz.underlying329
 a76:=Tryz.isAgg329
 z76:=Tryz.sizeOf329
 v76:=Tryz.zeroValue329
 t77:=Tryz.underlying330
 a77:=Tryz.isAgg330
 z77:=Tryz.sizeOf330
 v77:=Tryz.zeroValue330 }
def Tryz.sortF_ren:Go.Shelf.Ren:=⟨fun | 6=>76 | 15=>88 | 14=>110 | 28=>144 | 29=>145 | 20=>176 | 21=>177 | 22=>178 | 23=>179 | 24=>180 | 25=>181 | 26=>182 | 27=>183 | 46=>251 | 47=>219 | 48=>220 | 49=>252 | 50=>253 | 57=>306 | n=>n,fun | 22=>104 | 24=>60 | 25=>152 | 3=>3 | 39=>174 | 0=>0 | 53=>203 | 55=>205 | 4=>4 | 46=>197 | 45=>196 | 50=>139 | 5=>5 | 9=>9 | 66=>272 | 70=>276 | 76=>329 | 77=>330 | n=>n,fun | n=>n⟩
theorem Tryz.sortF:Go.Proofs.SlLaysF0.n6 Tryz.prog Tryz.sortF_ren:={
 mixed:=by rfl
 f6:=⟨Tryz.f76.name,by decide,ly Tryz.func76⟩
 f14:=⟨Tryz.f110.name,by decide,ly Tryz.func110⟩
 f15:=ly Tryz.func88
 f20:=⟨Tryz.f176.name,by decide,ly Tryz.func176⟩
 f21:=⟨Tryz.f177.name,by decide,ly Tryz.func177⟩
 f22:=⟨Tryz.f178.name,by decide,ly Tryz.func178⟩
 f23:=⟨Tryz.f179.name,by decide,ly Tryz.func179⟩
 f24:=⟨Tryz.f180.name,by decide,ly Tryz.func180⟩
 f25:=⟨Tryz.f181.name,by decide,ly Tryz.func181⟩
 f26:=⟨Tryz.f182.name,by decide,ly Tryz.func182⟩
 f27:=⟨Tryz.f183.name,by decide,ly Tryz.func183⟩
 f28:=ly Tryz.func144
 f29:=ly Tryz.func145
 f46:=⟨Tryz.f251.name,by decide,ly Tryz.func251⟩
 f47:=ly Tryz.func219
 f48:=ly Tryz.func220
 f49:=⟨Tryz.f252.name,by decide,ly Tryz.func252⟩
 f50:=⟨Tryz.f253.name,by decide,ly Tryz.func253⟩
 f57:=⟨Tryz.f306.name,by decide,ly Tryz.func306⟩
 t0:=Tryz.underlying0
 a0:=Tryz.isAgg0
 z0:=Tryz.sizeOf0
 v0:=Tryz.zeroValue0
 t3:=Tryz.underlying3
 a3:=Tryz.isAgg3
 z3:=Tryz.sizeOf3
 v3:=Tryz.zeroValue3
 t4:=Tryz.underlying4
 a4:=Tryz.isAgg4
 z4:=Tryz.sizeOf4
 v4:=Tryz.zeroValue4
 t5:=Tryz.underlying5
 a5:=Tryz.isAgg5
 z5:=Tryz.sizeOf5
 v5:=Tryz.zeroValue5
 t9:=Tryz.underlying9
 a9:=Tryz.isAgg9
 z9:=Tryz.sizeOf9
 v9:=Tryz.zeroValue9
 t22:=Tryz.underlying104
 a22:=Tryz.isAgg104
 z22:=Tryz.sizeOf104
 v22:=Tryz.zeroValue104
 t25:=Tryz.underlying152
 a25:=Tryz.isAgg152
 z25:=Tryz.sizeOf152
 v25:=Tryz.zeroValue152
 t39:=Tryz.underlying174
 a39:=Tryz.isAgg174
 z39:=Tryz.sizeOf174
 v39:=Tryz.zeroValue174
 t45:=Tryz.underlying196
 a45:=Tryz.isAgg196
 z45:=Tryz.sizeOf196
 v45:=Tryz.zeroValue196
 t46:=Tryz.underlying197
 a46:=Tryz.isAgg197
 z46:=Tryz.sizeOf197
 v46:=Tryz.zeroValue197
 t50:=Tryz.underlying139
 a50:=Tryz.isAgg139
 z50:=Tryz.sizeOf139
 v50:=Tryz.zeroValue139
 t53:=Tryz.underlying203
 a53:=Tryz.isAgg203
 z53:=Tryz.sizeOf203
 v53:=Tryz.zeroValue203
 t55:=Tryz.underlying205
 a55:=Tryz.isAgg205
 z55:=Tryz.sizeOf205
 v55:=Tryz.zeroValue205
 t66:=Tryz.underlying272
 a66:=Tryz.isAgg272
 z66:=Tryz.sizeOf272
 v66:=Tryz.zeroValue272
 t70:=Tryz.underlying276
 a70:=Tryz.isAgg276
 z70:=Tryz.sizeOf276
 v70:=Tryz.zeroValue276
 t76:=Tryz.underlying329
 a76:=Tryz.isAgg329
 z76:=Tryz.sizeOf329
 v76:=Tryz.zeroValue329
 t77:=Tryz.underlying330
 a77:=Tryz.isAgg330
 z77:=Tryz.sizeOf330
 v77:=Tryz.zeroValue330 }
end Go.Proofs
