/- Merged out of my texts AD AFa AFb ASr ASv ASf. -/
import Derived.Test.YtkmihcpjkdkadaaGreatDoorKA
import Derived.Test.YtkmihcpjkdkadaaGreatDoorKVc
import Derived.Lib.Bytealg
import Derived.Test.YtkmihcpjkdkadaaGreatDoorKVd
import Derived.Test.YtkmihcpjkdkadaaGreatDoorProg
set_option linter.unusedSimpArgs false
set_option maxRecDepth 100000
set_option linter.defProp false
set_option maxHeartbeats 4000000
set_option linter.unusedVariables false
open Go.Proofs.Tryz
open Go.VL
namespace Go.Ar
abbrev Str:=ByteArray
abbrev vint (n:Int):V:=.lit (.int .i64 n)
abbrev qq (b:Bool):V:=.lit (.bool b)
abbrev vstr (s:Str):V:=.lit (.string s)
abbrev qGe (xs:List Int):V:=.list none 1 (xs.map fun x=>[vint x])
abbrev jV (xs:List Str):V:=.list none 1 (xs.map fun x=>[vstr x])
abbrev ptr (b:Nat):V:=.lit (.pointer (some ⟨b,0,none⟩))
abbrev nilS:V:=.lit (.slice none 0 0)
structure FID where
 src:Str
 seq:Int
 deriving DecidableEq
structure Val where
 kind:Int
 n:Int
 s:Str
 deriving DecidableEq
structure Rw where
 id:FID
 table:Str
 key:Str
 event:Int
 fields:List Val
 no:Int
 tick:Int
 deriving DecidableEq
structure Dlt where
 row:Rw
 tick:Int
 n:Int
 deriving DecidableEq
structure Grp where
 key:Str
 ds:List Dlt
 deriving DecidableEq
structure Arr where
 since:Int
 groups:List Grp
 deriving DecidableEq
abbrev Qc (i:FID):List V:=[vstr i.src,vint i.seq]
abbrev qS (v:Val):List V:=[vint v.kind,vint v.n,vstr v.s]
abbrev xT (l:List Val):V:=.list none 3 (l.map qS)
abbrev zJ (r:Rw):List V:=[vstr r.id.src,vint r.id.seq,vstr r.table,vstr r.key,vint r.event,xT r.fields,vint r.no,vint r.tick]
abbrev qZ (l:List Rw):V:=.list none 8 (l.map zJ)
abbrev qd9 (l:List FID):V:=.list none 2 (l.map Qc)
def less (a b:Str):Bool:=Op.bytesLess a.data.toList b.data.toList
def cmpI (a b:Int):Int:=if a < b then -1 else if b < a then 1 else 0
def cmpS (a b:Str):Int:=if less a b=true then -1 else if (less a b || decide (a=b))=true then 0 else 1
def orL:List Int->Int
 | []=>0
 | x::r=>if x=0 then orL r else x
def cmpID (a b:FID):Int:=if a=b then 0 else orL [cmpS a.src b.src,cmpI a.seq b.seq]
def cmpRow (a b:Rw):Int:=orL [cmpI a.event b.event,cmpID a.id b.id]
def cmpVal (a b:Val):Int:=orL [cmpI a.kind b.kind,cmpI a.n b.n,cmpS a.s b.s]
theorem Qd:∀ l:List UInt8,Op.bytesLess l l=false
 | []=>rfl
 | x::l=>by simp [Op.bytesLess,Qd l]
variable {a:Str}
theorem qfu:less a a=false:=Qd _
theorem qE9 {b:Str} (h:less a b=true):cmpS a b=-1:=by simp [cmpS,h]
theorem qa6 (a:Str):cmpS a a=0:=by simp [cmpS,qfu]
theorem qFa {b:Str} (h:less a b=false) (d:¬ a=b):cmpS a b=1:=by simp [cmpS,h,d]
theorem vV {b:Str}:cmpS a b=0↔a=b:=by
 constructor
 ·intro h;cases d:less a b
  ·by_cases e:a=b
   ·omega
   ·rw [qFa d e] at h;cases h
  ·rw [qE9 d] at h;cases h
 ·rintro rfl;exact qa6 a
theorem ji {a b:Int}:cmpI a b=0↔a=b:=by
 unfold cmpI;omega
theorem ZW {a b:FID}:cmpID a b=0↔a=b:=by
 unfold cmpID;constructor
 ·intro h;split at h
  ·omega
  ·simp only [orL] at h;cases a;cases b;split at h
   ·rename_i d;split at h
    ·rename_i e;have j:=vV.1 d;have k:=ji.1 e;simp_all
    omega
   omega
 simp_all
theorem qv {n:Int} (h:-9223372036854775808<=n) (a:n < 9223372036854775808):IntKind.i64.wrap n=n:=IntWalk.i64_in n ⟨h,by omega⟩
theorem qj {i N:Nat} (h:i < N) (a:N<=9223372036854775807:=by omega):IntKind.i64.wrap ((i:Int)+1)=((i+1:Nat):Int):=by
 rw [qv (by omega) (by omega)];rfl
theorem qc {v x:V} {e:Bx} {rs:List VL.Row} (h:v=x):∃ w a d,Le v w/\a.Sublist e/\d.Sublist rs/\w=x/\a=[]/\d=[] :=
 ⟨v,[],[],Le.refl _,zn _,zn _,h,rfl,rfl⟩
theorem Yq {v x:V} {e:Bx} {rs:List VL.Row} (h:Le v x):∃ w a d,Le v w/\a.Sublist e/\d.Sublist rs/\w=x/\a=[]/\d=[] :=
 ⟨x,[],[],h,zn _,zn _,rfl,rfl,rfl⟩
theorem qI {α:Type} (f:α->List V) (l:List α) (i:Nat) (h:i < l.length):(l.map f).getD i []=f l[i]:=by
 simp_all
end Go.Ar
open Go.Ar Go.Proofs.YtkmihcpjkdkadaaGreatDoor
namespace Go.Proofs.YtkmihcpjkdkadaaGreatDoor.Arr
theorem qnr (s:Str):zk prog 73 [vstr s] (qq false):=by
 refine oE func73 fun F d a=>?_;exact qe
theorem qns (s:Int):zk prog 74 [vint s] (qq false):=by
 refine oE func74 fun F d a=>?_;exact qe
theorem JM (a b:Int):zk prog 41 [vint a,vint b] (vint (cmpI a b)):=by
 refine oE func41 fun F k j=>?_;refine qi _ (qns a) ?_;refine qi _ (qns b) ?_;by_cases d:a < b
 ·exact qe (h:=by simp [cmpI,d])
 ·by_cases e:b < a
  ·exact qe (h:=by simp [cmpI,d,e])
  ·exact qe (h:=by simp [cmpI,d,e])
theorem qE8 (a b:Str):zk prog 40 [vstr a,vstr b] (vint (cmpS a b)):=by
 refine oE func40 fun F k j=>?_;refine qi _ (qnr a) ?_;refine qi _ (qnr b) ?_;cases d:Op.bytesLess a.data.toList b.data.toList
 ·by_cases e:a=b
  ·subst e;exact qe (h:=by simp [cmpS,less,d])
  ·exact qe (h:=by simp [cmpS,less,d,e])
 ·exact qe (h:=by simp [cmpS,less,d])
theorem qv5 (l:List Int) (p:l.length<=9223372036854775807):zk prog 39 [qGe l] (vint (orL l)):=by
 refine oE func39 fun F u q=>?_;refine qa ?_;refine qG Ty.mixed (by rfl) l.length (fun i S=>S.σ 6=qGe l/\S.σ 7=vint l.length/\S.σ 8=vint i/\S.σ 3=vint 0/\S.boxes=[]/\orL l=orL (l.drop i)) ⟨0,?_⟩ (fun i S j ⟨n,d,e,a,h,k⟩=>?_) (fun S ⟨n,d,e,a,h,k⟩=>?_)
 ·exact qA
 ·have hd:l.drop i=l[i]::l.drop (i+1):=qGt j;rw [hd,orL] at k;by_cases o:l[i]=0
  ·simp only [↓rA,rU,n,d,e,a,h,zq,j,o,qj j p,simprocAttr];simp_all
  ·simp only [↓rA,rU,n,d,e,a,h,zq,j,o,simprocAttr];exact qc (by rw [k,if_neg o])
 ·simp only [↓rA,rU,d,e,a,h,zq,WR,simprocAttr];exact qc (by rw [k];simp [orL])
theorem Jw:∀ a b:List UInt8,Go.Lib.compareBytes a b=if Op.bytesLess a b=true then -1 else if (Op.bytesLess a b || decide (a=b))=true then 0 else 1:=by
 intro a
 induction a with
 | nil=>intro b;cases b <;> simp [Go.Lib.compareBytes,Op.bytesLess]
 | cons x a j =>
  intro b;cases b with
  | nil=>rfl
  | cons y b =>
   simp only [Go.Lib.compareBytes,Op.bytesLess];have:=j b;by_cases d:x < y
   ·simp [d]
   ·by_cases h:x=y
    ·simp_all
    ·have k:y < x:=by
      rw [qRq] at d ⊢;have:x.toNat ≠ y.toNat:=fun e=>h (UInt8.toNat_inj.1 e);omega
     simp_all
theorem qix (S:St) (a b:Str):qib prog S 310 [vstr a,vstr b] (vint (cmpS a b)):=by
 intro w I j _ d;have:j=[.string a,.string b]:=qcw d;subst this;refine⟨.int .i64 (cmpS a b),w,?_,.inl rfl,by rfl⟩;rw [run_callFunc_extern func310 (by rfl) (by rfl) (by kernel_rfl) (e:=Extern.BytealgCompare.compare) (by kernel_rfl)];rw [Go.Lib.run_compareString (P:=prog) a b w];simp only [Result.andThen,Jw,cmpS,less];have:decide (a.data.toList=b.data.toList)=decide (a=b):=by
  rw [qOg,decide_eq_true_eq,decide_eq_true_eq];exact⟨fun h=>qRp (qMc h),fun h=>by rw [h]⟩
 simp_all
theorem qdb (a b:Str):zk prog 258 [vstr a,vstr b] (vint (cmpS a b)):=by
 refine oE func258 fun F e d=>?_;refine qa ?_;refine QL _ (qix _ a b) ?_;exact qe
theorem X3 (a b:Str):zk prog 191 [vstr a,vstr b] (vint (cmpS a b)):=by
 refine oE func191 fun F e d=>?_;refine qi _ (qdb a b) ?_;exact qe
theorem qhi (a b:FID):zk prog 20 [.agg (Qc a),.agg (Qc b)] (vint (cmpID a b)):=by
 refine oE func20 fun F q j=>?_;refine qb fun k o=>?_;refine qb fun n p=>?_;refine qa ?_;apply qf <;> intro d
 ·refine qa ?_;simp only [k7,decide_eq_true_eq] at d;have:a=b:=by cases a;cases b;simp_all
  exact qc (by simp [cmpID,this])
 ·have:¬ a=b:=fun e=>by simp_all
  refine qa ?_;refine qt _ (qE8 a.src b.src).v ?_;refine qa ?_;refine qt _ (JM a.seq b.seq).v ?_;refine qa ?_;refine qt _ (qv5 [cmpS a.src b.src,cmpI a.seq b.seq] (by simp)).v ?_;exact qe (h:=by simp [cmpID,this])
theorem qs6 (a b:Rw):zk prog 34 [.agg (zJ a),.agg (zJ b)] (vint (cmpRow a b)):=by
 refine oE func34 fun F n d=>?_;refine qb fun e j=>?_;refine qb fun h k=>?_;refine qa ?_;refine qt _ (JM a.event b.event).v ?_;refine qa ?_;refine qt _ (qhi a.id b.id).v ?_;refine qa ?_;refine qt _ (qv5 [cmpI a.event b.event,cmpID a.id b.id] (by simp)).v ?_;exact qe
theorem qa5 (a b:Val):zk prog 119 [.agg (qS a),.agg (qS b)] (vint (cmpVal a b)):=by
 refine oE func119 fun F n d=>?_;refine qb fun e j=>?_;refine qb fun h k=>?_;refine qa ?_;refine qt _ (JM a.kind b.kind).v ?_;refine qa ?_;refine qt _ (JM a.n b.n).v ?_;refine qa ?_;refine qt _ (X3 a.s b.s).v ?_;refine qa ?_;refine qt _ (qv5 [cmpI a.kind b.kind,cmpI a.n b.n,cmpS a.s b.s] (by simp)).v ?_;exact qe
end Go.Proofs.YtkmihcpjkdkadaaGreatDoor.Arr
namespace Go.Proofs
open Go.Shelf
def Tryz.sortR_ren:Go.Shelf.Ren:=⟨fun | 6=>33 | 15=>38 | 14=>56 | 28=>71 | 29=>72 | 20=>101 | 21=>102 | 22=>103 | 23=>104 | 24=>105 | 25=>106 | 26=>107 | 27=>108 | 46=>176 | 47=>135 | 48=>136 | 49=>177 | 50=>178 | 57=>251 | n=>n,fun | 22=>29 | 24=>65 | 25=>99 | 3=>3 | 39=>109 | 0=>0 | 53=>155 | 55=>157 | 4=>4 | 46=>148 | 45=>147 | 50=>152 | 5=>5 | 9=>9 | 66=>206 | 70=>210 | 76=>269 | 77=>270 | n=>n,fun | n=>n⟩
theorem Tryz.sortR:Go.Proofs.SlLaysF0.n6 Tryz.prog Tryz.sortR_ren:={
 mixed:=by rfl
 f6:=⟨Tryz.f33.name,by decide,ly Tryz.func33⟩
 f14:=⟨Tryz.f56.name,by decide,ly Tryz.func56⟩
 f15:=ly Tryz.func38
 f20:=⟨Tryz.f101.name,by decide,ly Tryz.func101⟩
 f21:=⟨Tryz.f102.name,by decide,ly Tryz.func102⟩
 f22:=⟨Tryz.f103.name,by decide,ly Tryz.func103⟩
 f23:=⟨Tryz.f104.name,by decide,ly Tryz.func104⟩
 f24:=⟨Tryz.f105.name,by decide,ly Tryz.func105⟩
 f25:=⟨Tryz.f106.name,by decide,ly Tryz.func106⟩
 f26:=⟨Tryz.f107.name,by decide,ly Tryz.func107⟩
 f27:=⟨Tryz.f108.name,by decide,ly Tryz.func108⟩
 f28:=ly Tryz.func71
 f29:=ly Tryz.func72
 f46:=⟨Tryz.f176.name,by decide,ly Tryz.func176⟩
 f47:=ly Tryz.func135
 f48:=ly Tryz.func136
 f49:=⟨Tryz.f177.name,by decide,ly Tryz.func177⟩
 f50:=⟨Tryz.f178.name,by decide,ly Tryz.func178⟩
 f57:=⟨Tryz.f251.name,by decide,ly Tryz.func251⟩
 t0:=Tryz.underlying0
 a0:=Tryz.isAgg0
 z0:=Tryz.sizeOf0
 v0:=Tryz.zeroValue0
 t3:=Tryz.underlying3
 a3:=Tryz.isAgg3
 z3:=Tryz.sizeOf3
 v3:=Tryz.zeroValue3
 t4:=Tryz.underlying4
 a4:=Tryz.isAgg4
 z4:=Tryz.sizeOf4
 v4:=Tryz.zeroValue4
 t5:=Tryz.underlying5
 a5:=Tryz.isAgg5
 z5:=Tryz.sizeOf5
 v5:=Tryz.zeroValue5
 t9:=Tryz.underlying9
 a9:=Tryz.isAgg9
 z9:=Tryz.sizeOf9
 v9:=Tryz.zeroValue9
 t22:=Tryz.underlying29
 a22:=Tryz.isAgg29
 z22:=Tryz.sizeOf29
 v22:=Tryz.zeroValue29
 t25:=Tryz.underlying99
 a25:=Tryz.isAgg99
 z25:=Tryz.sizeOf99
 v25:=Tryz.zeroValue99
 t39:=Tryz.underlying109
 a39:=Tryz.isAgg109
 z39:=Tryz.sizeOf109
 v39:=Tryz.zeroValue109
 t45:=Tryz.underlying147
 a45:=Tryz.isAgg147
 z45:=Tryz.sizeOf147
 v45:=Tryz.zeroValue147
 t46:=Tryz.underlying148
 a46:=Tryz.isAgg148
 z46:=Tryz.sizeOf148
 v46:=Tryz.zeroValue148
 t50:=Tryz.underlying152
 a50:=Tryz.isAgg152
 z50:=Tryz.sizeOf152
 v50:=Tryz.zeroValue152
 t53:=Tryz.underlying155
 a53:=Tryz.isAgg155
 z53:=Tryz.sizeOf155
 v53:=Tryz.zeroValue155
 t55:=Tryz.underlying157
 a55:=Tryz.isAgg157
 z55:=Tryz.sizeOf157
 v55:=Tryz.zeroValue157
 t66:=Tryz.underlying206
 a66:=Tryz.isAgg206
 z66:=Tryz.sizeOf206
 v66:=Tryz.zeroValue206
 t70:=Tryz.underlying210
 a70:=Tryz.isAgg210
 z70:=Tryz.sizeOf210
 v70:=Tryz.zeroValue210
 t76:=Tryz.underlying269
 a76:=Tryz.isAgg269
 z76:=Tryz.sizeOf269
 v76:=Tryz.zeroValue269
 t77:=Tryz.underlying270
 a77:=Tryz.isAgg270
 z77:=Tryz.sizeOf270
 v77:=Tryz.zeroValue270 }
def Tryz.sortV_ren:Go.Shelf.Ren:=⟨fun | 6=>189 | 15=>38 | 14=>257 | 28=>71 | 29=>72 | 20=>302 | 21=>303 | 22=>304 | 23=>305 | 24=>306 | 25=>307 | 26=>308 | 27=>309 | 46=>357 | 47=>135 | 48=>136 | 49=>358 | 50=>359 | 57=>382 | n=>n,fun | 22=>63 | 24=>35 | 25=>192 | 3=>3 | 39=>109 | 0=>0 | 53=>155 | 55=>157 | 4=>4 | 46=>148 | 45=>147 | 50=>152 | 5=>5 | 9=>9 | 66=>206 | 70=>210 | 76=>269 | 77=>270 | n=>n,fun | n=>n⟩
theorem Tryz.sortV:Go.Proofs.SlLaysF0.n6 Tryz.prog Tryz.sortV_ren:={
 mixed:=by rfl
 f6:=⟨Tryz.f189.name,by decide,ly Tryz.func189⟩
 f14:=⟨Tryz.f257.name,by decide,ly Tryz.func257⟩
 f15:=ly Tryz.func38
 f20:=⟨Tryz.f302.name,by decide,ly Tryz.func302⟩
 f21:=⟨Tryz.f303.name,by decide,ly Tryz.func303⟩
 f22:=⟨Tryz.f304.name,by decide,ly Tryz.func304⟩
 f23:=⟨Tryz.f305.name,by decide,ly Tryz.func305⟩
 f24:=⟨Tryz.f306.name,by decide,ly Tryz.func306⟩
 f25:=⟨Tryz.f307.name,by decide,ly Tryz.func307⟩
 f26:=⟨Tryz.f308.name,by decide,ly Tryz.func308⟩
 f27:=⟨Tryz.f309.name,by decide,ly Tryz.func309⟩
 f28:=ly Tryz.func71
 f29:=ly Tryz.func72
 f46:=⟨Tryz.f357.name,by decide,ly Tryz.func357⟩
 f47:=ly Tryz.func135
 f48:=ly Tryz.func136
 f49:=⟨Tryz.f358.name,by decide,ly Tryz.func358⟩
 f50:=⟨Tryz.f359.name,by decide,ly Tryz.func359⟩
 f57:=⟨Tryz.f382.name,by decide,ly Tryz.func382⟩
 t0:=Tryz.underlying0
 a0:=Tryz.isAgg0
 z0:=Tryz.sizeOf0
 v0:=Tryz.zeroValue0
 t3:=Tryz.underlying3
 a3:=Tryz.isAgg3
 z3:=Tryz.sizeOf3
 v3:=Tryz.zeroValue3
 t4:=Tryz.underlying4
 a4:=Tryz.isAgg4
 z4:=Tryz.sizeOf4
 v4:=Tryz.zeroValue4
 t5:=Tryz.underlying5
 a5:=Tryz.isAgg5
 z5:=Tryz.sizeOf5
 v5:=Tryz.zeroValue5
 t9:=Tryz.underlying9
 a9:=Tryz.isAgg9
 z9:=Tryz.sizeOf9
 v9:=Tryz.zeroValue9
 t22:=Tryz.underlying63
 a22:=Tryz.isAgg63
 z22:=Tryz.sizeOf63
 v22:=Tryz.zeroValue63
 t25:=Tryz.underlying192
 a25:=Tryz.isAgg192
 z25:=Tryz.sizeOf192
 v25:=Tryz.zeroValue192
 t39:=Tryz.underlying109
 a39:=Tryz.isAgg109
 z39:=Tryz.sizeOf109
 v39:=Tryz.zeroValue109
 t45:=Tryz.underlying147
 a45:=Tryz.isAgg147
 z45:=Tryz.sizeOf147
 v45:=Tryz.zeroValue147
 t46:=Tryz.underlying148
 a46:=Tryz.isAgg148
 z46:=Tryz.sizeOf148
 v46:=Tryz.zeroValue148
 t50:=Tryz.underlying152
 a50:=Tryz.isAgg152
 z50:=Tryz.sizeOf152
 v50:=Tryz.zeroValue152
 t53:=Tryz.underlying155
 a53:=Tryz.isAgg155
 z53:=Tryz.sizeOf155
 v53:=Tryz.zeroValue155
 t55:=Tryz.underlying157
 a55:=Tryz.isAgg157
 z55:=Tryz.sizeOf157
 v55:=Tryz.zeroValue157
 t66:=Tryz.underlying206
 a66:=Tryz.isAgg206
 z66:=Tryz.sizeOf206
 v66:=Tryz.zeroValue206
 t70:=Tryz.underlying210
 a70:=Tryz.isAgg210
 z70:=Tryz.sizeOf210
 v70:=Tryz.zeroValue210
 t76:=Tryz.underlying269
 a76:=Tryz.isAgg269
 z76:=Tryz.sizeOf269
 v76:=Tryz.zeroValue269
 t77:=Tryz.underlying270
 a77:=Tryz.isAgg270
 z77:=Tryz.sizeOf270
 v77:=Tryz.zeroValue270 }
def Tryz.sortF_ren:Go.Shelf.Ren:=⟨fun | 6=>19 | 15=>38 | 14=>37 | 28=>71 | 29=>72 | 20=>63 | 21=>64 | 22=>65 | 23=>66 | 24=>67 | 25=>68 | 26=>69 | 27=>70 | 46=>134 | 47=>135 | 48=>136 | 49=>137 | 50=>138 | 57=>204 | n=>n,fun | 22=>43 | 24=>62 | 25=>74 | 3=>3 | 39=>109 | 0=>0 | 53=>155 | 55=>157 | 4=>4 | 46=>148 | 45=>147 | 50=>152 | 5=>5 | 9=>9 | 66=>206 | 70=>210 | 76=>269 | 77=>270 | n=>n,fun | n=>n⟩
theorem Tryz.sortF:Go.Proofs.SlLaysF0.n6 Tryz.prog Tryz.sortF_ren:={
 mixed:=by rfl
 f6:=⟨Tryz.f19.name,by decide,ly Tryz.func19⟩
 f14:=⟨Tryz.f37.name,by decide,ly Tryz.func37⟩
 f15:=ly Tryz.func38
 f20:=⟨Tryz.f63.name,by decide,ly Tryz.func63⟩
 f21:=⟨Tryz.f64.name,by decide,ly Tryz.func64⟩
 f22:=⟨Tryz.f65.name,by decide,ly Tryz.func65⟩
 f23:=⟨Tryz.f66.name,by decide,ly Tryz.func66⟩
 f24:=⟨Tryz.f67.name,by decide,ly Tryz.func67⟩
 f25:=⟨Tryz.f68.name,by decide,ly Tryz.func68⟩
 f26:=⟨Tryz.f69.name,by decide,ly Tryz.func69⟩
 f27:=⟨Tryz.f70.name,by decide,ly Tryz.func70⟩
 f28:=ly Tryz.func71
 f29:=ly Tryz.func72
 f46:=⟨Tryz.f134.name,by decide,ly Tryz.func134⟩
 f47:=ly Tryz.func135
 f48:=ly Tryz.func136
 f49:=⟨Tryz.f137.name,by decide,ly Tryz.func137⟩
 f50:=⟨Tryz.f138.name,by decide,ly Tryz.func138⟩
 f57:=⟨Tryz.f204.name,by decide,ly Tryz.func204⟩
 t0:=Tryz.underlying0
 a0:=Tryz.isAgg0
 z0:=Tryz.sizeOf0
 v0:=Tryz.zeroValue0
 t3:=Tryz.underlying3
 a3:=Tryz.isAgg3
 z3:=Tryz.sizeOf3
 v3:=Tryz.zeroValue3
 t4:=Tryz.underlying4
 a4:=Tryz.isAgg4
 z4:=Tryz.sizeOf4
 v4:=Tryz.zeroValue4
 t5:=Tryz.underlying5
 a5:=Tryz.isAgg5
 z5:=Tryz.sizeOf5
 v5:=Tryz.zeroValue5
 t9:=Tryz.underlying9
 a9:=Tryz.isAgg9
 z9:=Tryz.sizeOf9
 v9:=Tryz.zeroValue9
 t22:=Tryz.underlying43
 a22:=Tryz.isAgg43
 z22:=Tryz.sizeOf43
 v22:=Tryz.zeroValue43
 t25:=Tryz.underlying74
 a25:=Tryz.isAgg74
 z25:=Tryz.sizeOf74
 v25:=Tryz.zeroValue74
 t39:=Tryz.underlying109
 a39:=Tryz.isAgg109
 z39:=Tryz.sizeOf109
 v39:=Tryz.zeroValue109
 t45:=Tryz.underlying147
 a45:=Tryz.isAgg147
 z45:=Tryz.sizeOf147
 v45:=Tryz.zeroValue147
 t46:=Tryz.underlying148
 a46:=Tryz.isAgg148
 z46:=Tryz.sizeOf148
 v46:=Tryz.zeroValue148
 t50:=Tryz.underlying152
 a50:=Tryz.isAgg152
 z50:=Tryz.sizeOf152
 v50:=Tryz.zeroValue152
 t53:=Tryz.underlying155
 a53:=Tryz.isAgg155
 z53:=Tryz.sizeOf155
 v53:=Tryz.zeroValue155
 t55:=Tryz.underlying157
 a55:=Tryz.isAgg157
 z55:=Tryz.sizeOf157
 v55:=Tryz.zeroValue157
 t66:=Tryz.underlying206
 a66:=Tryz.isAgg206
 z66:=Tryz.sizeOf206
 v66:=Tryz.zeroValue206
 t70:=Tryz.underlying210
 a70:=Tryz.isAgg210
 z70:=Tryz.sizeOf210
 v70:=Tryz.zeroValue210
 t76:=Tryz.underlying269
 a76:=Tryz.isAgg269
 z76:=Tryz.sizeOf269
 v76:=Tryz.zeroValue269
 t77:=Tryz.underlying270
 a77:=Tryz.isAgg270
 z77:=Tryz.sizeOf270
 v77:=Tryz.zeroValue270 }
end Go.Proofs
