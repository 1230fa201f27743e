/- Merged out of my texts AD AFa AFb ASr ASv ASf. -/
import Derived.Test.YtimknncpjakckaaGreatDoorKA
import Derived.Test.YtimknncpjakckaaGreatDoorKVc
import Derived.Lib.Bytealg
import Derived.Test.YtimknncpjakckaaGreatDoorKVd
import Derived.Test.YtimknncpjakckaaGreatDoorProg
set_option linter.unusedSimpArgs false
set_option maxRecDepth 100000
set_option linter.defProp false
set_option maxHeartbeats 4000000
set_option linter.unusedVariables false
open Go.Proofs.Tryz
namespace Go.Ar
open Go.VL
abbrev Str:=ByteArray
abbrev vint (n:Int):V:=.lit (.int .i64 n)
abbrev qq (b:Bool):V:=.lit (.bool b)
abbrev vstr (s:Str):V:=.lit (.string s)
abbrev qGe (xs:List Int):V:=.list none 1 (xs.map fun x=>[vint x])
abbrev jV (xs:List Str):V:=.list none 1 (xs.map fun x=>[vstr x])
abbrev ptr (b:Nat):V:=.lit (.pointer (some ⟨b,0,none⟩))
abbrev nilS:V:=.lit (.slice none 0 0)
structure FID where
 src:Str
 seq:Int
 deriving DecidableEq
structure Val where
 kind:Int
 n:Int
 s:Str
 deriving DecidableEq
structure Rw where
 id:FID
 table:Str
 key:Str
 event:Int
 fields:List Val
 no:Int
 tick:Int
 deriving DecidableEq
structure Dlt where
 row:Rw
 tick:Int
 n:Int
 deriving DecidableEq
structure Grp where
 key:Str
 ds:List Dlt
 deriving DecidableEq
structure Arr where
 since:Int
 groups:List Grp
 deriving DecidableEq
abbrev Qc (i:FID):List V:=[vstr i.src,vint i.seq]
abbrev qS (v:Val):List V:=[vint v.kind,vint v.n,vstr v.s]
abbrev xT (l:List Val):V:=.list none 3 (l.map qS)
abbrev zJ (r:Rw):List V:=[vstr r.id.src,vint r.id.seq,vstr r.table,vstr r.key,vint r.event,xT r.fields,vint r.no,vint r.tick]
abbrev qZ (l:List Rw):V:=.list none 8 (l.map zJ)
abbrev qd9 (l:List FID):V:=.list none 2 (l.map Qc)
def less (a b:Str):Bool:=Op.bytesLess a.data.toList b.data.toList
def cmpI (a b:Int):Int:=if a < b then -1 else if b < a then 1 else 0
def cmpS (a b:Str):Int:=if less a b=true then -1 else if (less a b || decide (a=b))=true then 0 else 1
def orL:List Int->Int
 | []=>0
 | x::r=>if x=0 then orL r else x
def cmpID (a b:FID):Int:=if a=b then 0 else orL [cmpS a.src b.src,cmpI a.seq b.seq]
def cmpRow (a b:Rw):Int:=orL [cmpI a.event b.event,cmpID a.id b.id]
def cmpVal (a b:Val):Int:=orL [cmpI a.kind b.kind,cmpI a.n b.n,cmpS a.s b.s]
theorem Qd:∀ l:List UInt8,Op.bytesLess l l=false
 | []=>rfl
 | x::l=>by simp [Op.bytesLess,Qd l]
theorem qfu (a:Str):less a a=false:=Qd _
theorem qE9 {a b:Str} (h:less a b=true):cmpS a b=-1:=by simp [cmpS,h]
theorem qa6 (a:Str):cmpS a a=0:=by simp [cmpS,qfu]
theorem qFa {a b:Str} (h:less a b=false) (d:¬ a=b):cmpS a b=1:=by simp [cmpS,h,d]
theorem vV {a b:Str}:cmpS a b=0↔a=b:=by
 constructor
 ·intro h;cases d:less a b
  ·by_cases e:a=b
   ·omega
   ·rw [qFa d e] at h;cases h
  ·rw [qE9 d] at h;cases h
 ·rintro rfl;exact qa6 a
theorem ji {a b:Int}:cmpI a b=0↔a=b:=by
 unfold cmpI;omega
theorem ZW {a b:FID}:cmpID a b=0↔a=b:=by
 unfold cmpID;constructor
 ·intro h;split at h
  ·omega
  ·simp only [orL] at h;cases a;cases b;split at h
   ·rename_i d;split at h
    ·rename_i e;have j:=vV.1 d;have k:=ji.1 e;simp_all
    omega
   omega
 simp_all
theorem qv {n:Int} (h:-9223372036854775808<=n) (a:n < 9223372036854775808):IntKind.i64.wrap n=n:=IntWalk.i64_in n ⟨h,by omega⟩
theorem qj {i N:Nat} (h:i < N) (a:N<=9223372036854775807:=by omega):IntKind.i64.wrap ((i:Int)+1)=((i+1:Nat):Int):=by
 rw [qv (by omega) (by omega)];rfl
theorem qc {v x:V} {e:Bx} {rs:List VL.Row} (h:v=x):∃ w a d,Le v w/\a.Sublist e/\d.Sublist rs/\w=x/\a=[]/\d=[] :=
 ⟨v,[],[],Le.refl _,zn _,zn _,h,rfl,rfl⟩
theorem Yq {v x:V} {e:Bx} {rs:List VL.Row} (h:Le v x):∃ w a d,Le v w/\a.Sublist e/\d.Sublist rs/\w=x/\a=[]/\d=[] :=
 ⟨x,[],[],h,zn _,zn _,rfl,rfl,rfl⟩
theorem qI {α:Type} (f:α->List V) (l:List α) (i:Nat) (h:i < l.length):(l.map f).getD i []=f l[i]:=by
 simp_all
end Go.Ar
namespace Go.Proofs.YtimknncpjakckaaGreatDoor.Arr
open Go.VL Go.Ar Go.Proofs.YtimknncpjakckaaGreatDoor Go.Proofs.YtimknncpjakckaaGreatDoor.Arr
theorem qnr (s:Str):zk prog 134 [vstr s] (qq false):=by
 refine oE func134 fun F d a=>?_;exact qe
theorem qns (s:Int):zk prog 99 [vint s] (qq false):=by
 refine oE func99 fun F d a=>?_;exact qe
theorem JM (a b:Int):zk prog 54 [vint a,vint b] (vint (cmpI a b)):=by
 refine oE func54 fun F k j=>?_;refine qi _ (qns a) ?_;refine qi _ (qns b) ?_;by_cases d:a < b
 ·exact qe (h:=by simp [cmpI,d])
 ·by_cases e:b < a
  ·exact qe (h:=by simp [cmpI,d,e])
  ·exact qe (h:=by simp [cmpI,d,e])
theorem qE8 (a b:Str):zk prog 63 [vstr a,vstr b] (vint (cmpS a b)):=by
 refine oE func63 fun F k j=>?_;refine qi _ (qnr a) ?_;refine qi _ (qnr b) ?_;cases d:Op.bytesLess a.data.toList b.data.toList
 ·by_cases e:a=b
  ·subst e;exact qe (h:=by simp [cmpS,less,d])
  ·exact qe (h:=by simp [cmpS,less,d,e])
 ·exact qe (h:=by simp [cmpS,less,d])
theorem qv5 (l:List Int) (p:l.length<=9223372036854775807):zk prog 53 [qGe l] (vint (orL l)):=by
 refine oE func53 fun F u q=>?_;refine qa ?_;refine qG Ty.mixed (by rfl) l.length (fun i S=>S.σ 6=qGe l/\S.σ 7=vint l.length/\S.σ 8=vint i/\S.σ 3=vint 0/\S.boxes=[]/\orL l=orL (l.drop i)) ⟨0,?_⟩ (fun i S j ⟨n,d,e,a,h,k⟩=>?_) (fun S ⟨n,d,e,a,h,k⟩=>?_)
 ·exact qA
 ·have hd:l.drop i=l[i]::l.drop (i+1):=qGt j;rw [hd,orL] at k;by_cases o:l[i]=0
  ·simp only [↓rA,rU,n,d,e,a,h,zq,j,o,qj j p,simprocAttr];simp_all
  ·simp only [↓rA,rU,n,d,e,a,h,zq,j,o,simprocAttr];exact qc (by rw [k,if_neg o])
 ·simp only [↓rA,rU,d,e,a,h,zq,WR,simprocAttr];exact qc (by rw [k];simp [orL])
theorem Jw:∀ a b:List UInt8,Go.Lib.compareBytes a b=if Op.bytesLess a b=true then -1 else if (Op.bytesLess a b || decide (a=b))=true then 0 else 1:=by
 intro a
 induction a with
 | nil=>intro b;cases b <;> simp [Go.Lib.compareBytes,Op.bytesLess]
 | cons x a j =>
  intro b;cases b with
  | nil=>rfl
  | cons y b =>
   simp only [Go.Lib.compareBytes,Op.bytesLess];have:=j b;by_cases d:x < y
   ·simp [d]
   ·by_cases h:x=y
    ·simp_all
    ·have k:y < x:=by
      rw [qRq] at d ⊢;have:x.toNat ≠ y.toNat:=fun e=>h (UInt8.toNat_inj.1 e);omega
     simp_all
theorem qix (S:St) (a b:Str):qib prog S 307 [vstr a,vstr b] (vint (cmpS a b)):=by
 intro w I j _ d;have:j=[.string a,.string b]:=by
  match j,d with
  | [x,y],d=>simp only [V.reps,V.rep,and_true] at d;simp_all
  | [],d=>simp [V.reps] at d
  | [_],d=>simp [V.reps] at d
  | _::_::_::_,d=>simp [V.reps] at d
 subst this;refine⟨.int .i64 (cmpS a b),w,?_,.inl rfl,by rfl⟩;rw [run_callFunc_extern func307 (by rfl) (by rfl) (by kernel_rfl) (e:=Extern.BytealgCompare.compare) (by kernel_rfl)];rw [Go.Lib.run_compareString (P:=prog) a b w];simp only [Result.andThen,Jw,cmpS,less];have:decide (a.data.toList=b.data.toList)=decide (a=b):=by
  rw [qOg,decide_eq_true_eq,decide_eq_true_eq];exact⟨fun h=>qRp (qMc h),fun h=>by rw [h]⟩
 simp_all
theorem qdb (a b:Str):zk prog 254 [vstr a,vstr b] (vint (cmpS a b)):=by
 refine oE func254 fun F e d=>?_;refine qa ?_;refine QL _ (qix _ a b) ?_;exact qe
theorem X3 (a b:Str):zk prog 185 [vstr a,vstr b] (vint (cmpS a b)):=by
 refine oE func185 fun F e d=>?_;refine qi _ (qdb a b) ?_;exact qe
theorem qhi (a b:FID):zk prog 41 [.agg (Qc a),.agg (Qc b)] (vint (cmpID a b)):=by
 refine oE func41 fun F q j=>?_;refine qb fun k o=>?_;refine qb fun n p=>?_;refine qa ?_;apply qf <;> intro d
 ·refine qa ?_;simp only [k7,decide_eq_true_eq] at d;have:a=b:=by cases a;cases b;simp_all
  exact qc (by simp [cmpID,this])
 ·have:¬ a=b:=fun e=>by simp_all
  refine qa ?_;refine qt _ (qE8 a.src b.src).v ?_;refine qa ?_;refine qt _ (JM a.seq b.seq).v ?_;refine qa ?_;refine qt _ (qv5 [cmpS a.src b.src,cmpI a.seq b.seq] (by simp)).v ?_;exact qe (h:=by simp [cmpID,this])
theorem qs6 (a b:Rw):zk prog 33 [.agg (zJ a),.agg (zJ b)] (vint (cmpRow a b)):=by
 refine oE func33 fun F n d=>?_;refine qb fun e j=>?_;refine qb fun h k=>?_;refine qa ?_;refine qt _ (JM a.event b.event).v ?_;refine qa ?_;refine qt _ (qhi a.id b.id).v ?_;refine qa ?_;refine qt _ (qv5 [cmpI a.event b.event,cmpID a.id b.id] (by simp)).v ?_;exact qe
theorem qa5 (a b:Val):zk prog 109 [.agg (qS a),.agg (qS b)] (vint (cmpVal a b)):=by
 refine oE func109 fun F n d=>?_;refine qb fun e j=>?_;refine qb fun h k=>?_;refine qa ?_;refine qt _ (JM a.kind b.kind).v ?_;refine qa ?_;refine qt _ (JM a.n b.n).v ?_;refine qa ?_;refine qt _ (X3 a.s b.s).v ?_;refine qa ?_;refine qt _ (qv5 [cmpI a.kind b.kind,cmpI a.n b.n,cmpS a.s b.s] (by simp)).v ?_;exact qe
end Go.Proofs.YtimknncpjakckaaGreatDoor.Arr
namespace Go.Proofs
open Go.Shelf
def Tryz.sortR_ren:Go.Shelf.Ren:=⟨fun | 6=>32 | 15=>52 | 14=>51 | 28=>97 | 29=>98 | 20=>89 | 21=>90 | 22=>91 | 23=>92 | 24=>93 | 25=>94 | 26=>95 | 27=>96 | 46=>170 | 47=>171 | 48=>172 | 49=>173 | 50=>174 | 57=>247 | n=>n,fun | 22=>29 | 24=>67 | 25=>101 | 3=>3 | 39=>138 | 0=>0 | 53=>167 | 55=>169 | 4=>4 | 46=>160 | 45=>159 | 50=>164 | 5=>5 | 9=>9 | 66=>241 | 70=>245 | 76=>305 | 77=>306 | n=>n,fun | n=>n⟩
theorem Tryz.sortR:Go.Proofs.SlLaysF0.n6 Tryz.prog Tryz.sortR_ren:={
 mixed:=by rfl
 f6:=⟨Tryz.f32.name,by decide,Tryz.func32.trans (congrArg some (by rfl))⟩
 f14:=⟨Tryz.f51.name,by decide,Tryz.func51.trans (congrArg some (by rfl))⟩
 f15:=Tryz.func52.trans (congrArg some (by rfl))
 f20:=⟨Tryz.f89.name,by decide,Tryz.func89.trans (congrArg some (by rfl))⟩
 f21:=⟨Tryz.f90.name,by decide,Tryz.func90.trans (congrArg some (by rfl))⟩
 f22:=⟨Tryz.f91.name,by decide,Tryz.func91.trans (congrArg some (by rfl))⟩
 f23:=⟨Tryz.f92.name,by decide,Tryz.func92.trans (congrArg some (by rfl))⟩
 f24:=⟨Tryz.f93.name,by decide,Tryz.func93.trans (congrArg some (by rfl))⟩
 f25:=⟨Tryz.f94.name,by decide,Tryz.func94.trans (congrArg some (by rfl))⟩
 f26:=⟨Tryz.f95.name,by decide,Tryz.func95.trans (congrArg some (by rfl))⟩
 f27:=⟨Tryz.f96.name,by decide,Tryz.func96.trans (congrArg some (by rfl))⟩
 f28:=Tryz.func97.trans (congrArg some (by rfl))
 f29:=Tryz.func98.trans (congrArg some (by rfl))
 f46:=⟨Tryz.f170.name,by decide,Tryz.func170.trans (congrArg some (by rfl))⟩
 f47:=Tryz.func171.trans (congrArg some (by rfl))
 f48:=Tryz.func172.trans (congrArg some (by rfl))
 f49:=⟨Tryz.f173.name,by decide,Tryz.func173.trans (congrArg some (by rfl))⟩
 f50:=⟨Tryz.f174.name,by decide,Tryz.func174.trans (congrArg some (by rfl))⟩
 f57:=⟨Tryz.f247.name,by decide,Tryz.func247.trans (congrArg some (by rfl))⟩
 t0:=Tryz.underlying0
 a0:=Tryz.isAgg0
 z0:=Tryz.sizeOf0
 v0:=Tryz.zeroValue0
 t3:=Tryz.underlying3
 a3:=Tryz.isAgg3
 z3:=Tryz.sizeOf3
 v3:=Tryz.zeroValue3
 t4:=Tryz.underlying4
 a4:=Tryz.isAgg4
 z4:=Tryz.sizeOf4
 v4:=Tryz.zeroValue4
 t5:=Tryz.underlying5
 a5:=Tryz.isAgg5
 z5:=Tryz.sizeOf5
 v5:=Tryz.zeroValue5
 t9:=Tryz.underlying9
 a9:=Tryz.isAgg9
 z9:=Tryz.sizeOf9
 v9:=Tryz.zeroValue9
 t22:=Tryz.underlying29
 a22:=Tryz.isAgg29
 z22:=Tryz.sizeOf29
 v22:=Tryz.zeroValue29
 t25:=Tryz.underlying101
 a25:=Tryz.isAgg101
 z25:=Tryz.sizeOf101
 v25:=Tryz.zeroValue101
 t39:=Tryz.underlying138
 a39:=Tryz.isAgg138
 z39:=Tryz.sizeOf138
 v39:=Tryz.zeroValue138
 t45:=Tryz.underlying159
 a45:=Tryz.isAgg159
 z45:=Tryz.sizeOf159
 v45:=Tryz.zeroValue159
 t46:=Tryz.underlying160
 a46:=Tryz.isAgg160
 z46:=Tryz.sizeOf160
 v46:=Tryz.zeroValue160
 t50:=Tryz.underlying164
 a50:=Tryz.isAgg164
 z50:=Tryz.sizeOf164
 v50:=Tryz.zeroValue164
 t53:=Tryz.underlying167
 a53:=Tryz.isAgg167
 z53:=Tryz.sizeOf167
 v53:=Tryz.zeroValue167
 t55:=Tryz.underlying169
 a55:=Tryz.isAgg169
 z55:=Tryz.sizeOf169
 v55:=Tryz.zeroValue169
 t66:=Tryz.underlying241
 a66:=Tryz.isAgg241
 z66:=Tryz.sizeOf241
 v66:=Tryz.zeroValue241
 t70:=Tryz.underlying245
 a70:=Tryz.isAgg245
 z70:=Tryz.sizeOf245
 v70:=Tryz.zeroValue245
 t76:=Tryz.underlying305
 a76:=Tryz.isAgg305
 z76:=Tryz.sizeOf305
 v76:=Tryz.zeroValue305
 t77:=Tryz.underlying306
 a77:=Tryz.isAgg306
 z77:=Tryz.sizeOf306
 v77:=Tryz.zeroValue306 }
def Tryz.sortV_ren:Go.Shelf.Ren:=⟨fun | 6=>183 | 15=>52 | 14=>253 | 28=>97 | 29=>98 | 20=>299 | 21=>300 | 22=>301 | 23=>302 | 24=>303 | 25=>304 | 26=>305 | 27=>306 | 46=>354 | 47=>171 | 48=>172 | 49=>355 | 50=>356 | 57=>379 | n=>n,fun | 22=>65 | 24=>32 | 25=>185 | 3=>3 | 39=>138 | 0=>0 | 53=>167 | 55=>169 | 4=>4 | 46=>160 | 45=>159 | 50=>164 | 5=>5 | 9=>9 | 66=>241 | 70=>245 | 76=>305 | 77=>306 | n=>n,fun | n=>n⟩
theorem Tryz.sortV:Go.Proofs.SlLaysF0.n6 Tryz.prog Tryz.sortV_ren:={
 mixed:=by rfl
 f6:=⟨Tryz.f183.name,by decide,Tryz.func183.trans (congrArg some (by rfl))⟩
 f14:=⟨Tryz.f253.name,by decide,Tryz.func253.trans (congrArg some (by rfl))⟩
 f15:=Tryz.func52.trans (congrArg some (by rfl))
 f20:=⟨Tryz.f299.name,by decide,Tryz.func299.trans (congrArg some (by rfl))⟩
 f21:=⟨Tryz.f300.name,by decide,Tryz.func300.trans (congrArg some (by rfl))⟩
 f22:=⟨Tryz.f301.name,by decide,Tryz.func301.trans (congrArg some (by rfl))⟩
 f23:=⟨Tryz.f302.name,by decide,Tryz.func302.trans (congrArg some (by rfl))⟩
 f24:=⟨Tryz.f303.name,by decide,Tryz.func303.trans (congrArg some (by rfl))⟩
 f25:=⟨Tryz.f304.name,by decide,Tryz.func304.trans (congrArg some (by rfl))⟩
 f26:=⟨Tryz.f305.name,by decide,Tryz.func305.trans (congrArg some (by rfl))⟩
 f27:=⟨Tryz.f306.name,by decide,Tryz.func306.trans (congrArg some (by rfl))⟩
 f28:=Tryz.func97.trans (congrArg some (by rfl))
 f29:=Tryz.func98.trans (congrArg some (by rfl))
 f46:=⟨Tryz.f354.name,by decide,Tryz.func354.trans (congrArg some (by rfl))⟩
 f47:=Tryz.func171.trans (congrArg some (by rfl))
 f48:=Tryz.func172.trans (congrArg some (by rfl))
 f49:=⟨Tryz.f355.name,by decide,Tryz.func355.trans (congrArg some (by rfl))⟩
 f50:=⟨Tryz.f356.name,by decide,Tryz.func356.trans (congrArg some (by rfl))⟩
 f57:=⟨Tryz.f379.name,by decide,Tryz.func379.trans (congrArg some (by rfl))⟩
 t0:=Tryz.underlying0
 a0:=Tryz.isAgg0
 z0:=Tryz.sizeOf0
 v0:=Tryz.zeroValue0
 t3:=Tryz.underlying3
 a3:=Tryz.isAgg3
 z3:=Tryz.sizeOf3
 v3:=Tryz.zeroValue3
 t4:=Tryz.underlying4
 a4:=Tryz.isAgg4
 z4:=Tryz.sizeOf4
 v4:=Tryz.zeroValue4
 t5:=Tryz.underlying5
 a5:=Tryz.isAgg5
 z5:=Tryz.sizeOf5
 v5:=Tryz.zeroValue5
 t9:=Tryz.underlying9
 a9:=Tryz.isAgg9
 z9:=Tryz.sizeOf9
 v9:=Tryz.zeroValue9
 t22:=Tryz.underlying65
 a22:=Tryz.isAgg65
 z22:=Tryz.sizeOf65
 v22:=Tryz.zeroValue65
 t25:=Tryz.underlying185
 a25:=Tryz.isAgg185
 z25:=Tryz.sizeOf185
 v25:=Tryz.zeroValue185
 t39:=Tryz.underlying138
 a39:=Tryz.isAgg138
 z39:=Tryz.sizeOf138
 v39:=Tryz.zeroValue138
 t45:=Tryz.underlying159
 a45:=Tryz.isAgg159
 z45:=Tryz.sizeOf159
 v45:=Tryz.zeroValue159
 t46:=Tryz.underlying160
 a46:=Tryz.isAgg160
 z46:=Tryz.sizeOf160
 v46:=Tryz.zeroValue160
 t50:=Tryz.underlying164
 a50:=Tryz.isAgg164
 z50:=Tryz.sizeOf164
 v50:=Tryz.zeroValue164
 t53:=Tryz.underlying167
 a53:=Tryz.isAgg167
 z53:=Tryz.sizeOf167
 v53:=Tryz.zeroValue167
 t55:=Tryz.underlying169
 a55:=Tryz.isAgg169
 z55:=Tryz.sizeOf169
 v55:=Tryz.zeroValue169
 t66:=Tryz.underlying241
 a66:=Tryz.isAgg241
 z66:=Tryz.sizeOf241
 v66:=Tryz.zeroValue241
 t70:=Tryz.underlying245
 a70:=Tryz.isAgg245
 z70:=Tryz.sizeOf245
 v70:=Tryz.zeroValue245
 t76:=Tryz.underlying305
 a76:=Tryz.isAgg305
 z76:=Tryz.sizeOf305
 v76:=Tryz.zeroValue305
 t77:=Tryz.underlying306
 a77:=Tryz.isAgg306
 z77:=Tryz.sizeOf306
 v77:=Tryz.zeroValue306 }
def Tryz.sortF_ren:Go.Shelf.Ren:=⟨fun | 6=>40 | 15=>52 | 14=>62 | 28=>97 | 29=>98 | 20=>126 | 21=>127 | 22=>128 | 23=>129 | 24=>130 | 25=>131 | 26=>132 | 27=>133 | 46=>198 | 47=>171 | 48=>172 | 49=>199 | 50=>200 | 57=>264 | n=>n,fun | 22=>82 | 24=>64 | 25=>116 | 3=>3 | 39=>138 | 0=>0 | 53=>167 | 55=>169 | 4=>4 | 46=>160 | 45=>159 | 50=>164 | 5=>5 | 9=>9 | 66=>241 | 70=>245 | 76=>305 | 77=>306 | n=>n,fun | n=>n⟩
theorem Tryz.sortF:Go.Proofs.SlLaysF0.n6 Tryz.prog Tryz.sortF_ren:={
 mixed:=by rfl
 f6:=⟨Tryz.f40.name,by decide,Tryz.func40.trans (congrArg some (by rfl))⟩
 f14:=⟨Tryz.f62.name,by decide,Tryz.func62.trans (congrArg some (by rfl))⟩
 f15:=Tryz.func52.trans (congrArg some (by rfl))
 f20:=⟨Tryz.f126.name,by decide,Tryz.func126.trans (congrArg some (by rfl))⟩
 f21:=⟨Tryz.f127.name,by decide,Tryz.func127.trans (congrArg some (by rfl))⟩
 f22:=⟨Tryz.f128.name,by decide,Tryz.func128.trans (congrArg some (by rfl))⟩
 f23:=⟨Tryz.f129.name,by decide,Tryz.func129.trans (congrArg some (by rfl))⟩
 f24:=⟨Tryz.f130.name,by decide,Tryz.func130.trans (congrArg some (by rfl))⟩
 f25:=⟨Tryz.f131.name,by decide,Tryz.func131.trans (congrArg some (by rfl))⟩
 f26:=⟨Tryz.f132.name,by decide,Tryz.func132.trans (congrArg some (by rfl))⟩
 f27:=⟨Tryz.f133.name,by decide,Tryz.func133.trans (congrArg some (by rfl))⟩
 f28:=Tryz.func97.trans (congrArg some (by rfl))
 f29:=Tryz.func98.trans (congrArg some (by rfl))
 f46:=⟨Tryz.f198.name,by decide,Tryz.func198.trans (congrArg some (by rfl))⟩
 f47:=Tryz.func171.trans (congrArg some (by rfl))
 f48:=Tryz.func172.trans (congrArg some (by rfl))
 f49:=⟨Tryz.f199.name,by decide,Tryz.func199.trans (congrArg some (by rfl))⟩
 f50:=⟨Tryz.f200.name,by decide,Tryz.func200.trans (congrArg some (by rfl))⟩
 f57:=⟨Tryz.f264.name,by decide,Tryz.func264.trans (congrArg some (by rfl))⟩
 t0:=Tryz.underlying0
 a0:=Tryz.isAgg0
 z0:=Tryz.sizeOf0
 v0:=Tryz.zeroValue0
 t3:=Tryz.underlying3
 a3:=Tryz.isAgg3
 z3:=Tryz.sizeOf3
 v3:=Tryz.zeroValue3
 t4:=Tryz.underlying4
 a4:=Tryz.isAgg4
 z4:=Tryz.sizeOf4
 v4:=Tryz.zeroValue4
 t5:=Tryz.underlying5
 a5:=Tryz.isAgg5
 z5:=Tryz.sizeOf5
 v5:=Tryz.zeroValue5
 t9:=Tryz.underlying9
 a9:=Tryz.isAgg9
 z9:=Tryz.sizeOf9
 v9:=Tryz.zeroValue9
 t22:=Tryz.underlying82
 a22:=Tryz.isAgg82
 z22:=Tryz.sizeOf82
 v22:=Tryz.zeroValue82
 t25:=Tryz.underlying116
 a25:=Tryz.isAgg116
 z25:=Tryz.sizeOf116
 v25:=Tryz.zeroValue116
 t39:=Tryz.underlying138
 a39:=Tryz.isAgg138
 z39:=Tryz.sizeOf138
 v39:=Tryz.zeroValue138
 t45:=Tryz.underlying159
 a45:=Tryz.isAgg159
 z45:=Tryz.sizeOf159
 v45:=Tryz.zeroValue159
 t46:=Tryz.underlying160
 a46:=Tryz.isAgg160
 z46:=Tryz.sizeOf160
 v46:=Tryz.zeroValue160
 t50:=Tryz.underlying164
 a50:=Tryz.isAgg164
 z50:=Tryz.sizeOf164
 v50:=Tryz.zeroValue164
 t53:=Tryz.underlying167
 a53:=Tryz.isAgg167
 z53:=Tryz.sizeOf167
 v53:=Tryz.zeroValue167
 t55:=Tryz.underlying169
 a55:=Tryz.isAgg169
 z55:=Tryz.sizeOf169
 v55:=Tryz.zeroValue169
 t66:=Tryz.underlying241
 a66:=Tryz.isAgg241
 z66:=Tryz.sizeOf241
 v66:=Tryz.zeroValue241
 t70:=Tryz.underlying245
 a70:=Tryz.isAgg245
 z70:=Tryz.sizeOf245
 v70:=Tryz.zeroValue245
 t76:=Tryz.underlying305
 a76:=Tryz.isAgg305
 z76:=Tryz.sizeOf305
 v76:=Tryz.zeroValue305
 t77:=Tryz.underlying306
 a77:=Tryz.isAgg306
 z77:=Tryz.sizeOf306
 v77:=Tryz.zeroValue306 }
end Go.Proofs
