/- Merged out of my texts AD AFa AFb ASr ASv ASf. -/
import Derived.Test.YthfhklnhmahcbaaGreatDoorKA
import Derived.Test.YthfhklnhmahcbaaGreatDoorKVc
import Derived.Lib.Bytealg
import Derived.Test.YthfhklnhmahcbaaGreatDoorKVd
import Derived.Test.YthfhklnhmahcbaaGreatDoorProg
set_option linter.unusedSimpArgs false
set_option maxRecDepth 100000
set_option linter.defProp false
set_option maxHeartbeats 4000000
set_option linter.unusedVariables false
open Go.Proofs.Tryz
open Go.VL
namespace Go.Ar
abbrev Str:=ByteArray
abbrev vint (n:Int):V:=.lit (.int .i64 n)
abbrev qq (b:Bool):V:=.lit (.bool b)
abbrev vstr (s:Str):V:=.lit (.string s)
abbrev qGe (xs:List Int):V:=.list none 1 (xs.map fun x=>[vint x])
abbrev jV (xs:List Str):V:=.list none 1 (xs.map fun x=>[vstr x])
abbrev ptr (b:Nat):V:=.lit (.pointer (some ⟨b,0,none⟩))
abbrev nilS:V:=.lit (.slice none 0 0)
structure FID where
 src:Str
 seq:Int
 deriving DecidableEq
structure Val where
 kind:Int
 n:Int
 s:Str
 deriving DecidableEq
structure Rw where
 id:FID
 table:Str
 key:Str
 event:Int
 fields:List Val
 no:Int
 tick:Int
 deriving DecidableEq
structure Dlt where
 row:Rw
 tick:Int
 n:Int
 deriving DecidableEq
structure Grp where
 key:Str
 ds:List Dlt
 deriving DecidableEq
structure Arr where
 since:Int
 groups:List Grp
 deriving DecidableEq
abbrev Qc (i:FID):List V:=[vstr i.src,vint i.seq]
abbrev qS (v:Val):List V:=[vint v.kind,vint v.n,vstr v.s]
abbrev xT (l:List Val):V:=.list none 3 (l.map qS)
abbrev zJ (r:Rw):List V:=[vstr r.id.src,vint r.id.seq,vstr r.table,vstr r.key,vint r.event,xT r.fields,vint r.no,vint r.tick]
abbrev qZ (l:List Rw):V:=.list none 8 (l.map zJ)
abbrev qd9 (l:List FID):V:=.list none 2 (l.map Qc)
def less (a b:Str):Bool:=Op.bytesLess a.data.toList b.data.toList
def cmpI (a b:Int):Int:=if a < b then -1 else if b < a then 1 else 0
def cmpS (a b:Str):Int:=if less a b=true then -1 else if (less a b || decide (a=b))=true then 0 else 1
def orL:List Int->Int
 | []=>0
 | x::r=>if x=0 then orL r else x
def cmpID (a b:FID):Int:=if a=b then 0 else orL [cmpS a.src b.src,cmpI a.seq b.seq]
def cmpRow (a b:Rw):Int:=orL [cmpI a.event b.event,cmpID a.id b.id]
def cmpVal (a b:Val):Int:=orL [cmpI a.kind b.kind,cmpI a.n b.n,cmpS a.s b.s]
theorem Qd:∀ l:List UInt8,Op.bytesLess l l=false
 | []=>rfl
 | x::l=>by simp [Op.bytesLess,Qd l]
variable {a:Str}
theorem qfu:less a a=false:=Qd _
variable {b:Str}
theorem qVy (h:less a b=true):a ≠ b:=fun e=>by subst e;rw [qfu] at h;cases h
theorem qE9 (h:less a b=true):cmpS a b=-1:=by simp [cmpS,h]
theorem qa6 (a:Str):cmpS a a=0:=by simp [cmpS,qfu]
theorem qFa (h:less a b=false) (d:¬ a=b):cmpS a b=1:=by simp [cmpS,h,d]
theorem vV:cmpS a b=0↔a=b:=by
 constructor
 ·intro h;cases d:less a b
  ·by_cases e:a=b
   ·omega
   ·rw [qFa d e] at h;cases h
  ·rw [qE9 d] at h;cases h
 ·rintro rfl;exact qa6 a
theorem ji {a b:Int}:cmpI a b=0↔a=b:=by
 unfold cmpI;omega
theorem ZW {a b:FID}:cmpID a b=0↔a=b:=by
 unfold cmpID;constructor
 ·intro h;split at h
  ·omega
  ·simp only [orL] at h;cases a;cases b;split at h
   ·rename_i d;split at h
    ·rename_i e;have j:=vV.1 d;have k:=ji.1 e;simp_all
    omega
   omega
 simp_all
theorem qSo {a b:FID} (h:¬ a.src=b.src):cmpID a b=cmpS a.src b.src:=by
 have:¬ a=b:=fun e=>h (by rw [e]);simp [cmpID,this,orL,vV,h]
theorem qUu {a b:FID} (h:a.src=b.src):cmpID a b=cmpI a.seq b.seq:=by
 by_cases e:a=b
 ·subst e;simp [cmpID,cmpI]
 ·have:¬ a.seq=b.seq:=fun d=>e (by cases a;simp_all);simp [cmpID,e,orL,h,qa6,ji,this]
theorem qv {n:Int} (h:-9223372036854775808<=n) (a:n < 9223372036854775808):IntKind.i64.wrap n=n:=IntWalk.i64_in n ⟨h,by omega⟩
theorem qj {i N:Nat} (h:i < N) (a:N<=9223372036854775807:=by omega):IntKind.i64.wrap ((i:Int)+1)=((i+1:Nat):Int):=by
 rw [qv (by omega) (by omega)];rfl
theorem qc {v x:V} {bs:Bx} {rs:List VL.Row} (h:v=x):∃ w a d,Le v w/\a.Sublist bs/\d.Sublist rs/\w=x/\a=[]/\d=[] :=
 ⟨v,[],[],Le.refl _,zn _,zn _,h,rfl,rfl⟩
theorem Yq {v x:V} {bs:Bx} {rs:List VL.Row} (h:Le v x):∃ w a d,Le v w/\a.Sublist bs/\d.Sublist rs/\w=x/\a=[]/\d=[] :=
 ⟨x,[],[],h,zn _,zn _,rfl,rfl,rfl⟩
theorem qI {α:Type} (f:α->List V) (l:List α) (i:Nat) (h:i < l.length):(l.map f).getD i []=f l[i]:=by
 simp_all
end Go.Ar
open Go.Ar Go.Proofs.YthfhklnhmahcbaaGreatDoor
namespace Go.Proofs.YthfhklnhmahcbaaGreatDoor.Arr
theorem qnr (s:Str):zk prog 87 [vstr s] (qq false):=by
 refine oE func87 fun F d a=>?_;exact qe
theorem qns (s:Int):zk prog 88 [vint s] (qq false):=by
 refine oE func88 fun F d a=>?_;exact qe
theorem JM (a b:Int):zk prog 54 [vint a,vint b] (vint (cmpI a b)):=by
 refine oE func54 fun F k j=>?_;refine qi _ (qns a) ?_;refine qi _ (qns b) ?_;by_cases d:a < b
 ·exact qe (h:=by simp [cmpI,d])
 ·by_cases e:b < a
  ·exact qe (h:=by simp [cmpI,d,e])
  ·exact qe (h:=by simp [cmpI,d,e])
theorem qE8 (a b:Str):zk prog 53 [vstr a,vstr b] (vint (cmpS a b)):=by
 refine oE func53 fun F k j=>?_;refine qi _ (qnr a) ?_;refine qi _ (qnr b) ?_;cases d:Op.bytesLess a.data.toList b.data.toList
 ·by_cases e:a=b
  ·subst e;exact qe (h:=by simp [cmpS,less,d])
  ·exact qe (h:=by simp [cmpS,less,d,e])
 ·exact qe (h:=by simp [cmpS,less,d])
theorem qv5 (l:List Int) (p:l.length<=9223372036854775807):zk prog 52 [qGe l] (vint (orL l)):=by
 refine oE func52 fun F u q=>?_;refine qa ?_;refine qG Ty.mixed (by rfl) l.length (fun i S=>S.σ 6=qGe l/\S.σ 7=vint l.length/\S.σ 8=vint i/\S.σ 3=vint 0/\S.boxes=[]/\orL l=orL (l.drop i)) ⟨0,?_⟩ (fun i S j ⟨n,d,e,a,h,k⟩=>?_) (fun S ⟨n,d,e,a,h,k⟩=>?_)
 ·exact qA
 ·have hd:l.drop i=l[i]::l.drop (i+1):=qGt j;rw [hd,orL] at k;by_cases o:l[i]=0
  ·simp only [↓rA,rU,n,d,e,a,h,zq,j,o,qj j p,simprocAttr];simp_all
  ·simp only [↓rA,rU,n,d,e,a,h,zq,j,o,simprocAttr];exact qc (by rw [k,if_neg o])
 ·simp only [↓rA,rU,d,e,a,h,zq,WR,simprocAttr];exact qc (by rw [k];simp [orL])
theorem Jw:∀ a b:List UInt8,Go.Lib.compareBytes a b=if Op.bytesLess a b=true then -1 else if (Op.bytesLess a b || decide (a=b))=true then 0 else 1:=by
 intro a
 induction a with
 | nil=>intro b;cases b <;> simp [Go.Lib.compareBytes,Op.bytesLess]
 | cons x a j =>
  intro b;cases b with
  | nil=>rfl
  | cons y b =>
   simp only [Go.Lib.compareBytes,Op.bytesLess];have:=j b;by_cases d:x < y
   ·simp [d]
   ·by_cases h:x=y
    ·simp_all
    ·have k:y < x:=by
      rw [qRq] at d ⊢;have:x.toNat ≠ y.toNat:=fun e=>h (UInt8.toNat_inj.1 e);omega
     simp_all
theorem qix (S:St) (a b:Str):qib prog S 326 [vstr a,vstr b] (vint (cmpS a b)):=by
 intro w I j _ d;have:j=[.string a,.string b]:=qcw d;subst this;refine⟨.int .i64 (cmpS a b),w,?_,.inl rfl,by rfl⟩;rw [run_callFunc_extern func326 (by rfl) (by rfl) (by kernel_rfl) (e:=Extern.BytealgCompare.compare) (by kernel_rfl)];rw [Go.Lib.run_compareString (P:=prog) a b w];simp only [Result.andThen,Jw,cmpS,less];have:decide (a.data.toList=b.data.toList)=decide (a=b):=by
  rw [qOg,decide_eq_true_eq,decide_eq_true_eq];exact⟨fun h=>qRp (qMc h),fun h=>by rw [h]⟩
 simp_all
theorem qdb (a b:Str):zk prog 277 [vstr a,vstr b] (vint (cmpS a b)):=by
 refine oE func277 fun F e d=>?_;refine qa ?_;refine QL _ (qix _ a b) ?_;exact qe
theorem X3 (a b:Str):zk prog 213 [vstr a,vstr b] (vint (cmpS a b)):=by
 refine oE func213 fun F e d=>?_;refine qi _ (qdb a b) ?_;exact qe
theorem qhi (a b:FID):zk prog 29 [.agg (Qc a),.agg (Qc b)] (vint (cmpID a b)):=by
 refine oE func29 fun F q j=>?_;refine qb fun k o=>?_;refine qb fun n p=>?_;refine qa ?_;apply qf <;> intro d
 ·refine qa ?_;simp only [k7,decide_eq_true_eq] at d;have:a=b:=by cases a;cases b;simp_all
  exact qc (by simp [cmpID,this])
 ·have:¬ a=b:=fun e=>by simp_all
  refine qa ?_;refine qt _ (qE8 a.src b.src).v ?_;refine qa ?_;refine qt _ (JM a.seq b.seq).v ?_;refine qa ?_;refine qt _ (qv5 [cmpS a.src b.src,cmpI a.seq b.seq] (by simp)).v ?_;exact qe (h:=by simp [cmpID,this])
theorem qs6 (a b:Rw):zk prog 42 [.agg (zJ a),.agg (zJ b)] (vint (cmpRow a b)):=by
 refine oE func42 fun F n d=>?_;refine qb fun e j=>?_;refine qb fun h k=>?_;refine qa ?_;refine qt _ (JM a.event b.event).v ?_;refine qa ?_;refine qt _ (qhi a.id b.id).v ?_;refine qa ?_;refine qt _ (qv5 [cmpI a.event b.event,cmpID a.id b.id] (by simp)).v ?_;exact qe
theorem qa5 (a b:Val):zk prog 141 [.agg (qS a),.agg (qS b)] (vint (cmpVal a b)):=by
 refine oE func141 fun F n d=>?_;refine qb fun e j=>?_;refine qb fun h k=>?_;refine qa ?_;refine qt _ (JM a.kind b.kind).v ?_;refine qa ?_;refine qt _ (JM a.n b.n).v ?_;refine qa ?_;refine qt _ (X3 a.s b.s).v ?_;refine qa ?_;refine qt _ (qv5 [cmpI a.kind b.kind,cmpI a.n b.n,cmpS a.s b.s] (by simp)).v ?_;exact qe
end Go.Proofs.YthfhklnhmahcbaaGreatDoor.Arr
namespace Go.Proofs
open Go.Shelf
def Tryz.sortR_ren:Go.Shelf.Ren:=⟨fun | 6=>41 | 15=>51 | 14=>68 | 28=>85 | 29=>86 | 20=>114 | 21=>115 | 22=>116 | 23=>117 | 24=>118 | 25=>119 | 26=>120 | 27=>121 | 46=>195 | 47=>157 | 48=>158 | 49=>196 | 50=>197 | 57=>269 | n=>n,fun | 22=>29 | 24=>35 | 25=>76 | 3=>3 | 39=>124 | 0=>0 | 53=>169 | 55=>171 | 4=>4 | 46=>162 | 45=>161 | 50=>166 | 5=>5 | 9=>9 | 66=>222 | 70=>226 | 76=>283 | 77=>284 | n=>n,fun | n=>n⟩
theorem Tryz.sortR:Go.Proofs.SlLaysF0.n6 Tryz.prog Tryz.sortR_ren:={
 mixed:=by rfl
 f6:=⟨Tryz.f41.name,by decide,ly Tryz.func41⟩
 f14:=⟨Tryz.f68.name,by decide,ly Tryz.func68⟩
 f15:=ly Tryz.func51
 f20:=⟨Tryz.f114.name,by decide,ly Tryz.func114⟩
 f21:=⟨Tryz.f115.name,by decide,ly Tryz.func115⟩
 f22:=⟨Tryz.f116.name,by decide,ly Tryz.func116⟩
 f23:=⟨Tryz.f117.name,by decide,ly Tryz.func117⟩
 f24:=⟨Tryz.f118.name,by decide,ly Tryz.func118⟩
 f25:=⟨Tryz.f119.name,by decide,ly Tryz.func119⟩
 f26:=⟨Tryz.f120.name,by decide,ly Tryz.func120⟩
 f27:=⟨Tryz.f121.name,by decide,ly Tryz.func121⟩
 f28:=ly Tryz.func85
 f29:=ly Tryz.func86
 f46:=⟨Tryz.f195.name,by decide,ly Tryz.func195⟩
 f47:=ly Tryz.func157
 f48:=ly Tryz.func158
 f49:=⟨Tryz.f196.name,by decide,ly Tryz.func196⟩
 f50:=⟨Tryz.f197.name,by decide,ly Tryz.func197⟩
 f57:=⟨Tryz.f269.name,by decide,ly Tryz.func269⟩
 t0:=Tryz.underlying0
 a0:=Tryz.isAgg0
 z0:=Tryz.sizeOf0
 v0:=Tryz.zeroValue0
 t3:=Tryz.underlying3
 a3:=Tryz.isAgg3
 z3:=Tryz.sizeOf3
 v3:=Tryz.zeroValue3
 t4:=Tryz.underlying4
 a4:=Tryz.isAgg4
 z4:=Tryz.sizeOf4
 v4:=Tryz.zeroValue4
 t5:=Tryz.underlying5
 a5:=Tryz.isAgg5
 z5:=Tryz.sizeOf5
 v5:=Tryz.zeroValue5
 t9:=Tryz.underlying9
 a9:=Tryz.isAgg9
 z9:=Tryz.sizeOf9
 v9:=Tryz.zeroValue9
 t22:=Tryz.underlying29
 a22:=Tryz.isAgg29
 z22:=Tryz.sizeOf29
 v22:=Tryz.zeroValue29
 t25:=Tryz.underlying76
 a25:=Tryz.isAgg76
 z25:=Tryz.sizeOf76
 v25:=Tryz.zeroValue76
 t39:=Tryz.underlying124
 a39:=Tryz.isAgg124
 z39:=Tryz.sizeOf124
 v39:=Tryz.zeroValue124
 t45:=Tryz.underlying161
 a45:=Tryz.isAgg161
 z45:=Tryz.sizeOf161
 v45:=Tryz.zeroValue161
 t46:=Tryz.underlying162
 a46:=Tryz.isAgg162
 z46:=Tryz.sizeOf162
 v46:=Tryz.zeroValue162
 t50:=Tryz.underlying166
 a50:=Tryz.isAgg166
 z50:=Tryz.sizeOf166
 v50:=Tryz.zeroValue166
 t53:=Tryz.underlying169
 a53:=Tryz.isAgg169
 z53:=Tryz.sizeOf169
 v53:=Tryz.zeroValue169
 t55:=Tryz.underlying171
 a55:=Tryz.isAgg171
 z55:=Tryz.sizeOf171
 v55:=Tryz.zeroValue171
 t66:=Tryz.underlying222
 a66:=Tryz.isAgg222
 z66:=Tryz.sizeOf222
 v66:=Tryz.zeroValue222
 t70:=Tryz.underlying226
 a70:=Tryz.isAgg226
 z70:=Tryz.sizeOf226
 v70:=Tryz.zeroValue226
 t76:=Tryz.underlying283
 a76:=Tryz.isAgg283
 z76:=Tryz.sizeOf283
 v76:=Tryz.zeroValue283
 t77:=Tryz.underlying284
 a77:=Tryz.isAgg284
 z77:=Tryz.sizeOf284
 v77:=Tryz.zeroValue284 }
def Tryz.sortV_ren:Go.Shelf.Ren:=⟨fun | 6=>211 | 15=>51 | 14=>276 | 28=>85 | 29=>86 | 20=>318 | 21=>319 | 22=>320 | 23=>321 | 24=>322 | 25=>323 | 26=>324 | 27=>325 | 46=>364 | 47=>157 | 48=>158 | 49=>365 | 50=>366 | 57=>386 | n=>n,fun | 22=>33 | 24=>41 | 25=>208 | 3=>3 | 39=>124 | 0=>0 | 53=>169 | 55=>171 | 4=>4 | 46=>162 | 45=>161 | 50=>166 | 5=>5 | 9=>9 | 66=>222 | 70=>226 | 76=>283 | 77=>284 | n=>n,fun | n=>n⟩
theorem Tryz.sortV:Go.Proofs.SlLaysF0.n6 Tryz.prog Tryz.sortV_ren:={
 mixed:=by rfl
 f6:=⟨Tryz.f211.name,by decide,ly Tryz.func211⟩
 f14:=⟨Tryz.f276.name,by decide,ly Tryz.func276⟩
 f15:=ly Tryz.func51
 f20:=⟨Tryz.f318.name,by decide,ly Tryz.func318⟩
 f21:=⟨Tryz.f319.name,by decide,ly Tryz.func319⟩
 f22:=⟨Tryz.f320.name,by decide,ly Tryz.func320⟩
 f23:=⟨Tryz.f321.name,by decide,ly Tryz.func321⟩
 f24:=⟨Tryz.f322.name,by decide,ly Tryz.func322⟩
 f25:=⟨Tryz.f323.name,by decide,ly Tryz.func323⟩
 f26:=⟨Tryz.f324.name,by decide,ly Tryz.func324⟩
 f27:=⟨Tryz.f325.name,by decide,ly Tryz.func325⟩
 f28:=ly Tryz.func85
 f29:=ly Tryz.func86
 f46:=⟨Tryz.f364.name,by decide,ly Tryz.func364⟩
 f47:=ly Tryz.func157
 f48:=ly Tryz.func158
 f49:=⟨Tryz.f365.name,by decide,ly Tryz.func365⟩
 f50:=⟨Tryz.f366.name,by decide,ly Tryz.func366⟩
 f57:=⟨Tryz.f386.name,by decide,ly Tryz.func386⟩
 t0:=Tryz.underlying0
 a0:=Tryz.isAgg0
 z0:=Tryz.sizeOf0
 v0:=Tryz.zeroValue0
 t3:=Tryz.underlying3
 a3:=Tryz.isAgg3
 z3:=Tryz.sizeOf3
 v3:=Tryz.zeroValue3
 t4:=Tryz.underlying4
 a4:=Tryz.isAgg4
 z4:=Tryz.sizeOf4
 v4:=Tryz.zeroValue4
 t5:=Tryz.underlying5
 a5:=Tryz.isAgg5
 z5:=Tryz.sizeOf5
 v5:=Tryz.zeroValue5
 t9:=Tryz.underlying9
 a9:=Tryz.isAgg9
 z9:=Tryz.sizeOf9
 v9:=Tryz.zeroValue9
 t22:=Tryz.underlying33
 a22:=Tryz.isAgg33
 z22:=Tryz.sizeOf33
 v22:=Tryz.zeroValue33
 t25:=Tryz.underlying208
 a25:=Tryz.isAgg208
 z25:=Tryz.sizeOf208
 v25:=Tryz.zeroValue208
 t39:=Tryz.underlying124
 a39:=Tryz.isAgg124
 z39:=Tryz.sizeOf124
 v39:=Tryz.zeroValue124
 t45:=Tryz.underlying161
 a45:=Tryz.isAgg161
 z45:=Tryz.sizeOf161
 v45:=Tryz.zeroValue161
 t46:=Tryz.underlying162
 a46:=Tryz.isAgg162
 z46:=Tryz.sizeOf162
 v46:=Tryz.zeroValue162
 t50:=Tryz.underlying166
 a50:=Tryz.isAgg166
 z50:=Tryz.sizeOf166
 v50:=Tryz.zeroValue166
 t53:=Tryz.underlying169
 a53:=Tryz.isAgg169
 z53:=Tryz.sizeOf169
 v53:=Tryz.zeroValue169
 t55:=Tryz.underlying171
 a55:=Tryz.isAgg171
 z55:=Tryz.sizeOf171
 v55:=Tryz.zeroValue171
 t66:=Tryz.underlying222
 a66:=Tryz.isAgg222
 z66:=Tryz.sizeOf222
 v66:=Tryz.zeroValue222
 t70:=Tryz.underlying226
 a70:=Tryz.isAgg226
 z70:=Tryz.sizeOf226
 v70:=Tryz.zeroValue226
 t76:=Tryz.underlying283
 a76:=Tryz.isAgg283
 z76:=Tryz.sizeOf283
 v76:=Tryz.zeroValue283
 t77:=Tryz.underlying284
 a77:=Tryz.isAgg284
 z77:=Tryz.sizeOf284
 v77:=Tryz.zeroValue284 }
def Tryz.sortF_ren:Go.Shelf.Ren:=⟨fun | 6=>28 | 15=>51 | 14=>50 | 28=>85 | 29=>86 | 20=>77 | 21=>78 | 22=>79 | 23=>80 | 24=>81 | 25=>82 | 26=>83 | 27=>84 | 46=>156 | 47=>157 | 48=>158 | 49=>159 | 50=>160 | 57=>226 | n=>n,fun | 22=>58 | 24=>32 | 25=>60 | 3=>3 | 39=>124 | 0=>0 | 53=>169 | 55=>171 | 4=>4 | 46=>162 | 45=>161 | 50=>166 | 5=>5 | 9=>9 | 66=>222 | 70=>226 | 76=>283 | 77=>284 | n=>n,fun | n=>n⟩
theorem Tryz.sortF:Go.Proofs.SlLaysF0.n6 Tryz.prog Tryz.sortF_ren:={
 mixed:=by rfl
 f6:=⟨Tryz.f28.name,by decide,ly Tryz.func28⟩
 f14:=⟨Tryz.f50.name,by decide,ly Tryz.func50⟩
 f15:=ly Tryz.func51
 f20:=⟨Tryz.f77.name,by decide,ly Tryz.func77⟩
 f21:=⟨Tryz.f78.name,by decide,ly Tryz.func78⟩
 f22:=⟨Tryz.f79.name,by decide,ly Tryz.func79⟩
 f23:=⟨Tryz.f80.name,by decide,ly Tryz.func80⟩
 f24:=⟨Tryz.f81.name,by decide,ly Tryz.func81⟩
 f25:=⟨Tryz.f82.name,by decide,ly Tryz.func82⟩
 f26:=⟨Tryz.f83.name,by decide,ly Tryz.func83⟩
 f27:=⟨Tryz.f84.name,by decide,ly Tryz.func84⟩
 f28:=ly Tryz.func85
 f29:=ly Tryz.func86
 f46:=⟨Tryz.f156.name,by decide,ly Tryz.func156⟩
 f47:=ly Tryz.func157
 f48:=ly Tryz.func158
 f49:=⟨Tryz.f159.name,by decide,ly Tryz.func159⟩
 f50:=⟨Tryz.f160.name,by decide,ly Tryz.func160⟩
 f57:=⟨Tryz.f226.name,by decide,ly Tryz.func226⟩
 t0:=Tryz.underlying0
 a0:=Tryz.isAgg0
 z0:=Tryz.sizeOf0
 v0:=Tryz.zeroValue0
 t3:=Tryz.underlying3
 a3:=Tryz.isAgg3
 z3:=Tryz.sizeOf3
 v3:=Tryz.zeroValue3
 t4:=Tryz.underlying4
 a4:=Tryz.isAgg4
 z4:=Tryz.sizeOf4
 v4:=Tryz.zeroValue4
 t5:=Tryz.underlying5
 a5:=Tryz.isAgg5
 z5:=Tryz.sizeOf5
 v5:=Tryz.zeroValue5
 t9:=Tryz.underlying9
 a9:=Tryz.isAgg9
 z9:=Tryz.sizeOf9
 v9:=Tryz.zeroValue9
 t22:=Tryz.underlying58
 a22:=Tryz.isAgg58
 z22:=Tryz.sizeOf58
 v22:=Tryz.zeroValue58
 t25:=Tryz.underlying60
 a25:=Tryz.isAgg60
 z25:=Tryz.sizeOf60
 v25:=Tryz.zeroValue60
 t39:=Tryz.underlying124
 a39:=Tryz.isAgg124
 z39:=Tryz.sizeOf124
 v39:=Tryz.zeroValue124
 t45:=Tryz.underlying161
 a45:=Tryz.isAgg161
 z45:=Tryz.sizeOf161
 v45:=Tryz.zeroValue161
 t46:=Tryz.underlying162
 a46:=Tryz.isAgg162
 z46:=Tryz.sizeOf162
 v46:=Tryz.zeroValue162
 t50:=Tryz.underlying166
 a50:=Tryz.isAgg166
 z50:=Tryz.sizeOf166
 v50:=Tryz.zeroValue166
 t53:=Tryz.underlying169
 a53:=Tryz.isAgg169
 z53:=Tryz.sizeOf169
 v53:=Tryz.zeroValue169
 t55:=Tryz.underlying171
 a55:=Tryz.isAgg171
 z55:=Tryz.sizeOf171
 v55:=Tryz.zeroValue171
 t66:=Tryz.underlying222
 a66:=Tryz.isAgg222
 z66:=Tryz.sizeOf222
 v66:=Tryz.zeroValue222
 t70:=Tryz.underlying226
 a70:=Tryz.isAgg226
 z70:=Tryz.sizeOf226
 v70:=Tryz.zeroValue226
 t76:=Tryz.underlying283
 a76:=Tryz.isAgg283
 z76:=Tryz.sizeOf283
 v76:=Tryz.zeroValue283
 t77:=Tryz.underlying284
 a77:=Tryz.isAgg284
 z77:=Tryz.sizeOf284
 v77:=Tryz.zeroValue284 }
end Go.Proofs
