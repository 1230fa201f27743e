/- Merged out of my texts AD AFa AFb. -/
import Derived.Test.YtjdggbanifineaaGreatKVR
import Derived.Test.YtjdggbanifineaaGreatKVS
import Derived.Test.YtjdggbanifineaaGreatKTy
import Derived.Lib.Bytealg
namespace Go.Ar
open Go.VL
abbrev Str:=ByteArray
abbrev vint (n:Int):V:=.lit (.int .i64 n)
abbrev vbool (b:Bool):V:=.lit (.bool b)
abbrev vstr (s:Str):V:=.lit (.string s)
abbrev vints (xs:List Int):V:=.list none 1 (xs.map fun x=>[vint x])
abbrev ptr (b:Nat):V:=.lit (.pointer (some ⟨b,0,none⟩))
abbrev nilS:V:=.lit (.slice none 0 0)
structure FID where
 src:Str
 seq:Int
 deriving DecidableEq
structure Val where
 kind:Int
 n:Int
 s:Str
 deriving DecidableEq
structure Rw where
 id:FID
 table:Str
 key:Str
 event:Int
 fields:List Val
 no:Int
 tick:Int
 deriving DecidableEq
structure Dlt where
 row:Rw
 tick:Int
 n:Int
 deriving DecidableEq
structure Grp where
 key:Str
 ds:List Dlt
 deriving DecidableEq
structure Arr where
 since:Int
 groups:List Grp
 deriving DecidableEq
abbrev cFID (i:FID):List V:=[vstr i.src,vint i.seq]
abbrev cVal (v:Val):List V:=[vint v.kind,vint v.n,vstr v.s]
abbrev vVals (l:List Val):V:=.list none 3 (l.map cVal)
abbrev cRow (r:Rw):List V:=[vstr r.id.src,vint r.id.seq,vstr r.table,vstr r.key,vint r.event,vVals r.fields,vint r.no,vint r.tick]
abbrev cDlt (d:Dlt):List V:=[vstr d.row.id.src,vint d.row.id.seq,vstr d.row.table,vstr d.row.key,vint d.row.event,vVals d.row.fields,vint d.row.no,vint d.row.tick,vint d.tick,vint d.n]
abbrev vDlts (l:List Dlt):V:=.list none 10 (l.map cDlt)
def less (a b:Str):Bool:=Op.bytesLess a.data.toList b.data.toList
def cmpI (a b:Int):Int:=if a < b then -1 else if b < a then 1 else 0
def cmpS (a b:Str):Int:=if less a b=true then -1 else if (less a b || decide (a=b))=true then 0 else 1
def orL:List Int→Int
 | []=>0
 | x::r=>if x=0 then orL r else x
def cmpID (a b:FID):Int:=if a=b then 0 else orL [cmpS a.src b.src,cmpI a.seq b.seq]
def cmpVal (a b:Val):Int:=orL [cmpI a.kind b.kind,cmpI a.n b.n,cmpS a.s b.s]
theorem bytesLess_irrefl:∀ l:List UInt8,Op.bytesLess l l=false
 | []=>rfl
 | x::l=>by simp [Op.bytesLess,bytesLess_irrefl l]
theorem less_irrefl (a:Str):less a a=false:=bytesLess_irrefl _
theorem less_ne {a b:Str} (h:less a b=true):a ≠ b:=fun e=>by subst e;rw [less_irrefl] at h;cases h
theorem cmpS_lt {a b:Str} (h:less a b=true):cmpS a b=-1:=by simp [cmpS,h]
theorem cmpS_refl (a:Str):cmpS a a=0:=by simp [cmpS,less_irrefl]
theorem cmpS_gt {a b:Str} (h:less a b=false) (hn:¬ a=b):cmpS a b=1:=by simp [cmpS,h,hn]
theorem cmpS_eq0 {a b:Str}:cmpS a b=0↔a=b:=by
 constructor
 ·intro h
  cases hl:less a b
  ·by_cases he:a=b
   ·exact he
   ·rw [cmpS_gt hl he] at h;cases h
  ·rw [cmpS_lt hl] at h;cases h
 ·rintro rfl;exact cmpS_refl a
theorem cmpI_eq0 {a b:Int}:cmpI a b=0↔a=b:=by
 unfold cmpI
 constructor
 ·intro h
  split at h
  ·cases h
  ·split at h
   ·cases h
   ·omega
 ·rintro rfl;simp
theorem cmpID_eq0 {a b:FID}:cmpID a b=0↔a=b:=by
 unfold cmpID
 constructor
 ·intro h
  split at h
  ·assumption
  ·simp only [orL] at h
   cases a;cases b
   split at h
   ·rename_i h1
    split at h
    ·rename_i h2
     have q1:=cmpS_eq0.1 h1
     have q2:=cmpI_eq0.1 h2
     simp only [] at q1 q2
     rw [q1,q2]
    ·contradiction
   ·contradiction
 ·rintro rfl;simp
theorem cmpID_src {a b:FID} (h:¬ a.src=b.src):cmpID a b=cmpS a.src b.src:=by
 have:¬ a=b:=fun e=>h (by rw [e])
 simp [cmpID,this,orL,cmpS_eq0,h]
theorem cmpID_seq {a b:FID} (h:a.src=b.src):cmpID a b=cmpI a.seq b.seq:=by
 by_cases e:a=b
 ·subst e;simp [cmpID,cmpI]
 ·have:¬ a.seq=b.seq:=fun e'=>e (by cases a;cases b;simp_all)
  simp [cmpID,e,orL,h,cmpS_refl,cmpI_eq0,this]
theorem wrap_id {n:Int} (h:-9223372036854775808≤n) (h':n < 9223372036854775808):IntKind.i64.wrap n=n:=IntWalk.i64_in n ⟨h,by omega⟩
theorem wrap_succ {i N:Nat} (h:i < N) (hN:N≤9223372036854775807):IntKind.i64.wrap ((i:Int)+1)=((i+1:Nat):Int):=by
 rw [wrap_id (by omega) (by omega)];rfl
theorem ret_done {v x:V} {bs:List (Nat × B)} {rs:List VL.Row} (h:v=x):∃ w bs' rs',Le v w∧bs'.Sublist bs∧rs'.Sublist rs∧w=x∧bs'=[]∧rs'=[] :=
 ⟨v,[],[],Le.refl _,List.nil_sublist _,List.nil_sublist _,h,rfl,rfl⟩
theorem ret_le {v x:V} {bs:List (Nat × B)} {rs:List VL.Row} (h:Le v x):∃ w bs' rs',Le v w∧bs'.Sublist bs∧rs'.Sublist rs∧w=x∧bs'=[]∧rs'=[] :=
 ⟨x,[],[],h,List.nil_sublist _,List.nil_sublist _,rfl,rfl,rfl⟩
theorem getD_map {α:Type} (f:α→List V) (l:List α) (i:Nat) (h:i < l.length):(l.map f).getD i []=f l[i]:=by
 simp [List.getD,h]
end Go.Ar
set_option linter.unusedSimpArgs false
set_option maxRecDepth 100000
set_option linter.defProp false
namespace Go.Proofs.YtjdggbanifineaaGreat.Arr
open Go.VL Go.Ar Go.Proofs.YtjdggbanifineaaGreat Go.Proofs.YtjdggbanifineaaGreat.Arr
def tbAFa0:=(aI Ty.t4 Ty.t9)
set_option maxHeartbeats 400000 in
theorem nanS_ok (s:Str):OkP Tryz.prog 67 [vstr s] (vbool false):=by
 refine Ok.of_ex Ty.mixed Tryz.func67 rfl (by simp [Tryz.ntmps67]) (by kernel_rfl) fun F w0 I0=>?_
 simp only [↓rA,rB,buildOk,nt_is,simprocAttr,tbAFa0,Tryz.results67]
 exact ret_done rfl
def tbAFa1:=(aI Ty.t3 Ty.t4)
theorem nanI_ok (s:Int):OkP Tryz.prog 53 [vint s] (vbool false):=by
 refine Ok.of_ex Ty.mixed Tryz.func53 rfl (by simp [Tryz.ntmps53]) (by kernel_rfl) fun F w0 I0=>?_
 simp only [↓rA,rB,buildOk,nt_is,simprocAttr,tbAFa1,Tryz.results53]
 exact ret_done rfl
def tbAFa2:=(aI Ty.c53 (aI Ty.t3 Ty.t4))
theorem cmpI_ok (a b:Int):OkP Tryz.prog 25 [vint a,vint b] (vint (cmpI a b)):=by
 refine Ok.of_ex Ty.mixed Tryz.func25 rfl (by simp [Tryz.ntmps25]) (by kernel_rfl) fun F w0 I0=>?_
 simp only [↓rA,rB,buildOk,nt_is,simprocAttr,tbAFa2,Tryz.results25]
 refine OkF_of _ (nanI_ok a) ?_
 simp only [↓rA,rB,buildOk,nt_is,simprocAttr,tbAFa2,Tryz.results25]
 refine OkF_of _ (nanI_ok b) ?_
 by_cases h1:a < b
 ·simp only [↓rA,rB,buildOk,nt_is,simprocAttr,tbAFa2,Tryz.results25,h1]
  exact ret_done (by simp [cmpI,h1])
 ·by_cases h2:b < a
  ·simp only [↓rA,rB,buildOk,nt_is,simprocAttr,tbAFa2,Tryz.results25,h1,h2]
   exact ret_done (by simp [cmpI,h1,h2])
  ·simp only [↓rA,rB,buildOk,nt_is,simprocAttr,tbAFa2,Tryz.results25,h1,h2]
   exact ret_done (by simp [cmpI,h1,h2])
def tbAFa3:=(aI (aI Ty.c67 Ty.t3) (aI Ty.t4 Ty.t9))
theorem cmpS_ok (a b:Str):OkP Tryz.prog 39 [vstr a,vstr b] (vint (cmpS a b)):=by
 refine Ok.of_ex Ty.mixed Tryz.func39 rfl (by simp [Tryz.ntmps39]) (by kernel_rfl) fun F w0 I0=>?_
 simp only [↓rA,rB,buildOk,nt_is,simprocAttr,tbAFa3,Tryz.results39]
 refine OkF_of _ (nanS_ok a) ?_
 simp only [↓rA,rB,buildOk,nt_is,simprocAttr,tbAFa3,Tryz.results39]
 refine OkF_of _ (nanS_ok b) ?_
 cases h1:Op.bytesLess a.data.toList b.data.toList
 ·by_cases h2:a=b
  ·subst h2
   simp only [↓rA,rB,buildOk,nt_is,simprocAttr,tbAFa3,Tryz.results39,h1]
   exact ret_done (by simp [cmpS,less,h1])
  ·simp only [↓rA,rB,buildOk,nt_is,simprocAttr,tbAFa3,Tryz.results39,h1,h2]
   exact ret_done (by simp [cmpS,less,h1,h2])
 ·simp only [↓rA,rB,buildOk,nt_is,simprocAttr,tbAFa3,Tryz.results39,h1]
  exact ret_done (by simp [cmpS,less,h1])
def tbAFa4:=(aI Ty.t3 (aI Ty.t4 Ty.t91))
theorem or_ok (l:List Int) (hl:l.length≤9223372036854775807):OkP Tryz.prog 38 [vints l] (vint (orL l)):=by
 refine Ok.of_ex Ty.mixed Tryz.func38 rfl (by simp [Tryz.ntmps38]) (by kernel_rfl) fun F w0 I0=>?_
 simp only [↓rA,rB,buildOk,nt_is,simprocAttr,tbAFa4,Tryz.results38,List.length_map]
 refine EX_for Ty.mixed (by kernel_rfl) l.length (fun i S=>S.σ 6=vints l∧S.σ 7=vint l.length∧S.σ 8=vint i∧S.σ 3=vint 0∧S.boxes=[]∧orL l=orL (l.drop i)) ⟨0,?_⟩ (fun i S hi ⟨g6,g7,g8,g3,gb,ho⟩=>?_) (fun S ⟨g6,g7,g8,g3,gb,ho⟩=>?_)
 ·simp only [↓rA,rB,buildOk,nt_is,simprocAttr,tbAFa4,Tryz.results38]
 ·have hd:l.drop i=l[i]::l.drop (i+1):=List.drop_eq_getElem_cons hi
  rw [hd,orL] at ho
  by_cases h0:l[i]=0
  ·simp only [↓rA,rB,buildOk,nt_is,simprocAttr,tbAFa4,Tryz.results38,g6,g7,g8,g3,gb,Int.ofNat_lt,hi,List.length_map,getD_map,h0,wrap_succ hi hl]
   refine⟨0,?_⟩
   simpa [h0] using ho
  ·simp only [↓rA,rB,buildOk,nt_is,simprocAttr,tbAFa4,Tryz.results38,g6,g7,g8,g3,gb,Int.ofNat_lt,hi,List.length_map,getD_map,h0]
   exact ret_done (by rw [ho,if_neg h0])
 ·simp only [↓rA,rB,buildOk,nt_is,simprocAttr,tbAFa4,Tryz.results38,g6,g7,g8,g3,gb,Int.ofNat_lt,Nat.lt_irrefl]
  exact ret_done (by rw [ho];simp [orL])
end Go.Proofs.YtjdggbanifineaaGreat.Arr
set_option linter.unusedSimpArgs false
set_option maxRecDepth 100000
set_option linter.defProp false
namespace Go.Proofs.YtjdggbanifineaaGreat.Arr
open Go.VL Go.Ar Go.Proofs.YtjdggbanifineaaGreat Go.Proofs.YtjdggbanifineaaGreat.Arr
theorem compareBytes_eq:∀ a b:List UInt8,Go.Lib.compareBytes a b=if Op.bytesLess a b=true then -1 else if (Op.bytesLess a b || decide (a=b))=true then 0 else 1:=by
 intro a
 induction a with
 | nil=>intro b;cases b <;> simp [Go.Lib.compareBytes,Op.bytesLess]
 | cons x a ih =>
  intro b
  cases b with
  | nil=>simp [Go.Lib.compareBytes,Op.bytesLess]
  | cons y b =>
   simp only [Go.Lib.compareBytes,Op.bytesLess]
   have:=ih b
   by_cases h1:x < y
   ·simp [h1]
   ·by_cases h2:x=y
    ·subst h2;simp [h1,this]
    ·have h3:y < x:=by
      rw [UInt8.lt_iff_toNat_lt] at h1 ⊢
      have:x.toNat ≠ y.toNat:=fun e=>h2 (UInt8.toNat_inj.1 e)
      omega
     simp [h1,h2,h3]
theorem strCmp_ext (S:St) (a b:Str):ExtV Tryz.prog S 107 [vstr a,vstr b] (vint (cmpS a b)):=by
 intro w I xs _ hr
 have:xs=[.string a,.string b]:=by
  match xs,hr with
  | [x,y],hr=>simp only [V.reps,V.rep,and_true] at hr;rw [hr.1,hr.2]
  | [],hr=>simp [V.reps] at hr
  | [_],hr=>simp [V.reps] at hr
  | _::_::_::_,hr=>simp [V.reps] at hr
 subst this
 refine⟨.int .i64 (cmpS a b),w,?_,.inl rfl,by simp only [V.rep]⟩
 rw [run_callFunc_extern Tryz.func107 (by kernel_rfl) (by kernel_rfl) (by kernel_rfl) (e:=Extern.BytealgCompare.compare) (by kernel_rfl)]
 rw [Go.Lib.run_compareString (P:=Tryz.prog) a b w]
 simp only [Result.andThen,compareBytes_eq,cmpS,less]
 have:decide (a.data.toList=b.data.toList)=decide (a=b):=by
  rw [Bool.eq_iff_iff,decide_eq_true_eq,decide_eq_true_eq]
  exact⟨fun h=>ByteArray.ext (Array.ext' h),fun h=>by rw [h]⟩
 rw [this]
 congr 4
def tbAFb0:=(aI (aI Ty.c107 Ty.c41) (aI Ty.t3 Ty.t9))
theorem cmpString_ok (a b:Str):OkP Tryz.prog 87 [vstr a,vstr b] (vint (cmpS a b)):=by
 refine Ok.of_ex Ty.mixed Tryz.func87 rfl (by simp [Tryz.ntmps87]) (by kernel_rfl) fun F w0 I0=>?_
 simp only [↓rA,rB,buildOk,nt_is,simprocAttr,tbAFb0,Tryz.results87]
 refine ExtF_of _ (strCmp_ext _ a b) ?_
 simp only [↓rA,rB,buildOk,nt_is,simprocAttr,tbAFb0,Tryz.results87]
 exact ret_done rfl
def tbAFb1:=(aI (aI Ty.c41 Ty.c87) (aI Ty.t3 Ty.t9))
theorem stringsCompare_ok (a b:Str):OkP Tryz.prog 68 [vstr a,vstr b] (vint (cmpS a b)):=by
 refine Ok.of_ex Ty.mixed Tryz.func68 rfl (by simp [Tryz.ntmps68]) (by kernel_rfl) fun F w0 I0=>?_
 simp only [↓rA,rB,buildOk,nt_is,simprocAttr,tbAFb1,Tryz.results68]
 refine OkF_of _ (cmpString_ok a b) ?_
 simp only [↓rA,rB,buildOk,nt_is,simprocAttr,tbAFb1,Tryz.results68]
 exact ret_done rfl
def tbAFb2:=(aI Ty.c41 (aI Ty.t3 Ty.t4))
theorem ord13_ok (a b:Int):OkP Tryz.prog 89 [vint a,vint b] (vint (cmpI a b)):=by
 refine Ok.of_ex Ty.mixed Tryz.func89 rfl (by simp [Tryz.ntmps89]) (by kernel_rfl) fun F w0 I0=>?_
 by_cases h1:a < b
 ·simp only [↓rA,rB,buildOk,nt_is,simprocAttr,tbAFb2,Tryz.results89,h1]
  exact ret_done (by simp [cmpI,h1])
 ·by_cases h2:b < a
  ·simp only [↓rA,rB,buildOk,nt_is,simprocAttr,tbAFb2,Tryz.results89,h1,h2]
   exact ret_done (by simp [cmpI,h1,h2])
  ·simp only [↓rA,rB,buildOk,nt_is,simprocAttr,tbAFb2,Tryz.results89,h1,h2]
   exact ret_done (by simp [cmpI,h1,h2])
def tbAFb3:=(aI Ty.c41 (aI Ty.t3 Ty.t4))
theorem ord05_ok (a b:Int):OkP Tryz.prog 90 [vint a,vint b] (vint (cmpI a b)):=by
 refine Ok.of_ex Ty.mixed Tryz.func90 rfl (by simp [Tryz.ntmps90]) (by kernel_rfl) fun F w0 I0=>?_
 by_cases h1:a < b
 ·simp only [↓rA,rB,buildOk,nt_is,simprocAttr,tbAFb3,Tryz.results90,h1]
  exact ret_done (by simp [cmpI,h1])
 ·by_cases h2:b < a
  ·simp only [↓rA,rB,buildOk,nt_is,simprocAttr,tbAFb3,Tryz.results90,h1,h2]
   exact ret_done (by simp [cmpI,h1,h2])
  ·simp only [↓rA,rB,buildOk,nt_is,simprocAttr,tbAFb3,Tryz.results90,h1,h2]
   exact ret_done (by simp [cmpI,h1,h2])
def tbAFb4:=(aI (aI (aI Ty.c25 Ty.c38) (aI Ty.c39 Ty.c41)) (aI (aI Ty.t26 Ty.t3) (aI Ty.t4 (aI Ty.t9 Ty.t91))))
theorem cmpID_ok (a b:FID):OkP Tryz.prog 40 [.agg (cFID a),.agg (cFID b)] (vint (cmpID a b)):=by
 refine Ok.of_ex Ty.mixed Tryz.func40 rfl (by simp [Tryz.ntmps40]) (by kernel_rfl) fun F w0 I0=>?_
 simp only [↓rA,rB,buildOk,nt_is,simprocAttr,tbAFb4,Tryz.results40]
 refine fun b1 h1=>?_;replace h1:=newb h1;try simp only [Nb] at h1
 simp only [↓rA,rB,buildOk,nt_is,simprocAttr,tbAFb4,Tryz.results40]
 refine fun b2 h2=>?_;replace h2:=newb h2;try simp only [Nb] at h2
 simp only [↓rA,rB,buildOk,nt_is,simprocAttr,tbAFb4,Tryz.results40,h1,h2]
 refine onCond_splitb (fun hc=>?_) (fun hc=>?_)
 ·simp only [↓rA,rB,buildOk,nt_is,simprocAttr,tbAFb4,Tryz.results40]
  simp only [Bool.and_eq_true,decide_eq_true_eq] at hc
  have:a=b:=by cases a;cases b;simp_all
  exact ret_done (by simp [cmpID,this])
 ·have:¬ a=b:=fun e=>by subst e;simp at hc
  simp only [↓rA,rB,buildOk,nt_is,simprocAttr,tbAFb4,Tryz.results40,h1,h2]
  refine CallV_of _ (cmpS_ok a.src b.src).v ?_
  simp only [↓rA,rB,buildOk,nt_is,simprocAttr,tbAFb4,Tryz.results40,h1,h2]
  refine CallV_of _ (cmpI_ok a.seq b.seq).v ?_
  simp only [↓rA,rB,buildOk,nt_is,simprocAttr,tbAFb4,Tryz.results40,h1,h2]
  refine CallV_of _ (or_ok [cmpS a.src b.src,cmpI a.seq b.seq] (by simp)).v ?_
  simp only [↓rA,rB,buildOk,nt_is,simprocAttr,tbAFb4,Tryz.results40]
  exact ret_done (by simp [cmpID,this])
def tbAFb5:=(aI (aI (aI Ty.c25 Ty.c38) (aI Ty.c41 Ty.c68)) (aI (aI Ty.t28 Ty.t3) (aI Ty.t9 Ty.t91)))
theorem cmpVal_ok (a b:Val):OkP Tryz.prog 41 [.agg (cVal a),.agg (cVal b)] (vint (cmpVal a b)):=by
 refine Ok.of_ex Ty.mixed Tryz.func41 rfl (by simp [Tryz.ntmps41]) (by kernel_rfl) fun F w0 I0=>?_
 simp only [↓rA,rB,buildOk,nt_is,simprocAttr,tbAFb5,Tryz.results41]
 refine fun b1 h1=>?_;replace h1:=newb h1;try simp only [Nb] at h1
 simp only [↓rA,rB,buildOk,nt_is,simprocAttr,tbAFb5,Tryz.results41]
 refine fun b2 h2=>?_;replace h2:=newb h2;try simp only [Nb] at h2
 simp only [↓rA,rB,buildOk,nt_is,simprocAttr,tbAFb5,Tryz.results41,h1,h2]
 refine CallV_of _ (cmpI_ok a.kind b.kind).v ?_
 simp only [↓rA,rB,buildOk,nt_is,simprocAttr,tbAFb5,Tryz.results41,h1,h2]
 refine CallV_of _ (cmpI_ok a.n b.n).v ?_
 simp only [↓rA,rB,buildOk,nt_is,simprocAttr,tbAFb5,Tryz.results41,h1,h2]
 refine CallV_of _ (stringsCompare_ok a.s b.s).v ?_
 simp only [↓rA,rB,buildOk,nt_is,simprocAttr,tbAFb5,Tryz.results41,h1,h2]
 refine CallV_of _ (or_ok [cmpI a.kind b.kind,cmpI a.n b.n,cmpS a.s b.s] (by simp)).v ?_
 simp only [↓rA,rB,buildOk,nt_is,simprocAttr,tbAFb5,Tryz.results41]
 exact ret_done rfl
def tbAFb6:=(aI (aI Ty.c41 (aI Ty.c89 Ty.t26)) (aI Ty.t3 (aI Ty.t4 Ty.t9)))
theorem cmpID13_ok (a b:FID):OkP Tryz.prog 70 [.agg (cFID a),.agg (cFID b)] (vint (cmpID a b)):=by
 refine Ok.of_ex Ty.mixed Tryz.func70 rfl (by simp [Tryz.ntmps70]) (by kernel_rfl) fun F w0 I0=>?_
 simp only [↓rA,rB,buildOk,nt_is,simprocAttr,tbAFb6,Tryz.results70]
 refine fun b1 h1=>?_;replace h1:=newb h1;try simp only [Nb] at h1
 simp only [↓rA,rB,buildOk,nt_is,simprocAttr,tbAFb6,Tryz.results70]
 refine fun b2 h2=>?_;replace h2:=newb h2;try simp only [Nb] at h2
 simp only [↓rA,rB,buildOk,nt_is,simprocAttr,tbAFb6,Tryz.results70,h1,h2]
 cases hl:Op.bytesLess a.src.data.toList b.src.data.toList
 ·by_cases he:a.src=b.src
  ·have hl2:Op.bytesLess b.src.data.toList b.src.data.toList=false:=he▸hl
   simp only [↓rA,rB,buildOk,nt_is,simprocAttr,tbAFb6,Tryz.results70,h1,h2,hl2,he]
   refine OkF_of _ (ord13_ok a.seq b.seq) ?_
   simp only [↓rA,rB,buildOk,nt_is,simprocAttr,tbAFb6,Tryz.results70]
   exact ret_done (by rw [cmpID_seq he])
  ·simp only [↓rA,rB,buildOk,nt_is,simprocAttr,tbAFb6,Tryz.results70,h1,h2,hl,he]
   exact ret_done (by rw [cmpID_src he,cmpS_gt hl he])
 ·simp only [↓rA,rB,buildOk,nt_is,simprocAttr,tbAFb6,Tryz.results70,h1,h2,hl]
  exact ret_done (by rw [cmpID_src (less_ne hl),cmpS_lt hl])
def tbAFb7:=(aI (aI Ty.c41 (aI Ty.c90 Ty.t28)) (aI Ty.t3 (aI Ty.t4 Ty.t9)))
theorem cmpVal05_ok (a b:Val):OkP Tryz.prog 71 [.agg (cVal a),.agg (cVal b)] (vint (cmpVal a b)):=by
 refine Ok.of_ex Ty.mixed Tryz.func71 rfl (by simp [Tryz.ntmps71]) (by kernel_rfl) fun F w0 I0=>?_
 simp only [↓rA,rB,buildOk,nt_is,simprocAttr,tbAFb7,Tryz.results71]
 refine fun b1 h1=>?_;replace h1:=newb h1;try simp only [Nb] at h1
 simp only [↓rA,rB,buildOk,nt_is,simprocAttr,tbAFb7,Tryz.results71]
 refine fun b2 h2=>?_;replace h2:=newb h2;try simp only [Nb] at h2
 by_cases e1:a.kind=b.kind
 ·by_cases e2:a.n=b.n
  ·cases hl:Op.bytesLess a.s.data.toList b.s.data.toList
   ·by_cases he:a.s=b.s
    ·have hl2:Op.bytesLess b.s.data.toList b.s.data.toList=false:=he▸hl
     simp only [↓rA,rB,buildOk,nt_is,simprocAttr,tbAFb7,Tryz.results71,h1,h2,e1,e2,he,hl2]
     exact ret_done (by simp [cmpVal,orL,cmpI_eq0.2 e1,cmpI_eq0.2 e2,cmpS_eq0.2 he])
    ·simp only [↓rA,rB,buildOk,nt_is,simprocAttr,tbAFb7,Tryz.results71,h1,h2,e1,e2,he,hl]
     exact ret_done (by simp [cmpVal,orL,cmpI_eq0.2 e1,cmpI_eq0.2 e2,cmpS_gt hl he])
   ·simp only [↓rA,rB,buildOk,nt_is,simprocAttr,tbAFb7,Tryz.results71,h1,h2,e1,e2,hl]
    exact ret_done (by simp [cmpVal,orL,cmpI_eq0.2 e1,cmpI_eq0.2 e2,cmpS_lt hl])
  ·simp only [↓rA,rB,buildOk,nt_is,simprocAttr,tbAFb7,Tryz.results71,h1,h2,e1,e2]
   refine OkF_of _ (ord05_ok a.n b.n) ?_
   simp only [↓rA,rB,buildOk,nt_is,simprocAttr,tbAFb7,Tryz.results71]
   exact ret_done (by simp [cmpVal,orL,cmpI_eq0.2 e1,cmpI_eq0,e2])
 ·simp only [↓rA,rB,buildOk,nt_is,simprocAttr,tbAFb7,Tryz.results71,h1,h2,e1]
  refine OkF_of _ (ord05_ok a.kind b.kind) ?_
  simp only [↓rA,rB,buildOk,nt_is,simprocAttr,tbAFb7,Tryz.results71]
  exact ret_done (by simp [cmpVal,orL,cmpI_eq0,e1])
end Go.Proofs.YtjdggbanifineaaGreat.Arr
