/- Merged out of my texts AD AFa AFb AFc AFd AGa AP ASr APb APc APd AS AGb AGc AGd AGe AGf AGg AGh AGi AGj AGk AQ AQb AR AGl AHb AGm. -/
import Derived.Test.YtopfanlkbepemaaGreatKVR
import Derived.Test.YtopfanlkbepemaaGreatKVS
import Derived.Test.YtopfanlkbepemaaGreatKTy
import Derived.Lib.Bytealg
import Derived.Test.YtopfanlkbepemaaGreatKVT
import Derived.Shelf.SlSortCmp.WholeK
import Derived.Test.YtopfanlkbepemaaGreatKVQ
import Derived.Test.YtopfanlkbepemaaGreatProg
import Derived.Lib.Overlaps
namespace Go.Ar
open Go.VL
abbrev Str:=ByteArray
abbrev vint (n:Int):V:=.lit (.int .i64 n)
abbrev vbool (b:Bool):V:=.lit (.bool b)
abbrev vstr (s:Str):V:=.lit (.string s)
abbrev vints (xs:List Int):V:=.list none 1 (xs.map fun x=>[vint x])
abbrev vstrs (xs:List Str):V:=.list none 1 (xs.map fun x=>[vstr x])
abbrev ptr (b:Nat):V:=.lit (.pointer (some ⟨b,0,none⟩))
abbrev nilS:V:=.lit (.slice none 0 0)
structure FID where
 src:Str
 seq:Int
 deriving DecidableEq
structure Val where
 kind:Int
 n:Int
 s:Str
 deriving DecidableEq
structure Rw where
 id:FID
 table:Str
 key:Str
 event:Int
 fields:List Val
 no:Int
 tick:Int
 deriving DecidableEq
structure Dlt where
 row:Rw
 tick:Int
 n:Int
 deriving DecidableEq
structure Grp where
 key:Str
 ds:List Dlt
 deriving DecidableEq
structure Arr where
 since:Int
 groups:List Grp
 deriving DecidableEq
abbrev cFID (i:FID):List V:=[vstr i.src,vint i.seq]
abbrev cVal (v:Val):List V:=[vint v.kind,vint v.n,vstr v.s]
abbrev vVals (l:List Val):V:=.list none 3 (l.map cVal)
abbrev cRow (r:Rw):List V:=[vstr r.id.src,vint r.id.seq,vstr r.table,vstr r.key,vint r.event,vVals r.fields,vint r.no,vint r.tick]
abbrev cDlt (d:Dlt):List V:=[vstr d.row.id.src,vint d.row.id.seq,vstr d.row.table,vstr d.row.key,vint d.row.event,vVals d.row.fields,vint d.row.no,vint d.row.tick,vint d.tick,vint d.n]
abbrev vDlts (l:List Dlt):V:=.list none 10 (l.map cDlt)
abbrev vRows (l:List Rw):V:=.list none 8 (l.map cRow)
abbrev cGrp (g:Grp):List V:=[vstr g.key,vDlts g.ds]
abbrev vGrps (l:List Grp):V:=.list none 2 (l.map cGrp)
abbrev cArr (a:Arr):List V:=[vint a.since,vGrps a.groups]
abbrev vArr (a:Arr):V:=.agg (cArr a)
def less (a b:Str):Bool:=Op.bytesLess a.data.toList b.data.toList
def cmpI (a b:Int):Int:=if a < b then -1 else if b < a then 1 else 0
def cmpS (a b:Str):Int:=if less a b=true then -1 else if (less a b || decide (a=b))=true then 0 else 1
def orL:List Int→Int
 | []=>0
 | x::r=>if x=0 then orL r else x
def cmpID (a b:FID):Int:=if a=b then 0 else orL [cmpS a.src b.src,cmpI a.seq b.seq]
def cmpRow (a b:Rw):Int:=orL [cmpI a.event b.event,cmpID a.id b.id]
def cmpVal (a b:Val):Int:=orL [cmpI a.kind b.kind,cmpI a.n b.n,cmpS a.s b.s]
def cmpL:List Val→List Val→Int
 | [],[]=>0
 | [],_::_=>-1
 | _::_,[]=>1
 | a::l,b::m=>if cmpVal a b=0 then cmpL l m else cmpVal a b
def cmpFull (a b:Rw):Int:=orL [cmpRow a b,cmpI a.no b.no,cmpI a.tick b.tick,cmpS a.table b.table,cmpS a.key b.key,cmpL a.fields b.fields]
def cmpD (a b:Dlt):Int:=orL [cmpI a.tick b.tick,cmpFull a.row b.row]
theorem bytesLess_irrefl:∀ l:List UInt8,Op.bytesLess l l=false
 | []=>rfl
 | x::l=>by simp [Op.bytesLess,bytesLess_irrefl l]
theorem less_irrefl (a:Str):less a a=false:=bytesLess_irrefl _
theorem less_ne {a b:Str} (h:less a b=true):a ≠ b:=fun e=>by subst e;rw [less_irrefl] at h;cases h
theorem cmpS_lt {a b:Str} (h:less a b=true):cmpS a b=-1:=by simp [cmpS,h]
theorem cmpS_refl (a:Str):cmpS a a=0:=by simp [cmpS,less_irrefl]
theorem cmpS_gt {a b:Str} (h:less a b=false) (hn:¬ a=b):cmpS a b=1:=by simp [cmpS,h,hn]
theorem cmpS_eq0 {a b:Str}:cmpS a b=0↔a=b:=by
 constructor
 ·intro h
  cases hl:less a b
  ·by_cases he:a=b
   ·exact he
   ·rw [cmpS_gt hl he] at h;cases h
  ·rw [cmpS_lt hl] at h;cases h
 ·rintro rfl;exact cmpS_refl a
theorem cmpI_eq0 {a b:Int}:cmpI a b=0↔a=b:=by
 unfold cmpI
 constructor
 ·intro h
  split at h
  ·cases h
  ·split at h
   ·cases h
   ·omega
 ·rintro rfl;simp
theorem cmpID_eq0 {a b:FID}:cmpID a b=0↔a=b:=by
 unfold cmpID
 constructor
 ·intro h
  split at h
  ·assumption
  ·simp only [orL] at h
   cases a;cases b
   split at h
   ·rename_i h1
    split at h
    ·rename_i h2
     have q1:=cmpS_eq0.1 h1
     have q2:=cmpI_eq0.1 h2
     simp only [] at q1 q2
     rw [q1,q2]
    ·contradiction
   ·contradiction
 ·rintro rfl;simp
theorem wrap_id {n:Int} (h:-9223372036854775808≤n) (h':n < 9223372036854775808):IntKind.i64.wrap n=n:=IntWalk.i64_in n ⟨h,by omega⟩
theorem wrap_succ {i N:Nat} (h:i < N) (hN:N≤9223372036854775807):IntKind.i64.wrap ((i:Int)+1)=((i+1:Nat):Int):=by
 rw [wrap_id (by omega) (by omega)];rfl
theorem ret_done {v x:V} {bs:List (Nat × B)} {rs:List VL.Row} (h:v=x):∃ w bs' rs',Le v w∧bs'.Sublist bs∧rs'.Sublist rs∧w=x∧bs'=[]∧rs'=[] :=
 ⟨v,[],[],Le.refl _,List.nil_sublist _,List.nil_sublist _,h,rfl,rfl⟩
theorem ret_le {v x:V} {bs:List (Nat × B)} {rs:List VL.Row} (h:Le v x):∃ w bs' rs',Le v w∧bs'.Sublist bs∧rs'.Sublist rs∧w=x∧bs'=[]∧rs'=[] :=
 ⟨x,[],[],h,List.nil_sublist _,List.nil_sublist _,rfl,rfl,rfl⟩
theorem getD_map {α:Type} (f:α→List V) (l:List α) (i:Nat) (h:i < l.length):(l.map f).getD i []=f l[i]:=by
 simp [List.getD,h]
end Go.Ar
set_option linter.unusedSimpArgs false
set_option maxRecDepth 100000
set_option linter.defProp false
namespace Go.Proofs.YtopfanlkbepemaaGreat.Arr
open Go.VL Go.Ar Go.Proofs.YtopfanlkbepemaaGreat Go.Proofs.YtopfanlkbepemaaGreat.Arr
set_option maxHeartbeats 400000 in
theorem nanS_ok (s:Str):OkP Tryz.prog 87 [vstr s] (vbool false):=by
 refine Ok.of_ex Ty.mixed Tryz.func87 rfl (by simp [Tryz.ntmps87]) (by kernel_rfl) fun F w0 I0=>?_
 simp only [↓rA,rB,Nat.reduceEqDiff,reduceCtorEq,Tryz.results87]
 exact ret_done rfl
theorem nanI_ok (s:Int):OkP Tryz.prog 72 [vint s] (vbool false):=by
 refine Ok.of_ex Ty.mixed Tryz.func72 rfl (by simp [Tryz.ntmps72]) (by kernel_rfl) fun F w0 I0=>?_
 simp only [↓rA,rB,Nat.reduceEqDiff,reduceCtorEq,Tryz.results72]
 exact ret_done rfl
def tbAFa2:=(aI Ty.c72 (aI Ty.t3 Ty.t4))
theorem cmpI_ok (a b:Int):OkP Tryz.prog 45 [vint a,vint b] (vint (cmpI a b)):=by
 refine Ok.of_ex Ty.mixed Tryz.func45 rfl (by simp [Tryz.ntmps45]) (by kernel_rfl) fun F w0 I0=>?_
 simp only [↓rA,rB,reduceCtorEq,tbAFa2]
 refine OkF_of _ (nanI_ok a) ?_
 simp only [↓rA,rB,Nat.reduceEqDiff,tbAFa2]
 refine OkF_of _ (nanI_ok b) ?_
 by_cases h1:a < b
 ·simp only [↓rA,rB,Nat.reduceEqDiff,reduceCtorEq,Tryz.results45,h1]
  exact ret_done (by simp [cmpI,h1])
 ·by_cases h2:b < a
  ·simp only [↓rA,rB,Nat.reduceEqDiff,reduceCtorEq,Tryz.results45,h1,h2]
   exact ret_done (by simp [cmpI,h1,h2])
  ·simp only [↓rA,rB,Nat.reduceEqDiff,reduceCtorEq,Tryz.results45,h1,h2]
   exact ret_done (by simp [cmpI,h1,h2])
def tbAFa3:=(aI (aI Ty.c87 Ty.t3) (aI Ty.t4 Ty.t9))
theorem cmpS_ok (a b:Str):OkP Tryz.prog 57 [vstr a,vstr b] (vint (cmpS a b)):=by
 refine Ok.of_ex Ty.mixed Tryz.func57 rfl (by simp [Tryz.ntmps57]) (by kernel_rfl) fun F w0 I0=>?_
 simp only [↓rA,rB,reduceCtorEq,tbAFa3]
 refine OkF_of _ (nanS_ok a) ?_
 simp only [↓rA,rB,Nat.reduceEqDiff,tbAFa3]
 refine OkF_of _ (nanS_ok b) ?_
 cases h1:Op.bytesLess a.data.toList b.data.toList
 ·by_cases h2:a=b
  ·subst h2
   simp only [↓rA,rB,Nat.reduceEqDiff,reduceCtorEq,Tryz.results57,h1]
   exact ret_done (by simp [cmpS,less,h1])
  ·simp only [↓rA,rB,Nat.reduceEqDiff,reduceCtorEq,Tryz.results57,h1,h2]
   exact ret_done (by simp [cmpS,less,h1,h2])
 ·simp only [↓rA,rB,Nat.reduceEqDiff,reduceCtorEq,Tryz.results57,h1]
  exact ret_done (by simp [cmpS,less,h1])
def tbAFa4:=(aI Ty.t160 (aI Ty.t3 Ty.t4))
theorem or_ok (l:List Int) (hl:l.length≤9223372036854775807):OkP Tryz.prog 44 [vints l] (vint (orL l)):=by
 refine Ok.of_ex Ty.mixed Tryz.func44 rfl (by simp [Tryz.ntmps44]) (by kernel_rfl) fun F w0 I0=>?_
 simp only [↓rA,rB,reduceCtorEq,tbAFa4,Tryz.results44,List.length_map]
 refine EX_for Ty.mixed (by kernel_rfl) l.length (fun i S=>S.σ 6=vints l∧S.σ 7=vint l.length∧S.σ 8=vint i∧S.σ 3=vint 0∧S.boxes=[]∧orL l=orL (l.drop i)) ⟨0,?_⟩ (fun i S hi ⟨g6,g7,g8,g3,gb,ho⟩=>?_) (fun S ⟨g6,g7,g8,g3,gb,ho⟩=>?_)
 ·simp only [rB,Nat.reduceEqDiff]
 ·have hd:l.drop i=l[i]::l.drop (i+1):=List.drop_eq_getElem_cons hi
  rw [hd,orL] at ho
  by_cases h0:l[i]=0
  ·simp only [↓rA,rB,Nat.reduceEqDiff,tbAFa4,g6,g7,g8,g3,gb,Int.ofNat_lt,hi,List.length_map,getD_map,h0,wrap_succ hi hl]
   refine⟨0,?_⟩
   simpa [h0] using ho
  ·simp only [↓rA,rB,Nat.reduceEqDiff,tbAFa4,g6,g7,g8,g3,gb,Int.ofNat_lt,hi,List.length_map,getD_map,h0]
   exact ret_done (by rw [ho,if_neg h0])
 ·simp only [↓rA,rB,Nat.reduceEqDiff,g7,g8,g3,gb,Int.ofNat_lt,Nat.lt_irrefl]
  exact ret_done (by rw [ho];simp [orL])
end Go.Proofs.YtopfanlkbepemaaGreat.Arr
set_option linter.unusedSimpArgs false
set_option maxRecDepth 100000
set_option linter.defProp false
namespace Go.Proofs.YtopfanlkbepemaaGreat.Arr
open Go.VL Go.Ar Go.Proofs.YtopfanlkbepemaaGreat Go.Proofs.YtopfanlkbepemaaGreat.Arr
theorem compareBytes_eq:∀ a b:List UInt8,Go.Lib.compareBytes a b=if Op.bytesLess a b=true then -1 else if (Op.bytesLess a b || decide (a=b))=true then 0 else 1:=by
 intro a
 induction a with
 | nil=>intro b;cases b <;> simp [Go.Lib.compareBytes,Op.bytesLess]
 | cons x a ih =>
  intro b
  cases b with
  | nil=>simp [Go.Lib.compareBytes,Op.bytesLess]
  | cons y b =>
   simp only [Go.Lib.compareBytes,Op.bytesLess]
   have:=ih b
   by_cases h1:x < y
   ·simp [h1]
   ·by_cases h2:x=y
    ·subst h2;simp [h1,this]
    ·have h3:y < x:=by
      rw [UInt8.lt_iff_toNat_lt] at h1 ⊢
      have:x.toNat ≠ y.toNat:=fun e=>h2 (UInt8.toNat_inj.1 e)
      omega
     simp [h1,h2,h3]
theorem strCmp_ext (S:St) (a b:Str):ExtV Tryz.prog S 143 [vstr a,vstr b] (vint (cmpS a b)):=by
 intro w I xs _ hr
 have:xs=[.string a,.string b]:=by
  match xs,hr with
  | [x,y],hr=>simp only [V.reps,V.rep,and_true] at hr;rw [hr.1,hr.2]
  | [],hr=>simp [V.reps] at hr
  | [_],hr=>simp [V.reps] at hr
  | _::_::_::_,hr=>simp [V.reps] at hr
 subst this
 refine⟨.int .i64 (cmpS a b),w,?_,.inl rfl,by simp only [V.rep]⟩
 rw [run_callFunc_extern Tryz.func143 (by kernel_rfl) (by kernel_rfl) (by kernel_rfl) (e:=Extern.BytealgCompare.compare) (by kernel_rfl)]
 rw [Go.Lib.run_compareString (P:=Tryz.prog) a b w]
 simp only [Result.andThen,compareBytes_eq,cmpS,less]
 have:decide (a.data.toList=b.data.toList)=decide (a=b):=by
  rw [Bool.eq_iff_iff,decide_eq_true_eq,decide_eq_true_eq]
  exact⟨fun h=>ByteArray.ext (Array.ext' h),fun h=>by rw [h]⟩
 rw [this]
 congr 4
def tbAFb0:=(aI (aI Ty.c143 Ty.c75) (aI Ty.t3 Ty.t9))
theorem cmpString_ok (a b:Str):OkP Tryz.prog 114 [vstr a,vstr b] (vint (cmpS a b)):=by
 refine Ok.of_ex Ty.mixed Tryz.func114 rfl (by simp [Tryz.ntmps114]) (by kernel_rfl) fun F w0 I0=>?_
 simp only [↓rA,rB,Nat.reduceEqDiff,reduceCtorEq,tbAFb0]
 refine ExtF_of _ (strCmp_ext _ a b) ?_
 simp only [↓rA,rB,Tryz.results114]
 exact ret_done rfl
def tbAFb1:=(aI (aI Ty.c114 Ty.c75) (aI Ty.t3 Ty.t9))
theorem stringsCompare_ok (a b:Str):OkP Tryz.prog 73 [vstr a,vstr b] (vint (cmpS a b)):=by
 refine Ok.of_ex Ty.mixed Tryz.func73 rfl (by simp [Tryz.ntmps73]) (by kernel_rfl) fun F w0 I0=>?_
 simp only [↓rA,rB,Nat.reduceEqDiff,reduceCtorEq,tbAFb1]
 refine OkF_of _ (cmpString_ok a b) ?_
 simp only [↓rA,rB,Tryz.results73]
 exact ret_done rfl
def tbAFb2:=(aI (aI (aI Ty.c44 Ty.c45) (aI Ty.c57 Ty.c75)) (aI (aI Ty.t160 Ty.t3) (aI Ty.t4 (aI Ty.t40 Ty.t9))))
theorem cmpID_ok (a b:FID):OkP Tryz.prog 52 [.agg (cFID a),.agg (cFID b)] (vint (cmpID a b)):=by
 refine Ok.of_ex Ty.mixed Tryz.func52 rfl (by simp [Tryz.ntmps52]) (by kernel_rfl) fun F w0 I0=>?_
 simp only [↓rA,rB]
 refine fun b1 h1=>?_;replace h1:=newb h1;try simp only [Nb] at h1
 simp only [↓rA,rB,Nat.reduceEqDiff]
 refine fun b2 h2=>?_;replace h2:=newb h2;try simp only [Nb] at h2
 simp only [↓rA,rB,Nat.reduceAdd,Nat.reduceEqDiff,tbAFb2,h2]
 refine onCond_splitb (fun hc=>?_) (fun hc=>?_)
 ·simp only [↓rA,rB,Tryz.results52]
  simp only [Bool.and_eq_true,decide_eq_true_eq] at hc
  have:a=b:=by cases a;cases b;simp_all
  exact ret_done (by simp [cmpID,this])
 ·have:¬ a=b:=fun e=>by subst e;simp at hc
  simp only [↓rA,rB,Nat.reduceAdd,Nat.reduceEqDiff,tbAFb2,h2]
  refine CallV_of _ (cmpS_ok a.src b.src).v ?_
  simp only [↓rA,rB,Nat.reduceAdd,Nat.reduceEqDiff,tbAFb2,h2]
  refine CallV_of _ (cmpI_ok a.seq b.seq).v ?_
  simp only [↓rA,rB,Nat.reduceAdd,Nat.reduceEqDiff,Nat.reduceLT,Nat.reduceLeDiff,Nat.reduceMul,tbAFb2]
  refine CallV_of _ (or_ok [cmpS a.src b.src,cmpI a.seq b.seq] (by simp)).v ?_
  simp only [↓rA,rB,Tryz.results52]
  exact ret_done (by simp [cmpID,this])
def tbAFb3:=(aI (aI (aI Ty.c44 Ty.c45) (aI Ty.c52 (aI Ty.c75 Ty.t160))) (aI (aI Ty.t3 (aI Ty.t40 Ty.t41)) (aI Ty.t43 (aI Ty.t85 Ty.t9))))
theorem cmpRow_ok (a b:Rw):OkP Tryz.prog 26 [.agg (cRow a),.agg (cRow b)] (vint (cmpRow a b)):=by
 refine Ok.of_ex Ty.mixed Tryz.func26 rfl (by simp [Tryz.ntmps26]) (by kernel_rfl) fun F w0 I0=>?_
 simp only [↓rA,rB]
 refine fun b1 h1=>?_;replace h1:=newb h1;try simp only [Nb] at h1
 simp only [↓rA,rB,Nat.reduceEqDiff]
 refine fun b2 h2=>?_;replace h2:=newb h2;try simp only [Nb] at h2
 simp only [↓rA,rB,Nat.reduceAdd,Nat.reduceEqDiff,tbAFb3,h2]
 refine CallV_of _ (cmpI_ok a.event b.event).v ?_
 simp only [↓rA,rB,Nat.reduceAdd,Nat.reduceEqDiff,Nat.reduceLeDiff,tbAFb3,h2]
 refine CallV_of _ (cmpID_ok a.id b.id).v ?_
 simp only [↓rA,rB,Nat.reduceAdd,Nat.reduceEqDiff,Nat.reduceLT,Nat.reduceLeDiff,Nat.reduceMul,tbAFb3]
 refine CallV_of _ (or_ok [cmpI a.event b.event,cmpID a.id b.id] (by simp)).v ?_
 simp only [↓rA,rB,Tryz.results26]
 exact ret_done rfl
def tbAFb4:=(aI (aI (aI Ty.c44 Ty.c45) (aI Ty.c73 Ty.c75)) (aI (aI Ty.t160 Ty.t3) (aI Ty.t85 Ty.t9)))
theorem cmpVal_ok (a b:Val):OkP Tryz.prog 75 [.agg (cVal a),.agg (cVal b)] (vint (cmpVal a b)):=by
 refine Ok.of_ex Ty.mixed Tryz.func75 rfl (by simp [Tryz.ntmps75]) (by kernel_rfl) fun F w0 I0=>?_
 simp only [↓rA,rB]
 refine fun b1 h1=>?_;replace h1:=newb h1;try simp only [Nb] at h1
 simp only [↓rA,rB,Nat.reduceEqDiff]
 refine fun b2 h2=>?_;replace h2:=newb h2;try simp only [Nb] at h2
 simp only [↓rA,rB,Nat.reduceAdd,Nat.reduceEqDiff,tbAFb4,h2]
 refine CallV_of _ (cmpI_ok a.kind b.kind).v ?_
 simp only [↓rA,rB,Nat.reduceAdd,Nat.reduceEqDiff,tbAFb4,h2]
 refine CallV_of _ (cmpI_ok a.n b.n).v ?_
 simp only [↓rA,rB,Nat.reduceAdd,Nat.reduceEqDiff,tbAFb4,h2]
 refine CallV_of _ (stringsCompare_ok a.s b.s).v ?_
 simp only [↓rA,rB,Nat.reduceAdd,Nat.reduceEqDiff,Nat.reduceLT,Nat.reduceLeDiff,Nat.reduceMul,tbAFb4]
 refine CallV_of _ (or_ok [cmpI a.kind b.kind,cmpI a.n b.n,cmpS a.s b.s] (by simp)).v ?_
 simp only [↓rA,rB,Tryz.results75]
 exact ret_done rfl
theorem cmpL_drop:∀ (l m:List Val) (i:Nat) (hi:i < l.length) (hj:i < m.length),cmpL (l.drop i) (m.drop i)=if cmpVal l[i] m[i]=0 then cmpL (l.drop (i+1)) (m.drop (i+1)) else cmpVal l[i] m[i]:=fun l m i hi hj=>by
 rw [List.drop_eq_getElem_cons hi,List.drop_eq_getElem_cons hj,cmpL]
def tbAFb5:=(aI (aI Ty.c75 (aI Ty.t164 Ty.t3)) (aI (aI Ty.t4 Ty.t41) (aI Ty.t85 Ty.t9)))
theorem compareFunc_ok (l m:List Val) (hl:l.length≤9223372036854775807) (hm:m.length≤9223372036854775807) :
  OkP Tryz.prog 74 [vVals l,vVals m,.lit (.func (.func 75) #[] #[])] (vint (cmpL l m)):=by
 refine Ok.of_ex Ty.mixed Tryz.func74 rfl (by simp [Tryz.ntmps74]) (by kernel_rfl) fun F w0 I0=>?_
 simp only [↓rA,rB,reduceCtorEq,tbAFb5,Tryz.results74,List.length_map]
 refine EX_for Ty.mixed (by kernel_rfl) l.length (fun i S=>(i≤m.length∧cmpL l m=cmpL (l.drop i) (m.drop i))∧S.σ 0=vVals l∧S.σ 1=vVals m∧S.σ 2=.lit (.func (.func 75) #[] #[])∧S.σ 11=vVals l∧S.σ 12=vint l.length∧S.σ 13=vint i∧S.boxes=[]∧S.rows=[]) ⟨0,?_⟩
  (fun i S hi ⟨⟨him,ho⟩,g0,g1,g2,g11,g12,g13,gb,gr⟩=>?_) (fun S ⟨⟨him,ho⟩,g0,g1,g2,g11,g12,g13,gb,gr⟩=>?_)
 ·simp only [rB,Nat.reduceEqDiff,reduceCtorEq]
  try simp
 ·by_cases him':i < m.length
  ·have hd:=cmpL_drop l m i hi him'
   have hge:¬ (m.length≤i):=by omega
   simp only [↓rA,rB,Nat.reduceAdd,Nat.reduceEqDiff,tbAFb5,g11,g12,g13,gb,gr,Int.ofNat_lt,hi,List.length_map,getD_map]
   refine fun b1 h1=>?_;replace h1:=newb h1;try simp only [Nb] at h1
   simp only [↓rA,rB,Nat.reduceAdd,Nat.reduceEqDiff,tbAFb5,g1,gb,gr,Int.ofNat_lt,Int.ofNat_le,hi,hge,him',List.length_map,getD_map]
   refine fun b2 h2=>?_;replace h2:=newb h2;try simp only [Nb] at h2
   simp only [↓rA,rB,Nat.reduceAdd,Nat.reduceEqDiff,tbAFb5,g2,h2,hi,him',List.length_map,getD_map]
   refine OkF_of _ (cmpVal_ok l[i] m[i]) ?_
   by_cases h0:cmpVal l[i] m[i]=0
   ·simp only [↓rA,rB,Nat.reduceEqDiff,reduceCtorEq,g0,g1,g2,g11,g12,g13,gr,h0,wrap_succ hi hl]
    exact⟨2,⟨by omega,by rw [ho,hd,if_pos h0]⟩,rfl⟩
   ·simp only [↓rA,rB,Nat.reduceEqDiff,gr,h0]
    exact ret_done (by rw [ho,hd,if_neg h0])
  ·have hge:m.length≤i:=by omega
   simp only [↓rA,rB,Nat.reduceAdd,Nat.reduceEqDiff,tbAFb5,g11,g12,g13,gb,gr,Int.ofNat_lt,hi,List.length_map,getD_map]
   refine fun b1 h1=>?_;replace h1:=newb h1;try simp only [Nb] at h1
   simp only [↓rA,rB,Nat.reduceAdd,Nat.reduceEqDiff,tbAFb5,g1,gb,gr,Int.ofNat_le,hi,hge,List.length_map,getD_map]
   exact ret_done (by rw [ho,List.drop_eq_getElem_cons hi,List.drop_of_length_le hge,cmpL])
 ·by_cases hlm:l.length < m.length
  ·simp only [↓rA,rB,Nat.reduceEqDiff,reduceCtorEq,tbAFb5,g0,g1,g12,g13,gb,gr,Int.ofNat_lt,Nat.lt_irrefl,List.length_map,hlm]
   exact ret_done (by rw [ho,List.drop_eq_getElem_cons hlm,List.drop_of_length_le (Nat.le_refl _),cmpL])
  ·simp only [↓rA,rB,Nat.reduceEqDiff,reduceCtorEq,tbAFb5,g0,g1,g12,g13,gb,gr,Int.ofNat_lt,Nat.lt_irrefl,List.length_map,hlm]
   exact ret_done (by rw [ho,List.drop_of_length_le (Nat.le_refl _),List.drop_of_length_le (by omega),cmpL])
def tbAFb6:=(aI (aI (aI Ty.c26 (aI Ty.c44 Ty.c45)) (aI (aI Ty.c73 Ty.c74) (aI Ty.c75 Ty.t160))) (aI (aI Ty.t164 (aI Ty.t3 Ty.t40)) (aI (aI Ty.t41 Ty.t43) (aI Ty.t85 Ty.t9))))
theorem cmpFull_ok (a b:Rw) (hl:a.fields.length≤9223372036854775807) (hm:b.fields.length≤9223372036854775807):OkP Tryz.prog 46 [.agg (cRow a),.agg (cRow b)] (vint (cmpFull a b)):=by
 refine Ok.of_ex Ty.mixed Tryz.func46 rfl (by simp [Tryz.ntmps46]) (by kernel_rfl) fun F w0 I0=>?_
 simp only [↓rA,rB]
 refine fun b1 h1=>?_;replace h1:=newb h1;try simp only [Nb] at h1
 simp only [↓rA,rB,Nat.reduceEqDiff]
 refine fun b2 h2=>?_;replace h2:=newb h2;try simp only [Nb] at h2
 simp only [↓rA,rB,Nat.reduceAdd,Nat.reduceEqDiff,tbAFb6,h2]
 refine CallV_of _ (cmpRow_ok a b).v ?_
 simp only [↓rA,rB,Nat.reduceAdd,Nat.reduceEqDiff,tbAFb6,h2]
 refine CallV_of _ (cmpI_ok a.no b.no).v ?_
 simp only [↓rA,rB,Nat.reduceAdd,Nat.reduceEqDiff,tbAFb6,h2]
 refine CallV_of _ (cmpI_ok a.tick b.tick).v ?_
 simp only [↓rA,rB,Nat.reduceAdd,Nat.reduceEqDiff,tbAFb6,h2]
 refine CallV_of _ (stringsCompare_ok a.table b.table).v ?_
 simp only [↓rA,rB,Nat.reduceAdd,Nat.reduceEqDiff,tbAFb6,h2]
 refine CallV_of _ (stringsCompare_ok a.key b.key).v ?_
 simp only [↓rA,rB,Nat.reduceAdd,Nat.reduceEqDiff,tbAFb6,h2]
 refine CallV_of _ (compareFunc_ok a.fields b.fields hl hm).v ?_
 simp only [↓rA,rB,Nat.reduceAdd,Nat.reduceEqDiff,Nat.reduceLT,Nat.reduceLeDiff,Nat.reduceMul,tbAFb6]
 refine CallV_of _ (or_ok [cmpRow a b,cmpI a.no b.no,cmpI a.tick b.tick,cmpS a.table b.table,cmpS a.key b.key,cmpL a.fields b.fields] (by simp)).v ?_
 simp only [↓rA,rB,Tryz.results46]
 exact ret_done rfl
def tbAFb7:=(aI (aI (aI Ty.c44 (aI Ty.c45 Ty.c46)) (aI Ty.c75 (aI Ty.t160 Ty.t3))) (aI (aI Ty.t40 (aI Ty.t41 Ty.t43)) (aI Ty.t50 (aI Ty.t85 Ty.t9))))
theorem cmpD_ok (a b:Dlt) (hl:a.row.fields.length≤9223372036854775807) (hm:b.row.fields.length≤9223372036854775807):OkP Tryz.prog 43 [.agg (cDlt a),.agg (cDlt b)] (vint (cmpD a b)):=by
 refine Ok.of_ex Ty.mixed Tryz.func43 rfl (by simp [Tryz.ntmps43]) (by kernel_rfl) fun F w0 I0=>?_
 simp only [↓rA,rB]
 refine fun b1 h1=>?_;replace h1:=newb h1;try simp only [Nb] at h1
 simp only [↓rA,rB,Nat.reduceEqDiff]
 refine fun b2 h2=>?_;replace h2:=newb h2;try simp only [Nb] at h2
 simp only [↓rA,rB,Nat.reduceAdd,Nat.reduceEqDiff,tbAFb7,h2]
 refine CallV_of _ (cmpI_ok a.tick b.tick).v ?_
 simp only [↓rA,rB,Nat.reduceAdd,Nat.reduceEqDiff,Nat.reduceLeDiff,tbAFb7,h2]
 refine CallV_of _ (cmpFull_ok a.row b.row hl hm).v ?_
 simp only [↓rA,rB,Nat.reduceAdd,Nat.reduceEqDiff,Nat.reduceLT,Nat.reduceLeDiff,Nat.reduceMul,tbAFb7]
 refine CallV_of _ (or_ok [cmpI a.tick b.tick,cmpFull a.row b.row] (by simp)).v ?_
 simp only [↓rA,rB,Tryz.results43]
 exact ret_done rfl
end Go.Proofs.YtopfanlkbepemaaGreat.Arr
set_option linter.unusedSimpArgs false
set_option maxRecDepth 100000
set_option linter.defProp false
namespace Go.Proofs.YtopfanlkbepemaaGreat.Arr
open Go.VL Go.Ar Go.Proofs.YtopfanlkbepemaaGreat Go.Proofs.YtopfanlkbepemaaGreat.Arr
theorem ext_take {α:Type} {l m:List α} (hl:l.length=m.length) (h:∀ j,j < l.length→l[j]? = m[j]?):l=m:=by
 refine List.ext_getElem? fun j=>?_
 by_cases hj:j < l.length
 ·exact h j hj
 ·rw [List.getElem?_eq_none (by omega),List.getElem?_eq_none (by omega)]
theorem ne_at {α:Type} {l m:List α} {i:Nat} (hi:i < l.length) (hj:i < m.length) (h:¬ l[i]=m[i]):¬ l=m:=fun e=>by subst e;exact h rfl
theorem sofar {α:Type} {l m:List α} {i:Nat} (hi:i < l.length) (hj:i < m.length) (h:l[i]=m[i]) (hs:∀ j,j < i→l[j]? = m[j]?):∀ j,j < i+1→l[j]? = m[j]? := fun j hj'=>by
 by_cases e:j=i
 ·subst e;rw [List.getElem?_eq_getElem hi,List.getElem?_eq_getElem hj,h]
 ·exact hs j (by omega)
def tbAFc0:=(aI (aI Ty.t3 Ty.t4) (aI Ty.t41 (aI Ty.t85 Ty.t9)))
theorem sameFields_ok (l m:List Val) (hl:l.length≤9223372036854775807):OkP Tryz.prog 58 [vVals l,vVals m] (vbool (decide (l=m))):=by
 refine Ok.of_ex Ty.mixed Tryz.func58 rfl (by simp [Tryz.ntmps58]) (by kernel_rfl) fun F w0 I0=>?_
 by_cases he:l.length=m.length
 ·simp only [↓rA,rB,Nat.reduceEqDiff,reduceCtorEq,tbAFc0,Tryz.results58,List.length_map,he]
  refine EX_for Ty.mixed (by kernel_rfl) l.length (fun i S=>(∀ j,j < i→l[j]? = m[j]?)∧S.σ 0=vVals l∧S.σ 1=vVals m∧S.σ 5=vint i∧S.boxes=[]) ⟨0,?_⟩ (fun i S hi ⟨ho,g0,g1,g5,gb⟩=>?_) (fun S ⟨ho,g0,g1,g5,gb⟩=>?_)
  ·simp only [rB,Nat.reduceEqDiff,reduceCtorEq]
   try simp
  ·have hj:i < m.length:=by omega
   simp only [↓rA,rB,Nat.reduceAdd,Nat.reduceEqDiff,reduceCtorEq,tbAFc0,g0,g1,g5,Int.ofNat_lt,hi,hj,List.length_map,getD_map]
   refine onCond_splitb (fun hc=>?_) (fun hc=>?_)
   ·have:¬ l[i]=m[i]:=fun e=>by rw [e] at hc;simp at hc
    simp only [↓rA,rB]
    exact ret_done (by simp [ne_at hi hj this])
   ·have:l[i]=m[i]:=by
     generalize l[i]=x at hc;generalize m[i]=y at hc
     cases x;cases y;simp at hc;simp_all
    simp only [↓rA,rB,Nat.reduceEqDiff,reduceCtorEq,g0,g1,g5,gb,wrap_succ hi hl]
    exact⟨0,sofar hi hj this ho⟩
  ·simp only [↓rA,rB,Nat.reduceEqDiff,reduceCtorEq,tbAFc0,g0,g5,gb,Int.ofNat_lt,Nat.lt_irrefl,List.length_map]
   exact ret_done (by simp [ext_take he ho])
 ·have hi:¬ ((l.length:Int)=m.length):=by omega
  simp only [↓rA,rB,Nat.reduceEqDiff,reduceCtorEq,tbAFc0,Tryz.results58,List.length_map,hi]
  exact ret_done (by simp [show ¬ l=m from fun e=>he (by rw [e])])
def tbAFc1:=(aI (aI Ty.t3 Ty.t4) (aI Ty.t41 (aI Ty.t85 Ty.t9)))
theorem equalVals_ok (l m:List Val) (hl:l.length≤9223372036854775807):OkP Tryz.prog 47 [vVals l,vVals m] (vbool (decide (l=m))):=by
 refine Ok.of_ex Ty.mixed Tryz.func47 rfl (by simp [Tryz.ntmps47]) (by kernel_rfl) fun F w0 I0=>?_
 by_cases he:l.length=m.length
 ·simp only [↓rA,rB,Nat.reduceEqDiff,reduceCtorEq,tbAFc1,Tryz.results47,List.length_map,he]
  refine EX_for Ty.mixed (by kernel_rfl) l.length (fun i S=>(∀ j,j < i→l[j]? = m[j]?)∧S.σ 0=vVals l∧S.σ 1=vVals m∧S.σ 12=vint l.length∧S.σ 13=vint i∧S.boxes=[]) ⟨0,?_⟩ (fun i S hi ⟨ho,g0,g1,g12,g13,gb⟩=>?_) (fun S ⟨ho,g0,g1,g12,g13,gb⟩=>?_)
  ·simp only [rB,Nat.reduceEqDiff,reduceCtorEq,he]
   try simp
  ·have hj:i < m.length:=by omega
   simp only [↓rA,rB,Nat.reduceAdd,Nat.reduceEqDiff,reduceCtorEq,tbAFc1,g0,g1,g12,g13,Int.ofNat_lt,hi,hj,List.length_map,getD_map]
   refine onCond_splitb (fun hc=>?_) (fun hc=>?_)
   ·have:¬ l[i]=m[i]:=fun e=>by rw [e] at hc;simp at hc
    simp only [↓rA,rB]
    exact ret_done (by simp [ne_at hi hj this])
   ·have:l[i]=m[i]:=by
     generalize l[i]=x at hc;generalize m[i]=y at hc
     cases x;cases y;simp at hc;simp_all
    simp only [↓rA,rB,Nat.reduceEqDiff,reduceCtorEq,g0,g1,g12,g13,gb,wrap_succ hi hl]
    exact⟨0,sofar hi hj this ho⟩
  ·simp only [↓rA,rB,g12,g13,gb,Int.ofNat_lt,Nat.lt_irrefl]
   exact ret_done (by simp [ext_take he ho])
 ·have hi:¬ ((l.length:Int)=m.length):=by omega
  simp only [↓rA,rB,Nat.reduceEqDiff,reduceCtorEq,tbAFc1,Tryz.results47,List.length_map,hi]
  exact ret_done (by simp [show ¬ l=m from fun e=>he (by rw [e])])
def tbAFc2:=(aI (aI (aI Ty.c58 Ty.t3) (aI Ty.t4 Ty.t40)) (aI (aI Ty.t41 Ty.t43) (aI Ty.t85 Ty.t9)))
theorem sameRow_ok (a b:Rw) (hl:a.fields.length≤9223372036854775807):OkP Tryz.prog 30 [.agg (cRow a),.agg (cRow b)] (vbool (decide (a=b))):=by
 refine Ok.of_ex Ty.mixed Tryz.func30 rfl (by simp [Tryz.ntmps30]) (by kernel_rfl) fun F w0 I0=>?_
 have ext:a=b↔(a.id.src=b.id.src∧a.id.seq=b.id.seq)∧a.table=b.table∧a.key=b.key∧a.event=b.event∧a.fields=b.fields∧a.no=b.no∧a.tick=b.tick:=by
  cases a with | mk i1 _ _ _ _ _ _=>cases b with | mk i2 _ _ _ _ _ _=>cases i1;cases i2;simp
 simp only [↓rA,rB]
 refine fun b1 h1=>?_;replace h1:=newb h1;try simp only [Nb] at h1
 simp only [↓rA,rB,Nat.reduceEqDiff]
 refine fun b2 h2=>?_;replace h2:=newb h2;try simp only [Nb] at h2
 have fin:∀ x:Bool,(x=true↔a=b)→vbool x=vbool (decide (a=b)):=fun x hx=>by
  congr 2;rw [Bool.eq_iff_iff,hx,decide_eq_true_eq]
 by_cases e1:a.id.src=b.id.src∧a.id.seq=b.id.seq
 ·by_cases e2:a.table=b.table
  ·by_cases e3:a.key=b.key
   ·by_cases e4:a.event=b.event
    ·simp only [↓rA,rB,Nat.reduceAdd,Nat.reduceEqDiff,Nat.reduceLeDiff,tbAFc2,h2,e1,e2,e3,e4]
     refine OkF_of _ (sameFields_ok a.fields b.fields hl) ?_
     by_cases e5:a.fields=b.fields
     ·by_cases e6:a.no=b.no
      ·simp only [↓rA,rB,Nat.reduceAdd,Nat.reduceEqDiff,tbAFc2,Tryz.results30,h2,e5,e6]
       exact ret_done (fin _ (by rw [ext];simp [e1,e2,e3,e4,e5,e6]))
      ·simp only [↓rA,rB,Nat.reduceAdd,Nat.reduceEqDiff,tbAFc2,Tryz.results30,h2,e5,e6]
       exact ret_done (fin _ (by rw [ext];simp [e6]))
     ·simp only [↓rA,rB,Nat.reduceEqDiff,Tryz.results30,e5]
      exact ret_done (fin _ (by rw [ext];simp [e5]))
    ·simp only [↓rA,rB,Nat.reduceAdd,Nat.reduceEqDiff,Nat.reduceLeDiff,tbAFc2,Tryz.results30,h2,e1,e2,e3,e4]
     exact ret_done (fin _ (by rw [ext];simp [e4]))
   ·simp only [↓rA,rB,Nat.reduceAdd,Nat.reduceEqDiff,Nat.reduceLeDiff,tbAFc2,Tryz.results30,h2,e1,e2,e3]
    exact ret_done (fin _ (by rw [ext];simp [e3]))
  ·simp only [↓rA,rB,Nat.reduceAdd,Nat.reduceEqDiff,Nat.reduceLeDiff,tbAFc2,Tryz.results30,h2,e1,e2]
   exact ret_done (fin _ (by rw [ext];simp [e2]))
 ·have hf:(decide (a.id.src=b.id.src) && decide (a.id.seq=b.id.seq))=false:=by
   rw [Bool.eq_false_iff];simpa using e1
  simp only [↓rA,rB,Nat.reduceAdd,Nat.reduceEqDiff,Nat.reduceLeDiff,tbAFc2,Tryz.results30,h2,hf]
  exact ret_done (fin _ (by rw [ext];simp [e1]))
def okF (r:Rw):Prop:=r.fields.length≤9223372036854775807
def tbAFc3:=(aI (aI (aI Ty.c30 Ty.t3) (aI Ty.t34 Ty.t4)) (aI (aI Ty.t40 Ty.t41) (aI Ty.t43 (aI Ty.t85 Ty.t9))))
theorem sameRows_ok (l m:List Rw) (hl:l.length≤9223372036854775807) (hf:∀ r ∈ l,okF r):OkP Tryz.prog 11 [vRows l,vRows m] (vbool (decide (l=m))):=by
 refine Ok.of_ex Ty.mixed Tryz.func11 rfl (by simp [Tryz.ntmps11]) (by kernel_rfl) fun F w0 I0=>?_
 by_cases he:l.length=m.length
 ·simp only [↓rA,rB,Nat.reduceEqDiff,reduceCtorEq,tbAFc3,Tryz.results11,List.length_map,he]
  refine EX_for Ty.mixed (by kernel_rfl) l.length (fun i S=>(∀ j,j < i→l[j]? = m[j]?)∧S.σ 0=vRows l∧S.σ 1=vRows m∧S.σ 5=vint i∧S.boxes=[]∧S.rows=[]) ⟨0,?_⟩ (fun i S hi ⟨ho,g0,g1,g5,gb,gr⟩=>?_) (fun S ⟨ho,g0,g1,g5,gb,gr⟩=>?_)
  ·simp only [rB,Nat.reduceEqDiff,reduceCtorEq]
   try simp
  ·have hj:i < m.length:=by omega
   simp only [↓rA,rB,Nat.reduceAdd,Nat.reduceEqDiff,reduceCtorEq,tbAFc3,g0,g1,g5,Int.ofNat_lt,hi,hj,List.length_map,getD_map]
   refine CallV_of _ (sameRow_ok l[i] m[i] (hf _ (List.getElem_mem hi))).v ?_
   by_cases hc:l[i]=m[i]
   ·simp only [↓rA,rB,Nat.reduceEqDiff,reduceCtorEq,g0,g1,g5,gb,gr,hc,wrap_succ hi hl]
    exact⟨0,sofar hi hj hc ho⟩
   ·simp only [↓rA,rB,gb,gr,hc]
    exact ret_done (by simp [ne_at hi hj hc])
  ·simp only [↓rA,rB,Nat.reduceEqDiff,reduceCtorEq,tbAFc3,g0,g5,gb,gr,Int.ofNat_lt,Nat.lt_irrefl,List.length_map]
   exact ret_done (by simp [ext_take he ho])
 ·have hi:¬ ((l.length:Int)=m.length):=by omega
  simp only [↓rA,rB,Nat.reduceEqDiff,reduceCtorEq,tbAFc3,Tryz.results11,List.length_map,hi]
  exact ret_done (by simp [show ¬ l=m from fun e=>he (by rw [e])])
def tbAFc4:=(aI (aI Ty.t3 Ty.t36) (aI Ty.t4 Ty.t9))
theorem sameKeys_ok (l m:List Str) (hl:l.length≤9223372036854775807):OkP Tryz.prog 17 [vstrs l,vstrs m] (vbool (decide (l=m))):=by
 refine Ok.of_ex Ty.mixed Tryz.func17 rfl (by simp [Tryz.ntmps17]) (by kernel_rfl) fun F w0 I0=>?_
 by_cases he:l.length=m.length
 ·simp only [↓rA,rB,Nat.reduceEqDiff,reduceCtorEq,tbAFc4,Tryz.results17,List.length_map,he]
  refine EX_for Ty.mixed (by kernel_rfl) l.length (fun i S=>(∀ j,j < i→l[j]? = m[j]?)∧S.σ 0=vstrs l∧S.σ 1=vstrs m∧S.σ 5=vint i∧S.boxes=[]∧S.rows=[]) ⟨0,?_⟩ (fun i S hi ⟨ho,g0,g1,g5,gb,gr⟩=>?_) (fun S ⟨ho,g0,g1,g5,gb,gr⟩=>?_)
  ·simp only [rB,Nat.reduceEqDiff,reduceCtorEq]
   try simp
  ·have hj:i < m.length:=by omega
   by_cases hc:l[i]=m[i]
   ·simp only [↓rA,rB,Nat.reduceEqDiff,reduceCtorEq,tbAFc4,g0,g1,g5,gb,gr,Int.ofNat_lt,hi,hj,List.length_map,getD_map,hc,wrap_succ hi hl]
    exact⟨0,sofar hi hj hc ho⟩
   ·simp only [↓rA,rB,Nat.reduceEqDiff,reduceCtorEq,tbAFc4,g0,g1,g5,gb,gr,Int.ofNat_lt,hi,hj,List.length_map,getD_map,hc]
    exact ret_done (by simp [ne_at hi hj hc])
  ·simp only [↓rA,rB,Nat.reduceEqDiff,reduceCtorEq,tbAFc4,g0,g5,gb,gr,Int.ofNat_lt,Nat.lt_irrefl,List.length_map]
   exact ret_done (by simp [ext_take he ho])
 ·have hi:¬ ((l.length:Int)=m.length):=by omega
  simp only [↓rA,rB,Nat.reduceEqDiff,reduceCtorEq,tbAFc4,Tryz.results17,List.length_map,hi]
  exact ret_done (by simp [show ¬ l=m from fun e=>he (by rw [e])])
def ltD (a b:Dlt):Bool:=decide (a.tick < b.tick) || (decide (a.tick=b.tick) && decide (cmpFull a.row b.row < 0))
end Go.Proofs.YtopfanlkbepemaaGreat.Arr
set_option linter.unusedSimpArgs false
set_option maxRecDepth 100000
namespace Go.Proofs.YtopfanlkbepemaaGreat.Arr
open Go.VL Go.Ar Go.Proofs.YtopfanlkbepemaaGreat Go.Proofs.YtopfanlkbepemaaGreat.Arr
def big:Nat:=4194304
def allD (l:List Grp):List Dlt:=l.flatMap (·.ds)
theorem allD_take (l:List Grp) (i:Nat) (h:i < l.length):allD (l.take (i+1))=allD (l.take i)++l[i].ds:=by
 unfold allD;rw [List.take_succ_eq_append_getElem h,List.flatMap_append];simp
theorem allD_len (l:List Grp) (i:Nat) (h:i < l.length):(allD (l.take i)).length+l[i].ds.length≤(allD l).length:=by
 have:allD l=allD (l.take (i+1))++allD (l.drop (i+1)):=by simp only [allD];rw [← List.flatMap_append,List.take_append_drop]
 rw [this,allD_take l i h];simp
theorem ret_row {y:Value} {k:Nat} {e:TypeId} {es:List (List V)} {bs:List (Nat × B)} {rs:List VL.Row}:∃ w bs' rs',Le (.list (some y) k es) w∧bs'.Sublist bs∧rs'.Sublist (⟨y,k,e⟩::rs)∧bs'=[]∧∃ y',w=.list (some y') k es∧rs'=[⟨y',k,e⟩] :=
 ⟨_,[],[⟨y,k,e⟩],Le.refl _,List.nil_sublist _,List.Sublist.cons_cons _ (List.nil_sublist _),rfl,y,rfl,rfl⟩
def OkRow (P:Program) (f:FuncId) (args:List V) (k:Nat) (e:TypeId) (es:List (List V)):Prop :=
 Ok P f args [] fun v bs rs=>bs=[]∧∃ y,v=.list (some y) k es∧rs=[⟨y,k,e⟩]
theorem OkRow.p {P f args k e es} (h:OkRow P f args k e es):Ok P f args [] fun v bs rs=>∃ y,v=.list (some y) k es∧bs=[]∧rs=[⟨y,k,e⟩] :=
 Ok.mono h fun _ _ _ ⟨h1,y,h2,h3⟩=>⟨y,h2,h1,h3⟩
theorem Ok.norows {P f args bs0 Q Q'} (h:Ok P f args bs0 Q) (hq:∀ v bs rs,Q v bs rs→∃ v' bs' rs',Le v v'∧bs'.Sublist bs∧rs'.Sublist rs∧Q' v' bs' rs'):Ok P f args bs0 Q':=by
 intro w I xs hr hH
 refine(h w I xs hr hH).mono fun e w' ⟨x,v,bs',rs',I',he,hv,hk,hh,hn,hQ⟩=>?_
 obtain⟨v2,bs2,rs2,hl,h1,h2,hQ'⟩:=hq _ _ _ hQ
 exact⟨x,v2,bs2,rs2,I',he,hl w' I' x hv,hk,hh.sub h1 h2,fun b hb=>hn b ((List.Sublist.append (h1.map _) (h2.filterMap _)).subset hb),hQ'⟩
theorem OkRow.list {P f args k e es} (h:OkRow P f args k e es):OkP P f args (.list none k es) :=
 Ok.norows h fun v bs rs ⟨_,y,h2,_⟩=>⟨.list none k es,[],[],h2▸Le.list _ _ _,List.nil_sublist _,List.nil_sublist _,rfl,rfl,rfl⟩
def insK (l:List Str) (s:Str):List Str:=match l with
 | []=>[s]
 | k::r=>if less k s=true then k::insK r s else if k=s then k::r else s::k::r
def keysM (d:List Dlt):List Str:=d.foldl (fun l x=>insK l x.row.key) []
theorem insK_len (s:Str):∀ l:List Str,(insK l s).length≤l.length+1
 | []=>by simp [insK]
 | k::r=>by
  have:=insK_len s r
  unfold insK
  split
  ·simp;omega
  ·split <;> simp
theorem keysM_take (d:List Dlt) (i:Nat) (h:i < d.length):keysM (d.take (i+1))=insK (keysM (d.take i)) d[i].row.key:=by
 unfold keysM;rw [List.take_succ_eq_append_getElem h,List.foldl_append];rfl
theorem keysM_len (d:List Dlt):(keysM d).length≤d.length:=by
 have:∀ (d:List Dlt) (l:List Str),(d.foldl (fun l x=>insK l x.row.key) l).length≤l.length+d.length:=by
  intro d
  induction d with
  | nil=>intro l;simp
  | cons x d ih=>intro l;simp only [List.foldl_cons,List.length_cons];have:=ih (insK l x.row.key);have:=insK_len x.row.key l;omega
 simpa [keysM] using this d []
def wrap (n:Int):Int:=IntKind.i64.wrap n
def putM (l:List Dlt) (x:Dlt):List Dlt:=match l with
 | []=>if x.n=0 then [] else [x]
 | y::l=>if ltD y x=true then y::putM l x else if ltD x y=true then (if x.n=0 then y::l else x::y::l) else if wrap (x.n+y.n)=0 then l else { x with n:=wrap (x.n+y.n) }::l
def consM (d:List Dlt):List Dlt:=d.foldl putM []
theorem putM_len (x:Dlt):∀ l:List Dlt,(putM l x).length≤l.length+1
 | []=>by unfold putM;split <;> simp
 | y::l=>by
  have:=putM_len x l
  unfold putM
  repeat' split
  all_goals simp
  all_goals omega
theorem foldPut_len (d:List Dlt):∀ l:List Dlt,(d.foldl putM l).length≤l.length+d.length:=by
 induction d with
 | nil=>intro l;simp
 | cons x d ih=>intro l;simp only [List.foldl_cons,List.length_cons];have:=ih (putM l x);have:=putM_len x l;omega
theorem consM_len (d:List Dlt):(consM d).length≤d.length:=by simpa [consM] using foldPut_len d []
end Go.Proofs.YtopfanlkbepemaaGreat.Arr
set_option linter.unusedSimpArgs false
set_option maxRecDepth 100000
set_option linter.defProp false
namespace Go.Proofs.YtopfanlkbepemaaGreat.Arr
open Go.VL Go.Ar Go.Proofs.YtopfanlkbepemaaGreat Go.Proofs.YtopfanlkbepemaaGreat.Arr
def byte (n:Int) (i:Nat):Int:=IntKind.u8.wrap (n.fdiv (2 ^ (8 * i)))
def bytes8 (n:Int):List Int:=(List.range 8).map (byte n)
def strB (s:Str):List Int:=s.data.toList.map fun b=>(b.toNat:Int)
def encV (v:Val):List Int:=bytes8 v.kind++bytes8 v.n++bytes8 v.s.size++strB v.s
def encL (l:List Val):List Int:=l.flatMap encV
structure Mrk where
 id:FID
 table:Str
 key:Str
 event:Int
 no:Int
 rt:Int
 tick:Int
 text:Str
 deriving DecidableEq
abbrev cMrk (m:Mrk):List V:=[vstr m.id.src,vint m.id.seq,vstr m.table,vstr m.key,vint m.event,vint m.no,vint m.rt,vint m.tick,vstr m.text]
def markM (r:Rw) (t:Int):Mrk:=⟨r.id,r.table,r.key,r.event,r.no,r.tick,t,strOf (encL r.fields)⟩
abbrev cB (n:Int):List V:=[.lit (.int .u8 n)]
theorem flat8 (l:List Int):(l.flatMap bytes8).length=8 * l.length:=by
 induction l with
 | nil=>rfl
 | cons x l ih=>simp only [List.flatMap_cons,List.length_append,ih,List.length_cons,bytes8,List.length_map,List.length_range];omega
def tbAGa0:=(aI (aI (aI Ty.t122 Ty.t159) (aI Ty.t160 (aI Ty.t3 Ty.t4))) (aI (aI Ty.t40 (aI Ty.t41 Ty.t43)) (aI Ty.t5 (aI Ty.t85 Ty.t9))))
theorem mark_ok (r:Rw) (t:Int) (hf:r.fields.length≤big) (hs:(encL r.fields).length≤1099511627776):OkP Tryz.prog 41 [.agg (cRow r),vint t] (.agg (cMrk (markM r t))):=by
 refine Ok.of_ex Ty.mixed Tryz.func41 rfl (by simp [Tryz.ntmps41]) (by kernel_rfl) fun F w0 I0=>?_
 unfold big at hf
 simp only [↓rA,rB]
 refine fun b1 h1=>?_;replace h1:=newb h1;try simp only [Nb] at h1
 simp only [↓rA,rB,tbAGa0]
 refine fun b2 h2=>?_;replace h2:=newb h2;try simp only [Nb] at h2
 simp only [↓rA,rB,Nat.reduceEqDiff,tbAGa0,Tryz.results41,h2]
 refine AWP.nilRow 5 1 5 (by simp only [rB,Nat.reduceEqDiff]) (by decide) ?_
 refine EX_for Ty.mixed (by kernel_rfl) r.fields.length (fun i S=>∃ y,S.σ 5=.list (some y) 1 ((encL (r.fields.take i)).map cB)∧S.rows=[⟨y,1,5⟩]∧S.σ 1=vint t∧S.σ 2=ptr b1∧S.σ 4=ptr b2∧S.σ 12=vVals r.fields∧S.σ 13=vint r.fields.length∧S.σ 14=vint i∧S.boxes=[(b2,.c (cMrk ⟨⟨⟨#[]⟩,0⟩,⟨#[]⟩,⟨#[]⟩,0,0,0,0,⟨#[]⟩⟩)),(b1,.c (cRow r))]) ⟨0,nilv,?_⟩ (fun i S hi ⟨y,g5,gr,g1,g2,g4,g12,g13,g14,gb⟩=>?_) (fun S ⟨y,g5,gr,g1,g2,g4,g12,g13,g14,gb⟩=>?_)
 ·simp only [rB,Nat.reduceEqDiff]
  simp [encL]
 ·simp only [↓rA,rB,Nat.reduceAdd,Nat.reduceEqDiff,tbAGa0,gr,g12,g13,g14,gb,Int.ofNat_lt,hi,List.length_map,getD_map]
  refine fun b3 h3=>?_;replace h3:=newb h3;try simp only [Nb] at h3
  simp only [↓rA,rB,Nat.reduceAdd,Nat.reduceEqDiff,Nat.reduceLT,Nat.reduceLeDiff,Nat.reduceMul,tbAGa0,gb]
  intro y3
  refine AWP.dropRows 1 ?_
  generalize hns:([r.fields[i].kind,r.fields[i].n,(r.fields[i].s.size:Int)]:List Int)=ns
  have hl3:ns.length=3:=by rw [← hns];rfl
  have hmp:[[vint r.fields[i].kind],[vint r.fields[i].n],[vint r.fields[i].s.size]]=ns.map fun n=>[vint n]:=by rw [← hns];rfl
  generalize hA:encL (r.fields.take i)=A at g5
  have hAl:A.length≤(encL r.fields).length:=by
   rw [← hA]
   conv=>rhs;rw [← List.take_append_drop i r.fields]
   simp only [encL,List.flatMap_append,List.length_append];omega
  refine EX_for Ty.mixed (by kernel_rfl) 3 (fun j S=>∃ y,S.σ 5=.list (some y) 1 ((A++(ns.take j).flatMap bytes8).map cB)∧S.rows=[⟨y,1,5⟩]∧S.σ 1=vint t∧S.σ 2=ptr b1∧S.σ 4=ptr b2∧S.σ 7=ptr b3∧S.σ 12=vVals r.fields∧S.σ 13=vint r.fields.length∧S.σ 14=vint i∧S.σ 25=.list (some y3) 1 (ns.map fun n=>[vint n])∧S.σ 26=vint 3∧S.σ 27=vint j∧S.boxes=[(b3,.c (cVal r.fields[i])),(b2,.c (cMrk ⟨⟨⟨#[]⟩,0⟩,⟨#[]⟩,⟨#[]⟩,0,0,0,0,⟨#[]⟩⟩)),(b1,.c (cRow r))]) ⟨0,y,?_⟩ (fun j S hj ⟨y,g5,gr,g1,g2,g4,g7,g12,g13,g14,g25,g26,g27,gb⟩=>?_) (fun S ⟨y,g5,gr,g1,g2,g4,g7,g12,g13,g14,g25,g26,g27,gb⟩=>?_)
  ·simp only [rB,Nat.reduceEqDiff,g5,gr,g1,g2,g4,g12,g13,g14]
   refine⟨by simp,?_,rfl⟩
   rw [← hmp]
  ·have hj3:(j:Int) < 3:=by omega
   have hjl:j < ns.length:=by omega
   simp only [↓rA,rB,Nat.reduceEqDiff,tbAGa0,g25,g26,g27,hj3,List.length_map,hl3,show ((3:Nat):Int)=3 from rfl,getD_map (fun n=>[vint n]) ns j hjl]
   generalize hB:A++(ns.take j).flatMap bytes8=B at g5
   refine EX_forR Ty.mixed (by kernel_rfl) 8 (fun k S=>∃ y,S.σ 5=.list (some y) 1 ((B++(List.range k).map (byte ns[j])).map cB)∧S.rows=[⟨y,1,5⟩]∧S.σ 1=vint t∧S.σ 2=ptr b1∧S.σ 4=ptr b2∧S.σ 7=ptr b3∧S.σ 9=vint ns[j]∧S.σ 12=vVals r.fields∧S.σ 13=vint r.fields.length∧S.σ 14=vint i∧S.σ 25=.list (some y3) 1 (ns.map fun n=>[vint n])∧S.σ 26=vint 3∧S.σ 27=vint j∧S.σ 31=vint k∧S.boxes=[(b3,.c (cVal r.fields[i])),(b2,.c (cMrk ⟨⟨⟨#[]⟩,0⟩,⟨#[]⟩,⟨#[]⟩,0,0,0,0,⟨#[]⟩⟩)),(b1,.c (cRow r))]) ⟨0,1,y,?_⟩ (fun k S hk ⟨y,g5,gr,g1,g2,g4,g7,g9,g12,g13,g14,g25,g26,g27,g31,gb⟩=>?_) (fun S ⟨y,g5,gr,g1,g2,g4,g7,g9,g12,g13,g14,g25,g26,g27,g31,gb⟩=>?_)
   ·simp only [rB,Nat.reduceEqDiff,g5,gr,g1,g2,g4,g7,g12,g13,g14,g25,g26,g27,gb]
    simp
   ·have hk8:(k:Int) < 8:=by omega
    have hsh:IntKind.i64.wrap (8 * (k:Int))=((8 * k:Nat):Int):=by rw [wrap_id (by omega) (by omega)];rfl
    have hp:(0:Int)≤((8 * k:Nat):Int):=Int.natCast_nonneg _
    have hmin:min (8 * k) IntKind.i64.bits=8 * k:=Nat.min_eq_left (by show 8 * k≤64;omega)
    simp only [↓rA,rB,Nat.reduceEqDiff,Nat.reduceLT,Nat.reduceLeDiff,Nat.reduceMul,tbAGa0,g5,gr,g9,g31,hk8,hsh,hp,hmin]
    refine fun y1=>takeRF_2 ?_
    simp only [↓rA,rB,Nat.reduceEqDiff,g1,g2,g4,g7,g9,g12,g13,g14,g25,g26,g27,g31,gb,wrap_succ hk (show 8≤9223372036854775807 by decide)]
    have hBl:B.length≤A.length+24:=by
     rw [← hB,List.length_append,flat8,List.length_take];omega
    refine⟨by simp only [List.length_map,List.length_append,List.length_range];omega,fun y'=>⟨0,1,y',?_,rfl,rfl⟩⟩
    simp only [List.range_succ,List.map_append,List.append_assoc,List.map_cons,List.map_nil]
    rfl
   ·simp only [↓rA,rB,Int.reduceLT,Nat.reduceEqDiff,g5,gr,g1,g2,g4,g7,g12,g13,g14,g25,g26,g27,g31,gb,show ((8:Nat):Int)=8 from rfl,wrap_succ hj (show 3≤9223372036854775807 by decide)]
    refine⟨0,y,?_,rfl,rfl⟩
    rw [List.take_succ_eq_append_getElem hjl,← hB]
    simp only [List.flatMap_append,List.flatMap_cons,List.flatMap_nil,List.append_nil,List.append_assoc]
    rfl
  ·simp only [↓rA,rB,Int.reduceLT,Nat.reduceEqDiff,Nat.reduceLT,tbAGa0,g5,gr,g1,g2,g4,g7,g12,g13,g14,g26,g27,gb,show ((3:Nat):Int)=3 from rfl,wrap_succ hi (Nat.le_trans hf (by decide))]
   have hE:encL (r.fields.take (i+1))=A++(ns.flatMap bytes8++strB r.fields[i].s):=by
    rw [List.take_succ_eq_append_getElem hi,← hA,← hns]
    simp only [encL,List.flatMap_append,List.flatMap_cons,List.flatMap_nil,encV,List.append_nil,List.append_assoc]
   have hEl:(encL (r.fields.take (i+1))).length≤(encL r.fields).length:=by
    conv=>rhs;rw [← List.take_append_drop (i+1) r.fields]
    simp only [encL,List.flatMap_append,List.length_append];omega
   have hse:strE r.fields[i].s=(strB r.fields[i].s).map cB:=by simp [strE,bytesV,strB]
   have h3:ns.take 3=ns:=List.take_of_length_le (by omega)
   rw [h3,hse,← List.map_append,List.append_assoc,← hE]
   refine⟨?_,fun y'=>⟨1,y',rfl,rfl,rfl⟩⟩
   rw [hE,List.length_append,List.length_append] at hEl
   simp only [List.length_append,List.length_map]
   omega
 ·simp only [↓rA,rB,Nat.reduceAdd,Nat.reduceEqDiff,Nat.reduceLeDiff,tbAGa0,h2,g5,g1,g2,g13,g14,gb,Int.ofNat_lt,Nat.lt_irrefl]
  refine⟨by simp,encL r.fields,?_,?_⟩
  ·rw [List.take_of_length_le (Nat.le_refl _)]
   induction encL r.fields with
   | nil=>rfl
   | cons x l ih=>simp [ih]
  ·simp only [↓rA,rB,Nat.reduceAdd,Nat.reduceEqDiff,Nat.reduceLeDiff,tbAGa0,g4,gb]
   exact ret_done rfl
end Go.Proofs.YtopfanlkbepemaaGreat.Arr
namespace Go.Ar
open Go.VL
structure Pre {α:Type} (c:α→α→Int):Prop where
 anti:∀ a b,c b a=- c a b
 trans:∀ a b d,c a b≤0→c b d≤0→c a d≤0
section
variable {α β:Type}
theorem Pre.refl {c:α→α→Int} (h:Pre c) (a:α):c a a=0:=by have:=h.anti a a;omega
theorem Pre.pull {c:α→α→Int} (h:Pre c) (f:β→α):Pre fun a b=>c (f a) (f b):=⟨fun a b=>h.anti _ _,fun a b d=>h.trans _ _ _⟩
theorem Pre.lex {c d:α→α→Int} (h:Pre c) (h':Pre d):Pre fun a b=>if c a b=0 then d a b else c a b where
 anti a b:=by
  have e:=h.anti a b
  by_cases h0:c a b=0
  ·rw [if_pos h0,if_pos (by omega)];exact h'.anti a b
  ·rw [if_neg h0,if_neg (by omega)];exact e
 trans a b x:=by
  have e1:=h.anti a b;have e2:=h.anti b x;have e3:=h.anti a x
  have t1:=h.trans a b x;have t2:=h.trans x a b;have t3:=h.trans b x a
  have t4:=h.trans a x b;have t5:=h.trans b a x;have t6:=h.trans x b a
  have t:=h'.trans a b x
  intro h1 h2
  split at h1 <;> split at h2 <;> split <;> first | omega | (exact t h1 h2)
theorem Pre.lt_trans {c:α→α→Int} (h:Pre c) {a b d:α} (h1:c a b < 0) (h2:c b d < 0):c a d < 0:=by
 have e1:=h.anti a b;have e2:=h.anti b d;have e3:=h.anti a d
 have t1:=h.trans a b d (by omega) (by omega)
 have t2:=h.trans d a b
 omega
theorem pre_swo {c:α→α→Int} (h:Pre c):Go.Sort.SWO (Go.Proofs.ltOf c) where
 irrefl x:=by simp [Go.Proofs.ltOf,h.refl]
 trans x y z h1 h2:=by
  simp only [Go.Proofs.ltOf,decide_eq_true_eq] at *
  exact h.lt_trans h1 h2
 ntrans x y z h1 h2:=by
  simp only [Go.Proofs.ltOf,decide_eq_false_iff_not] at *
  have e1:=h.anti x y;have e2:=h.anti y z;have e3:=h.anti x z
  have:=h.trans z y x
  omega
end
theorem pre_cmpI:Pre cmpI:=⟨fun a b=>by unfold cmpI;repeat' split;all_goals omega,fun a b d=>by unfold cmpI;repeat' split;all_goals omega⟩
def cmpB (a b:List UInt8):Int:=if Op.bytesLess a b=true then -1 else if a=b then 0 else 1
theorem pre_cmpB:Pre cmpB:=by
 have cons:∀ (x y:UInt8) (l m:List UInt8),cmpB (x::l) (y::m)=if cmpI x.toNat y.toNat=0 then cmpB l m else cmpI x.toNat y.toNat:=by
  intro x y l m
  unfold cmpB cmpI
  simp only [Op.bytesLess,UInt8.lt_iff_toNat_lt,List.cons.injEq]
  by_cases e:x=y
  ·subst e;simp
  ·have:x.toNat ≠ y.toNat:=fun h=>e (UInt8.toNat_inj.1 h)
   rcases Nat.lt_or_gt_of_ne this with h | h
   ·simp [h]
   ·simp [e,Nat.not_lt.2 (Nat.le_of_lt h),h,show ¬ ((x.toNat:Int) < y.toNat) by omega]
 have nil1:∀ (y:UInt8) (m:List UInt8),cmpB [] (y::m)=-1:=fun _ _=>by simp [cmpB,Op.bytesLess]
 have nil2:∀ (y:UInt8) (m:List UInt8),cmpB (y::m) []=1:=fun _ _=>by simp [cmpB,Op.bytesLess]
 have nil:cmpB [] []=0:=by simp [cmpB,Op.bytesLess]
 refine⟨fun a=>?_,fun a=>?_⟩
 ·induction a with
  | nil=>intro b;cases b <;> simp [nil,nil1,nil2]
  | cons x a ih=>intro b;cases b with
   | nil=>simp [nil1,nil2]
   | cons y b =>
    rw [cons,cons,ih b,pre_cmpI.anti]
    by_cases h:cmpI (x.toNat:Int) y.toNat=0
    ·rw [if_pos h,if_pos (by omega)]
    ·rw [if_neg h,if_neg (by omega)]
 ·induction a with
  | nil=>intro b d;cases b <;> cases d <;> simp [nil,nil1,nil2]
  | cons x a ih=>intro b d;cases b with
   | nil=>simp [nil2]
   | cons y b=>cases d with
    | nil=>intro _ h;simp [nil2] at h
    | cons z d =>
     rw [cons,cons,cons]
     have e1:=pre_cmpI.anti (x.toNat:Int) y.toNat;have e2:=pre_cmpI.anti (y.toNat:Int) z.toNat;have e3:=pre_cmpI.anti (x.toNat:Int) z.toNat
     have t1:=pre_cmpI.trans (x.toNat:Int) y.toNat z.toNat;have t2:=pre_cmpI.trans (z.toNat:Int) x.toNat y.toNat;have t3:=pre_cmpI.trans (y.toNat:Int) z.toNat x.toNat
     have t:=ih b d
     intro h1 h2
     split at h1 <;> split at h2 <;> split <;> first | omega | (exact t h1 h2)
theorem cmpS_B (a b:Str):cmpS a b=cmpB a.data.toList b.data.toList:=by
 have:(a=b)↔(a.data.toList=b.data.toList):=⟨fun h=>by rw [h],fun h=>ByteArray.ext (Array.ext' h)⟩
 unfold cmpS cmpB less
 by_cases h:Op.bytesLess a.data.toList b.data.toList=true
 ·simp [h]
 ·by_cases e:a=b
  ·simp [e]
  ·have e':¬ a.data.toList=b.data.toList:=fun x=>e (this.2 x)
   rw [if_neg h,if_neg h,if_neg e',if_neg]
   simpa [h] using e
theorem pre_cmpS:Pre cmpS:=by
 have:=pre_cmpB.pull fun s:Str=>s.data.toList
 rwa [show cmpS=fun a b=>cmpB a.data.toList b.data.toList from funext fun a=>funext fun b=>cmpS_B a b]
theorem orL2 (a b:Int):orL [a,b]=if a=0 then b else a:=by
 simp only [orL]
 by_cases h:a=0
 ·by_cases h':b=0 <;> simp [h,h']
 ·simp [h]
theorem orL_cons (a:Int) (l:List Int):orL (a::l)=if a=0 then orL l else a:=rfl
theorem pre_cmpID:Pre cmpID:=by
 have h:=(pre_cmpS.pull FID.src).lex (pre_cmpI.pull FID.seq)
 have e:cmpID=fun a b=>if cmpS a.src b.src=0 then cmpI a.seq b.seq else cmpS a.src b.src:=by
  funext a b
  unfold cmpID
  rw [orL2]
  by_cases e:a=b
  ·subst e;simp [cmpS_refl,cmpI]
  ·simp [e]
 rwa [e]
theorem pre_cmpRow:Pre cmpRow:=by
 have h:=(pre_cmpI.pull Rw.event).lex (pre_cmpID.pull Rw.id)
 rwa [show cmpRow=_ from funext fun a=>funext fun b=>orL2 _ _]
theorem pre_cmpVal:Pre cmpVal:=by
 have h:=(pre_cmpI.pull Val.kind).lex ((pre_cmpI.pull Val.n).lex (pre_cmpS.pull Val.s))
 rwa [show cmpVal=_ from funext fun a=>funext fun b=>show orL _=_ by rw [orL_cons,orL2]]
theorem pre_cmpL:Pre cmpL:=by
 refine⟨fun a=>?_,fun a=>?_⟩
 ·induction a with
  | nil=>intro b;cases b <;> simp [cmpL]
  | cons x a ih=>intro b;cases b with
   | nil=>simp [cmpL]
   | cons y b =>
    simp only [cmpL]
    rw [ih b,pre_cmpVal.anti]
    by_cases h:cmpVal x y=0
    ·rw [if_pos h,if_pos (by omega)]
    ·rw [if_neg h,if_neg (by omega)]
 ·induction a with
  | nil=>intro b d;cases b <;> cases d <;> simp [cmpL]
  | cons x a ih=>intro b d;cases b with
   | nil=>simp [cmpL]
   | cons y b=>cases d with
    | nil=>intro _ h;simp [cmpL] at h
    | cons z d =>
     simp only [cmpL]
     have e1:=pre_cmpVal.anti x y;have e2:=pre_cmpVal.anti y z;have e3:=pre_cmpVal.anti x z
     have t1:=pre_cmpVal.trans x y z;have t2:=pre_cmpVal.trans z x y;have t3:=pre_cmpVal.trans y z x
     have t:=ih b d
     intro h1 h2
     split at h1 <;> split at h2 <;> split <;> first | omega | (exact t h1 h2)
theorem pre_cmpFull:Pre cmpFull:=by
 have h:=pre_cmpRow.lex ((pre_cmpI.pull Rw.no).lex ((pre_cmpI.pull Rw.tick).lex ((pre_cmpS.pull Rw.table).lex ((pre_cmpS.pull Rw.key).lex (pre_cmpL.pull Rw.fields)))))
 rwa [show cmpFull=_ from funext fun a=>funext fun b=>show orL _=_ by rw [orL_cons,orL_cons,orL_cons,orL_cons,orL2]]
theorem pre_cmpD:Pre cmpD:=by
 have h:=(pre_cmpI.pull Dlt.tick).lex (pre_cmpFull.pull Dlt.row)
 rwa [show cmpD=_ from funext fun a=>funext fun b=>orL2 _ _]
theorem ite0 {x y:Int} (h:(if x=0 then y else x)=0):x=0∧y=0:=by
 split at h
 ·rename_i h0;exact⟨h0,h⟩
 ·contradiction
theorem cmpVal_eq0 {a b:Val}:cmpVal a b=0↔a=b:=by
 unfold cmpVal
 rw [orL_cons,orL2]
 constructor
 ·intro h
  split at h
  ·rename_i h1
   split at h
   ·rename_i h2
    have q1:=cmpI_eq0.1 h1;have q2:=cmpI_eq0.1 h2;have q3:=cmpS_eq0.1 h
    cases a;cases b;simp_all
   ·contradiction
  ·contradiction
 ·rintro rfl;simp [cmpI_eq0.2,cmpS_eq0.2]
theorem cmpL_eq0:∀ {a b:List Val},cmpL a b=0↔a=b
 | [],[]=>by simp [cmpL]
 | [],_::_=>by simp [cmpL]
 | _::_,[]=>by simp [cmpL]
 | x::a,y::b=>by
  simp only [cmpL,List.cons.injEq]
  by_cases h:cmpVal x y=0
  ·rw [if_pos h,cmpL_eq0];simp [cmpVal_eq0.1 h]
  ·rw [if_neg h]
   constructor
   ·intro h';exact absurd h' h
   ·rintro⟨rfl,_⟩;exact absurd (cmpVal_eq0.2 rfl) h
theorem cmpFull_eq0 {a b:Rw}:cmpFull a b=0↔a=b:=by
 unfold cmpFull
 rw [orL_cons,orL_cons,orL_cons,orL_cons,orL2]
 constructor
 ·intro h
  obtain⟨h1,h⟩:=ite0 h
  obtain⟨h2,h⟩:=ite0 h
  obtain⟨h3,h⟩:=ite0 h
  obtain⟨h4,h⟩:=ite0 h
  obtain⟨h5,h⟩:=ite0 h
  unfold cmpRow at h1
  rw [orL2] at h1
  obtain⟨h0,h1⟩:=ite0 h1
  have q0:=cmpI_eq0.1 h0;have q1:=cmpID_eq0.1 h1;have q2:=cmpI_eq0.1 h2;have q3:=cmpI_eq0.1 h3;have q4:=cmpS_eq0.1 h4;have q5:=cmpS_eq0.1 h5;have q6:=cmpL_eq0.1 h
  cases a;cases b;simp_all
 ·rintro rfl
  simp [pre_cmpRow.refl,cmpI_eq0.2,cmpS_eq0.2,cmpL_eq0.2]
theorem cmpD_eq0 {a b:Dlt}:cmpD a b=0↔a.tick=b.tick∧a.row=b.row:=by
 unfold cmpD
 rw [orL2]
 constructor
 ·intro h
  split at h
  ·rename_i h0;exact⟨cmpI_eq0.1 h0,cmpFull_eq0.1 h⟩
  ·contradiction
 ·rintro⟨h1,h2⟩
  rw [if_pos (cmpI_eq0.2 h1)];exact cmpFull_eq0.2 h2
end Go.Ar
namespace Go.Proofs
open Go.Shelf
def Tryz.sortR_ren:Go.Shelf.Ren:=⟨fun | 6=>25 | 15=>51 | 14=>50 | 28=>85 | 29=>86 | 20=>77 | 21=>78 | 22=>79 | 23=>80 | 24=>81 | 25=>82 | 26=>83 | 27=>84 | 46=>115 | 47=>116 | 48=>117 | 49=>118 | 50=>119 | 57=>144 | n=>n,fun | 22=>34 | 24=>43 | 25=>100 | 3=>3 | 39=>141 | 0=>0 | 53=>173 | 55=>175 | 4=>4 | 46=>167 | 45=>166 | 50=>104 | 5=>5 | 9=>9 | 66=>194 | 70=>198 | 76=>224 | 77=>225 | n=>n,fun | n=>n⟩
theorem Tryz.sortR:Go.Proofs.SlLaysF0.n6 Tryz.prog Tryz.sortR_ren:={
 mixed:=by kernel_rfl
 f6:=⟨Tryz.f25.name,by decide,Tryz.func25.trans (congrArg some (by kernel_rfl))⟩
 f14:=⟨Tryz.f50.name,by decide,Tryz.func50.trans (congrArg some (by kernel_rfl))⟩
 f15:=Tryz.func51.trans (congrArg some (by kernel_rfl))
 f20:=⟨Tryz.f77.name,by decide,Tryz.func77.trans (congrArg some (by kernel_rfl))⟩
 f21:=⟨Tryz.f78.name,by decide,Tryz.func78.trans (congrArg some (by kernel_rfl))⟩
 f22:=⟨Tryz.f79.name,by decide,Tryz.func79.trans (congrArg some (by kernel_rfl))⟩
 f23:=⟨Tryz.f80.name,by decide,Tryz.func80.trans (congrArg some (by kernel_rfl))⟩
 f24:=⟨Tryz.f81.name,by decide,Tryz.func81.trans (congrArg some (by kernel_rfl))⟩
 f25:=⟨Tryz.f82.name,by decide,Tryz.func82.trans (congrArg some (by kernel_rfl))⟩
 f26:=⟨Tryz.f83.name,by decide,Tryz.func83.trans (congrArg some (by kernel_rfl))⟩
 f27:=⟨Tryz.f84.name,by decide,Tryz.func84.trans (congrArg some (by kernel_rfl))⟩
 f28:=Tryz.func85.trans (congrArg some (by kernel_rfl))
 f29:=Tryz.func86.trans (congrArg some (by kernel_rfl))
 f46:=⟨Tryz.f115.name,by decide,Tryz.func115.trans (congrArg some (by kernel_rfl))⟩
 f47:=Tryz.func116.trans (congrArg some (by kernel_rfl))
 f48:=Tryz.func117.trans (congrArg some (by kernel_rfl))
 f49:=⟨Tryz.f118.name,by decide,Tryz.func118.trans (congrArg some (by kernel_rfl))⟩
 f50:=⟨Tryz.f119.name,by decide,Tryz.func119.trans (congrArg some (by kernel_rfl))⟩
 f57:=⟨Tryz.f144.name,by decide,Tryz.func144.trans (congrArg some (by kernel_rfl))⟩
 t0:=Tryz.underlying0
 a0:=Tryz.isAgg0
 z0:=Tryz.sizeOf0
 v0:=Tryz.zeroValue0
 t3:=Tryz.underlying3
 a3:=Tryz.isAgg3
 z3:=Tryz.sizeOf3
 v3:=Tryz.zeroValue3
 t4:=Tryz.underlying4
 a4:=Tryz.isAgg4
 z4:=Tryz.sizeOf4
 v4:=Tryz.zeroValue4
 t5:=Tryz.underlying5
 a5:=Tryz.isAgg5
 z5:=Tryz.sizeOf5
 v5:=Tryz.zeroValue5
 t9:=Tryz.underlying9
 a9:=Tryz.isAgg9
 z9:=Tryz.sizeOf9
 v9:=Tryz.zeroValue9
 t22:=Tryz.underlying34
 a22:=Tryz.isAgg34
 z22:=Tryz.sizeOf34
 v22:=Tryz.zeroValue34
 t25:=Tryz.underlying100
 a25:=Tryz.isAgg100
 z25:=Tryz.sizeOf100
 v25:=Tryz.zeroValue100
 t39:=Tryz.underlying141
 a39:=Tryz.isAgg141
 z39:=Tryz.sizeOf141
 v39:=Tryz.zeroValue141
 t45:=Tryz.underlying166
 a45:=Tryz.isAgg166
 z45:=Tryz.sizeOf166
 v45:=Tryz.zeroValue166
 t46:=Tryz.underlying167
 a46:=Tryz.isAgg167
 z46:=Tryz.sizeOf167
 v46:=Tryz.zeroValue167
 t50:=Tryz.underlying104
 a50:=Tryz.isAgg104
 z50:=Tryz.sizeOf104
 v50:=Tryz.zeroValue104
 t53:=Tryz.underlying173
 a53:=Tryz.isAgg173
 z53:=Tryz.sizeOf173
 v53:=Tryz.zeroValue173
 t55:=Tryz.underlying175
 a55:=Tryz.isAgg175
 z55:=Tryz.sizeOf175
 v55:=Tryz.zeroValue175
 t66:=Tryz.underlying194
 a66:=Tryz.isAgg194
 z66:=Tryz.sizeOf194
 v66:=Tryz.zeroValue194
 t70:=Tryz.underlying198
 a70:=Tryz.isAgg198
 z70:=Tryz.sizeOf198
 v70:=Tryz.zeroValue198
 t76:=Tryz.underlying224
 a76:=Tryz.isAgg224
 z76:=Tryz.sizeOf224
 v76:=Tryz.zeroValue224
 t77:=Tryz.underlying225
 a77:=Tryz.isAgg225
 z77:=Tryz.sizeOf225
 v77:=Tryz.zeroValue225 }
end Go.Proofs
namespace Go.Proofs.YtopfanlkbepemaaGreat.Arr
open Go.VL Go.Ar Go.Proofs.YtopfanlkbepemaaGreat Go.Proofs.YtopfanlkbepemaaGreat.Arr
abbrev W64:Int:=18446744073709551616
def inR (n:Int):Prop:=-9223372036854775808≤n∧n < 9223372036854775808
theorem wrap_mod (n:Int):wrap n % W64=n % W64:=by
 show IntKind.i64.wrap n % 18446744073709551616=n % 18446744073709551616
 rw [IntKind.wrap_i64];omega
theorem wrap_in (n:Int):inR (wrap n):=by
 unfold inR wrap IntKind.wrap
 simp [IntKind.bits,IntKind.signed]
 split <;> omega
theorem inR_eq {a b:Int} (ha:inR a) (hb:inR b) (h:a % W64=b % W64):a=b:=by
 unfold inR at ha hb
 simp only [W64] at h
 omega
def coef:List Dlt→Int→Rw→Int
 | [],_,_=>0
 | x::l,t,r=>(if x.tick=t∧x.row=r then x.n else 0)+coef l t r
theorem coef_append (l m:List Dlt) (t:Int) (r:Rw):coef (l++m) t r=coef l t r+coef m t r:=by
 induction l with
 | nil=>simp [coef]
 | cons x l ih=>simp only [List.cons_append,coef,ih];omega
theorem coef_perm {l m:List Dlt} (h:l.Perm m) (t:Int) (r:Rw):coef l t r=coef m t r:=by
 induction h with
 | nil=>rfl
 | cons x _ ih=>simp only [coef,ih]
 | swap x y l=>simp only [coef];omega
 | trans _ _ h1 h2=>rw [h1,h2]
theorem coef_none {l:List Dlt} {t:Int} {r:Rw} (h:∀ y ∈ l,¬ (y.tick=t∧y.row=r)):coef l t r=0:=by
 induction l with
 | nil=>rfl
 | cons x l ih=>simp only [coef,if_neg (h x List.mem_cons_self),ih fun y hy=>h y (List.mem_cons_of_mem _ hy)];rfl
theorem ltD_cmp (a b:Dlt):ltD a b=decide (cmpD a b < 0):=by
 unfold ltD cmpD
 rw [orL2]
 by_cases h1:a.tick < b.tick
 ·have:cmpI a.tick b.tick=-1:=by simp [cmpI,h1]
  simp [h1,this]
 ·by_cases h2:a.tick=b.tick
  ·have:cmpI a.tick b.tick=0:=cmpI_eq0.2 h2
   rw [if_pos this]
   simp [h2]
  ·have:cmpI a.tick b.tick=1:=by simp [cmpI,h1,show b.tick < a.tick by omega]
   simp [h1,h2,this]
theorem ltD_trans {a b c:Dlt} (h:ltD a b=true) (h':ltD b c=true):ltD a c=true:=by
 rw [ltD_cmp,decide_eq_true_eq] at *
 exact pre_cmpD.lt_trans h h'
theorem ltD_key {a b:Dlt} (h:ltD a b=true):¬ (a.tick=b.tick∧a.row=b.row):=fun e=>by
 rw [ltD_cmp,cmpD_eq0.2 e] at h;cases h
theorem ltD_eq {a b:Dlt} (h:ltD a b=false) (h':ltD b a=false):a.tick=b.tick∧a.row=b.row:=by
 rw [ltD_cmp,decide_eq_false_iff_not] at h h'
 have:=pre_cmpD.anti a b
 exact cmpD_eq0.1 (by omega)
theorem ltD_congr {a b c:Dlt} (h1:a.tick=b.tick) (h2:a.row=b.row):ltD c a=ltD c b:=by unfold ltD;rw [h1,h2]
theorem ltD_congr' {a b c:Dlt} (h1:a.tick=b.tick) (h2:a.row=b.row):ltD a c=ltD b c:=by unfold ltD;rw [h1,h2]
def Canon (l:List Dlt):Prop:=l.Pairwise (fun a b=>ltD a b=true)∧∀ x ∈ l,x.n ≠ 0∧inR x.n
theorem Canon.tail {x:Dlt} {l:List Dlt} (h:Canon (x::l)):Canon l:=⟨(List.pairwise_cons.1 h.1).2,fun y hy=>h.2 y (List.mem_cons_of_mem _ hy)⟩
theorem Canon.head {x:Dlt} {l:List Dlt} (h:Canon (x::l)):coef (x::l) x.tick x.row=x.n:=by
 simp only [coef,and_self,if_true]
 rw [coef_none fun y hy e=>ltD_key ((List.pairwise_cons.1 h.1).1 y hy) ⟨e.1.symm,e.2.symm⟩]
 omega
theorem Canon.less {x y:Dlt} {m:List Dlt} (h:Canon (y::m)) (hx:ltD x y=true):coef (y::m) x.tick x.row=0:=by
 refine coef_none fun z hz e=>?_
 have:ltD x z=true:=by
  rcases List.mem_cons.1 hz with rfl | hz
  ·exact hx
  ·exact ltD_trans hx ((List.pairwise_cons.1 h.1).1 z hz)
 exact ltD_key this ⟨e.1.symm,e.2.symm⟩
theorem nz_mod {n:Int} (h:n ≠ 0) (hr:inR n):n % W64 ≠ 0:=by unfold inR at hr;simp only [W64];omega
theorem canon_eq:∀ {l m:List Dlt},Canon l→Canon m→(∀ t r,coef l t r % W64=coef m t r % W64)→l=m
 | [],[],_,_,_=>rfl
 | [],y::m,_,hm,h=>by
  have:=h y.tick y.row
  rw [hm.head] at this
  exact absurd (this.symm.trans (by simp [coef])) (nz_mod (hm.2 y List.mem_cons_self).1 (hm.2 y List.mem_cons_self).2)
 | x::l,[],hl,_,h=>by
  have:=h x.tick x.row
  rw [hl.head] at this
  exact absurd (this.trans (by simp [coef])) (nz_mod (hl.2 x List.mem_cons_self).1 (hl.2 x List.mem_cons_self).2)
 | x::l,y::m,hl,hm,h=>by
  have hx:=hl.2 x List.mem_cons_self
  have hy:=hm.2 y List.mem_cons_self
  cases h1:ltD x y
  ·cases h2:ltD y x
   ·obtain⟨e1,e2⟩:=ltD_eq h1 h2
    have hn:x.n=y.n:=by
     have:=h x.tick x.row
     rw [hl.head,e1,e2,hm.head] at this
     exact inR_eq hx.2 hy.2 this
    have hxy:x=y:=by cases x;cases y;simp_all
    subst hxy
    rw [canon_eq hl.tail hm.tail fun t r=>?_]
    have:=h t r
    simp only [coef] at this
    simp only [W64] at this ⊢
    omega
   ·have:=h y.tick y.row
    rw [hm.head,hl.less h2] at this
    exact absurd this.symm (nz_mod hy.1 hy.2)
  ·have:=h x.tick x.row
   rw [hl.head,hm.less h1] at this
   exact absurd this (nz_mod hx.1 hx.2)
theorem putM_coef (x:Dlt) (t:Int) (r:Rw):∀ l:List Dlt,coef (putM l x) t r % W64=((if x.tick=t∧x.row=r then x.n else 0)+coef l t r) % W64
 | []=>by
  unfold putM
  by_cases h:x.n=0
  ·simp [h,coef]
  ·simp [h,coef]
 | y::l=>by
  have ih:=putM_coef x t r l
  unfold putM
  by_cases h1:ltD y x=true
  ·rw [if_pos h1]
   simp only [coef]
   simp only [W64] at ih ⊢
   omega
  ·rw [if_neg h1]
   by_cases h2:ltD x y=true
   ·rw [if_pos h2]
    by_cases h:x.n=0
    ·simp [h]
    ·simp [h,coef]
   ·rw [if_neg h2]
    obtain⟨e1,e2⟩:=ltD_eq (by simpa using h2) (by simpa using h1)
    have hw:=wrap_mod (x.n+y.n)
    by_cases h:wrap (x.n+y.n)=0
    ·rw [if_pos h]
     rw [h] at hw
     simp only [coef,e1,e2]
     simp only [W64] at hw ⊢
     split <;> omega
    ·rw [if_neg h]
     simp only [coef,e1,e2]
     simp only [W64] at hw ⊢
     split <;> omega
theorem putM_keys {x y:Dlt}:∀ {l:List Dlt},y ∈ putM l x→(y.tick=x.tick∧y.row=x.row)∨∃ z ∈ l,y.tick=z.tick∧y.row=z.row
 | [],h=>by
  unfold putM at h
  split at h
  ·cases h
  ·rw [List.mem_singleton] at h;subst h;exact .inl ⟨rfl,rfl⟩
 | z::l,h=>by
  unfold putM at h
  repeat' split at h
  ·rcases List.mem_cons.1 h with rfl | h
   ·exact .inr ⟨_,List.mem_cons_self,rfl,rfl⟩
   ·exact(putM_keys h).imp id fun⟨w,hw,e⟩=>⟨w,List.mem_cons_of_mem _ hw,e⟩
  ·exact .inr ⟨y,h,rfl,rfl⟩
  ·rcases List.mem_cons.1 h with rfl | h
   ·exact .inl ⟨rfl,rfl⟩
   ·exact .inr ⟨y,h,rfl,rfl⟩
  ·exact .inr ⟨y,List.mem_cons_of_mem _ h,rfl,rfl⟩
  ·rcases List.mem_cons.1 h with rfl | h
   ·exact .inl ⟨rfl,rfl⟩
   ·exact .inr ⟨y,List.mem_cons_of_mem _ h,rfl,rfl⟩
theorem putM_canon {x:Dlt} (hx:inR x.n):∀ {l:List Dlt},Canon l→Canon (putM l x)
 | [],_=>by
  unfold putM
  split
  ·exact⟨List.Pairwise.nil,by simp⟩
  ·rename_i h;exact⟨by simp,fun y hy=>by rw [List.mem_singleton] at hy;subst hy;exact⟨h,hx⟩⟩
 | y::l,h=>by
  have ih:=putM_canon hx h.tail
  have hc:=List.pairwise_cons.1 h.1
  unfold putM
  split
  ·rename_i h1
   refine⟨List.pairwise_cons.2 ⟨fun z hz=>?_,ih.1⟩,fun z hz=>?_⟩
   ·rcases putM_keys hz with⟨e1,e2⟩ | ⟨w,hw,e1,e2⟩
    ·rw [ltD_congr e1 e2];exact h1
    ·rw [ltD_congr e1 e2];exact hc.1 w hw
   ·rcases List.mem_cons.1 hz with rfl | hz
    ·exact h.2 _ List.mem_cons_self
    ·exact ih.2 z hz
  ·rename_i h1
   split
   ·rename_i h2
    split
    ·exact h
    ·rename_i h0
     refine⟨List.pairwise_cons.2 ⟨fun z hz=>?_,h.1⟩,fun z hz=>?_⟩
     ·rcases List.mem_cons.1 hz with rfl | hz
      ·exact h2
      ·exact ltD_trans h2 (hc.1 z hz)
     ·rcases List.mem_cons.1 hz with rfl | hz
      ·exact⟨h0,hx⟩
      ·exact h.2 z hz
   ·rename_i h2
    obtain⟨e1,e2⟩:=ltD_eq (by simpa using h2) (by simpa using h1)
    split
    ·exact h.tail
    ·rename_i h0
     refine⟨List.pairwise_cons.2 ⟨fun z hz=>?_,hc.2⟩,fun z hz=>?_⟩
     ·exact(ltD_congr' (b:=y) (c:=z) e1 e2).trans (hc.1 z hz)
     ·rcases List.mem_cons.1 hz with rfl | hz
      ·exact⟨h0,wrap_in _⟩
      ·exact h.2 z (List.mem_cons_of_mem _ hz)
def okN (d:List Dlt):Prop:=∀ x ∈ d,inR x.n
theorem foldPut_ok (d:List Dlt) (hd:okN d):∀ l,Canon l→Canon (d.foldl putM l)∧∀ t r,coef (d.foldl putM l) t r % W64=(coef l t r+coef d t r) % W64:=by
 induction d with
 | nil=>intro l hl;exact⟨hl,fun t r=>by simp [coef]⟩
 | cons x d ih =>
  intro l hl
  obtain⟨h1,h2⟩:=ih (fun y hy=>hd y (List.mem_cons_of_mem _ hy)) (putM l x) (putM_canon (hd x List.mem_cons_self) hl)
  refine⟨h1,fun t r=>?_⟩
  have hp:=putM_coef x t r l
  have:=h2 t r
  simp only [List.foldl_cons,coef]
  simp only [W64] at hp this ⊢
  omega
theorem consM_canon {d:List Dlt} (hd:okN d):Canon (consM d):=(foldPut_ok d hd [] ⟨List.Pairwise.nil,by simp⟩).1
theorem consM_coef {d:List Dlt} (hd:okN d) (t:Int) (r:Rw):coef (consM d) t r % W64=coef d t r % W64:=by
 have:=(foldPut_ok d hd [] ⟨List.Pairwise.nil,by simp⟩).2 t r
 simpa [coef,consM] using this
theorem eq_consM {d l:List Dlt} (hd:okN d) (hl:Canon l) (h:∀ t r,coef l t r % W64=coef d t r % W64):l=consM d :=
 canon_eq hl (consM_canon hd) fun t r=>(h t r).trans (consM_coef hd t r).symm
theorem consM_congr {d e:List Dlt} (hd:okN d) (he:okN e) (h:∀ t r,coef d t r % W64=coef e t r % W64):consM d=consM e :=
 eq_consM he (consM_canon hd) fun t r=>(consM_coef hd t r).trans (h t r)
theorem consM_self {d:List Dlt} (hd:Canon d):consM d=d:=(eq_consM (fun x hx=>(hd.2 x hx).2) hd fun _ _=>rfl).symm
theorem canon_nil {d:List Dlt} (h:Canon d):okN d:=fun x hx=>(h.2 x hx).2
end Go.Proofs.YtopfanlkbepemaaGreat.Arr
namespace Go.Proofs.YtopfanlkbepemaaGreat.Arr
open Go.VL Go.Ar Go.Proofs.YtopfanlkbepemaaGreat Go.Proofs.YtopfanlkbepemaaGreat.Arr
theorem byte_eq (n:Int) (i:Nat):byte n i=n / 2 ^ (8 * i) % 256:=by
 unfold byte
 rw [Int.fdiv_eq_ediv_of_nonneg _ (Int.pow_nonneg (by decide))]
 simp [IntKind.wrap,IntKind.bits,IntKind.signed]
theorem byte_in (n:Int) (i:Nat):0≤byte n i∧byte n i < 256:=by rw [byte_eq];omega
theorem step8 {a b:Int} (h:a / 256=b / 256) (h':a % 256=b % 256):a=b:=by omega
theorem bytes8_inj {n m:Int} (hn:inR n) (hm:inR m) (h:bytes8 n=bytes8 m):n=m:=by
 have hb:∀ i,i < 8→n / 2 ^ (8 * i) % 256=m / 2 ^ (8 * i) % 256:=fun i hi=>by
  rw [← byte_eq,← byte_eq]
  exact List.map_inj_left.1 h i (by simpa using hi)
 have down:∀ j,j≤7→n / 2 ^ (8 * (7 - j))=m / 2 ^ (8 * (7 - j)):=by
  intro j
  induction j with
  | zero =>
   intro _
   have h7:=hb 7 (by omega)
   unfold inR at hn hm
   simp only [Nat.sub_zero,show (2:Int) ^ (8 * 7)=72057594037927936 from rfl] at h7 ⊢
   omega
  | succ j ih =>
   intro hj
   have h1:=ih (by omega)
   have h2:=hb (7 - (j+1)) (by omega)
   have e:(2:Int) ^ (8 * (7 - j))=2 ^ (8 * (7 - (j+1))) * 256:=by
    rw [show 8 * (7 - j)=8 * (7 - (j+1))+8 by omega,Int.pow_add];rfl
   rw [e,← Int.ediv_ediv_of_nonneg (Int.pow_nonneg (by decide)),← Int.ediv_ediv_of_nonneg (Int.pow_nonneg (by decide))] at h1
   exact step8 h1 h2
 simpa using down 7 (Nat.le_refl _)
theorem bytes8_len (n:Int):(bytes8 n).length=8:=by simp [bytes8]
def okV (v:Val):Prop:=inR v.kind∧inR v.n∧v.s.size < 9223372036854775808
theorem strB_len (s:Str):(strB s).length=s.size:=by simp [strB]
theorem strB_inj {s t:Str} (h:strB s=strB t):s=t:=by
 refine ByteArray.ext (Array.ext' ?_)
 unfold strB at h
 generalize s.data.toList=l at h
 generalize t.data.toList=m at h
 induction l generalizing m with
 | nil=>cases m with
  | nil=>rfl
  | cons=>simp at h
 | cons x l ih=>cases m with
  | nil=>simp at h
  | cons y m =>
   simp only [List.map_cons,List.cons.injEq] at h
   rw [ih m h.2,UInt8.toNat_inj.1 (by omega:x.toNat=y.toNat)]
theorem encV_inj {v w:Val} {a b:List Int} (hv:okV v) (hw:okV w) (h:encV v++a=encV w++b):v=w∧a=b:=by
 obtain⟨v1,v2,v3⟩:=hv
 obtain⟨w1,w2,w3⟩:=hw
 unfold encV at h
 simp only [List.append_assoc] at h
 obtain⟨e1,h⟩:=List.append_inj h (by rw [bytes8_len,bytes8_len])
 obtain⟨e2,h⟩:=List.append_inj h (by rw [bytes8_len,bytes8_len])
 obtain⟨e3,h⟩:=List.append_inj h (by rw [bytes8_len,bytes8_len])
 have q3:=bytes8_inj (show inR (v.s.size:Int) from⟨by omega,by omega⟩) (show inR (w.s.size:Int) from⟨by omega,by omega⟩) e3
 obtain⟨e4,h'⟩:=List.append_inj h (by rw [strB_len,strB_len];omega)
 have q1:=bytes8_inj v1 w1 e1
 have q2:=bytes8_inj v2 w2 e2
 have q4:=strB_inj e4
 cases v;cases w
 simp only at q1 q2 q4
 subst q1 q2 q4
 exact⟨rfl,h'⟩
theorem encV_len (v:Val):24≤(encV v).length:=by simp only [encV,List.length_append,bytes8_len];omega
theorem encL_inj:∀ {l m:List Val},(∀ v ∈ l,okV v)→(∀ v ∈ m,okV v)→encL l=encL m→l=m
 | [],[],_,_,_=>rfl
 | [],w::m,_,_,h=>by
  have:=congrArg List.length h
  have hw:=encV_len w
  simp only [encL,List.flatMap_nil,List.flatMap_cons,List.length_nil,List.length_append] at this
  omega
 | v::l,[],_,_,h=>by
  have:=congrArg List.length h
  have hw:=encV_len v
  simp only [encL,List.flatMap_nil,List.flatMap_cons,List.length_nil,List.length_append] at this
  omega
 | v::l,w::m,hl,hm,h=>by
  simp only [encL,List.flatMap_cons] at h
  obtain⟨rfl,h'⟩:=encV_inj (hl v List.mem_cons_self) (hm w List.mem_cons_self) h
  rw [encL_inj (fun x hx=>hl x (List.mem_cons_of_mem _ hx)) (fun x hx=>hm x (List.mem_cons_of_mem _ hx)) h']
theorem encL_in {l:List Val}:∀ x ∈ encL l,0≤x∧x < 256:=by
 intro x hx
 obtain⟨v,_,hx⟩:=List.mem_flatMap.1 hx
 have h8:∀ n,x ∈ bytes8 n→0≤x∧x < 256:=fun n h=>by
  obtain⟨i,_,rfl⟩:=List.mem_map.1 h
  exact byte_in n i
 unfold encV at hx
 rcases List.mem_append.1 hx with hx | hx
 ·rcases List.mem_append.1 hx with hx | hx
  ·rcases List.mem_append.1 hx with hx | hx
   ·exact h8 _ hx
   ·exact h8 _ hx
  ·exact h8 _ hx
 ·obtain⟨b,_,rfl⟩:=List.mem_map.1 hx
  have:=b.toNat_lt
  omega
theorem strOf_inj:∀ {a b:List Int},(∀ x ∈ a,0≤x∧x < 256)→(∀ x ∈ b,0≤x∧x < 256)→strOf a=strOf b→a=b:=by
 intro a b ha hb h
 have h':(a.map fun n=>UInt8.ofNat n.toNat)=b.map fun n=>UInt8.ofNat n.toNat:=by
  have:=congrArg (fun s:ByteArray=>s.data.toList) h
  simpa [strOf] using this
 clear h
 induction a generalizing b with
 | nil=>cases b with
  | nil=>rfl
  | cons=>simp at h'
 | cons x a ih=>cases b with
  | nil=>simp at h'
  | cons y b =>
   simp only [List.map_cons,List.cons.injEq] at h'
   have hx:=ha x List.mem_cons_self
   have hy:=hb y List.mem_cons_self
   have e:=congrArg UInt8.toNat h'.1
   rw [UInt8.toNat_ofNat_of_lt' (show x.toNat < 256 by omega),UInt8.toNat_ofNat_of_lt' (show y.toNat < 256 by omega)] at e
   rw [show x=y by omega,ih (fun z hz=>ha z (List.mem_cons_of_mem _ hz)) (fun z hz=>hb z (List.mem_cons_of_mem _ hz)) h'.2]
def okR (r:Rw):Prop:=∀ v ∈ r.fields,okV v
theorem mark_inj {a b:Rw} {t u:Int} (ha:okR a) (hb:okR b):markM a t=markM b u↔a=b∧t=u:=by
 constructor
 ·intro h
  simp only [markM,Mrk.mk.injEq] at h
  obtain⟨h1,h2,h3,h4,h5,h6,h7,h8⟩:=h
  have:=encL_inj ha hb (strOf_inj encL_in encL_in h8)
  cases a;cases b;simp_all
 ·rintro⟨rfl,rfl⟩;rfl
end Go.Proofs.YtopfanlkbepemaaGreat.Arr
namespace Go.Proofs.YtopfanlkbepemaaGreat.Arr
open Go.VL Go.Ar Go.Proofs.YtopfanlkbepemaaGreat Go.Proofs.YtopfanlkbepemaaGreat.Arr
abbrev kM (m:Mrk):Value:=.agg [.string m.id.src,.int .i64 m.id.seq,.string m.table,.string m.key,.int .i64 m.event,.int .i64 m.no,.int .i64 m.rt,.int .i64 m.tick,.string m.text].toArray
abbrev keyOf (x:Dlt):Value:=kM (markM x.row x.tick)
theorem keq_kM (m m':Mrk):keq (kM m) (kM m')=decide (m=m'):=by
 obtain⟨⟨a1,a2⟩,a3,a4,a5,a6,a7,a8,a9⟩:=m
 obtain⟨⟨b1,b2⟩,b3,b4,b5,b6,b7,b8,b9⟩:=m'
 simp only [keq,Value.cells,veqL,veq,Mrk.mk.injEq,FID.mk.injEq]
 rw [Bool.eq_iff_iff]
 simp only [Bool.and_eq_true,decide_eq_true_eq,Bool.and_true,true_and]
 grind
def sameK (x y:Dlt):Prop:=x.tick=y.tick∧x.row=y.row
instance (x y:Dlt):Decidable (sameK x y):=inferInstanceAs (Decidable (_∧_))
abbrev ents (g:List (Nat × Dlt)):List Ent:=g.map fun p=>(p.1,keyOf p.2,.agg (cDlt p.2))
def findG (g:List (Nat × Dlt)) (x:Dlt):Option (Nat × Dlt):=g.find? fun p=>decide (sameK x p.2)
def modG (x:Dlt) (n:Int):List (Nat × Dlt)→List (Nat × Dlt)
 | []=>[]
 | p::g=>if sameK x p.2 then (p.1,{ p.2 with n:=n })::g else p::modG x n g
theorem keq_of {x y:Dlt} (hx:okR x.row) (hy:okR y.row):keq (keyOf x) (keyOf y)=decide (sameK x y):=by
 rw [keq_kM]
 have:=mark_inj (t:=x.tick) (u:=y.tick) hx hy
 refine decide_eq_decide.2 (this.trans ?_)
 exact⟨fun h=>⟨h.2,h.1⟩,fun h=>⟨h.2,h.1⟩⟩
theorem findM_ents {x:Dlt} (hx:okR x.row):∀ {g:List (Nat × Dlt)},(∀ p ∈ g,okR p.2.row)→findM (ents g) (keyOf x)=(findG g x).map fun p=>.agg (cDlt p.2)
 | [],_=>rfl
 | p::g,h=>by
  have ih:=findM_ents hx (g:=g) fun q hq=>h q (List.mem_cons_of_mem _ hq)
  simp only [findM,findG] at ih ⊢
  simp only [ents,List.map_cons,List.find?_cons,keq_of hx (h p List.mem_cons_self)]
  cases decide (sameK x p.2)
  ·exact ih
  ·rfl
theorem modM_ents {x:Dlt} (hx:okR x.row) (n:Int):∀ {g:List (Nat × Dlt)},(∀ p ∈ g,okR p.2.row)→modM (keyOf x) (.agg (cDlt { x with n:=n })) (ents g)=ents (modG x n g)
 | [],_=>rfl
 | p::g,h=>by
  have ih:=modM_ents hx n (g:=g) fun q hq=>h q (List.mem_cons_of_mem _ hq)
  simp only [ents,List.map_cons,modM,modG,keq_of hx (h p List.mem_cons_self),decide_eq_true_eq] at ih ⊢
  by_cases hs:sameK x p.2
  ·obtain⟨e1,e2⟩:=hs
   rw [if_pos ⟨e1,e2⟩,if_pos ⟨e1,e2⟩]
   simp only [List.map_cons,e1,e2]
  ·rw [if_neg hs,if_neg hs,ih]
   rfl
structure Good (d:List Dlt) (g:List (Nat × Dlt)) (cl:Nat):Prop where
 ok:∀ p ∈ g,p.1 < cl∧inR p.2.n∧∃ x ∈ d,x.row=p.2.row
 apart:g.Pairwise fun p q=>p.1 < q.1∧¬ sameK p.2 q.2
 sum:∀ t r,coef (g.map (·.2)) t r % W64=coef d t r % W64
theorem findG_none {g:List (Nat × Dlt)} {x:Dlt} (h:findG g x=none):∀ p ∈ g,¬ sameK x p.2:=fun p hp=>by
 have:=List.find?_eq_none.1 h p hp
 simpa using this
theorem modG_mem {x:Dlt} {n:Int}:∀ {g:List (Nat × Dlt)} {q:Nat × Dlt},q ∈ modG x n g→∃ p ∈ g,q.1=p.1∧sameK q.2 p.2∧(q=p∨q.2.n=n)
 | [],_,h=>by cases h
 | p::g,q,h=>by
  unfold modG at h
  split at h
  ·rcases List.mem_cons.1 h with rfl | h
   ·exact⟨p,List.mem_cons_self,rfl,⟨rfl,rfl⟩,.inr rfl⟩
   ·exact⟨q,List.mem_cons_of_mem _ h,rfl,⟨rfl,rfl⟩,.inl rfl⟩
  ·rcases List.mem_cons.1 h with rfl | h
   ·exact⟨_,List.mem_cons_self,rfl,⟨rfl,rfl⟩,.inl rfl⟩
   ·obtain⟨p',hp',e⟩:=modG_mem h
    exact⟨p',List.mem_cons_of_mem _ hp',e⟩
theorem modG_apart {x:Dlt} {n:Int}:∀ {g:List (Nat × Dlt)},(g.Pairwise fun p q=>p.1 < q.1∧¬ sameK p.2 q.2)→(modG x n g).Pairwise fun p q=>p.1 < q.1∧¬ sameK p.2 q.2
 | [],h=>h
 | p::g,h=>by
  have hc:=List.pairwise_cons.1 h
  unfold modG
  split
  ·exact List.pairwise_cons.2 ⟨fun q hq=>hc.1 q hq,hc.2⟩
  ·refine List.pairwise_cons.2 ⟨fun q hq=>?_,modG_apart hc.2⟩
   obtain⟨p',hp',e1,e2,_⟩:=modG_mem hq
   have:=hc.1 p' hp'
   exact⟨by omega,fun e=>this.2 ⟨e.1.trans e2.1,e.2.trans e2.2⟩⟩
theorem modG_coef {x:Dlt} {n:Int} (t:Int) (r:Rw):∀ {g:List (Nat × Dlt)} {p:Nat × Dlt},findG g x=some p→(g.Pairwise fun p q=>p.1 < q.1∧¬ sameK p.2 q.2)→coef ((modG x n g).map (·.2)) t r=coef (g.map (·.2)) t r+(if x.tick=t∧x.row=r then n - p.2.n else 0)
 | [],_,h,_=>by cases h
 | q::g,p,h,hp=>by
  have hc:=List.pairwise_cons.1 hp
  unfold findG at h
  rw [List.find?_cons] at h
  unfold modG
  by_cases hs:sameK x q.2
  ·rw [decide_eq_true hs] at h
   obtain rfl:=Option.some.inj h
   rw [if_pos hs]
   obtain⟨e1,e2⟩:=hs
   simp only [List.map_cons,coef,← e1,← e2]
   split <;> omega
  ·rw [decide_eq_false hs] at h
   rw [if_neg hs]
   have:=modG_coef (x:=x) (n:=n) t r (g:=g) (p:=p) h hc.2
   simp only [List.map_cons,coef,this]
   omega
theorem Good.nil:Good [] [] 0:=⟨by simp,List.Pairwise.nil,fun _ _=>rfl⟩
theorem Good.new {d:List Dlt} {g:List (Nat × Dlt)} {cl:Nat} {x:Dlt} (h:Good d g cl) (hn:findG g x=none) (hx:inR x.n):Good (d++[x]) (g++[(cl,x)]) (cl+1) where
 ok p hp:=by
  rcases List.mem_append.1 hp with hp | hp
  ·obtain⟨h1,h2,y,hy,e⟩:=h.ok p hp
   exact⟨by omega,h2,y,List.mem_append.2 (.inl hy),e⟩
  ·rw [List.mem_singleton] at hp;subst hp
   exact⟨by simp,hx,x,by simp,rfl⟩
 apart:=by
  refine List.pairwise_append.2 ⟨h.apart,by simp,fun p hp q hq=>?_⟩
  rw [List.mem_singleton] at hq;subst hq
  exact⟨(h.ok p hp).1,fun e=>findG_none hn p hp ⟨e.1.symm,e.2.symm⟩⟩
 sum t r:=by
  have:=h.sum t r
  rw [List.map_append,coef_append,coef_append]
  simp only [W64] at this ⊢
  simp only [List.map_cons,List.map_nil,coef]
  omega
theorem Good.old {d:List Dlt} {g:List (Nat × Dlt)} {cl:Nat} {x:Dlt} {p:Nat × Dlt} (h:Good d g cl) (hn:findG g x=some p):Good (d++[x]) (modG x (wrap (x.n+p.2.n)) g) cl where
 ok q hq:=by
  obtain⟨p',hp',e1,e2,e3⟩:=modG_mem hq
  obtain⟨h1,h2,y,hy,e⟩:=h.ok p' hp'
  refine⟨by omega,?_,y,List.mem_append.2 (.inl hy),e.trans e2.2.symm⟩
  rcases e3 with rfl | e3
  ·exact h2
  ·rw [e3];exact wrap_in _
 apart:=modG_apart h.apart
 sum t r:=by
  have:=h.sum t r
  have hw:=wrap_mod (x.n+p.2.n)
  rw [modG_coef t r hn h.apart,coef_append]
  simp only [W64] at this hw ⊢
  simp only [coef]
  split <;> omega
theorem Good.cons {d:List Dlt} {g:List (Nat × Dlt)} {cl:Nat} (h:Good d g cl) (hd:okN d) {l:List Dlt} (hp:l.Perm ((g.map (·.2)).filter fun x=>decide (x.n ≠ 0))) (hs:l.Pairwise fun x y=>¬ cmpD y x < 0):l=consM d:=by
 have hpw:((g.map (·.2)).filter fun x=>decide (x.n ≠ 0)).Pairwise fun x y=>¬ sameK x y :=
  (List.Pairwise.sublist List.filter_sublist (List.pairwise_map.2 (h.apart.imp fun e=>e.2)))
 have hpl:l.Pairwise fun x y=>¬ sameK x y:=(hp.pairwise_iff fun e e'=>e ⟨e'.1.symm,e'.2.symm⟩).2 hpw
 refine eq_consM hd ⟨?_,fun x hx=>?_⟩ fun t r=>?_
 ·refine(hs.and hpl).imp fun⟨h1,h2⟩=>?_
  rename_i a b _
  cases hab:ltD a b
  ·cases hba:ltD b a
   ·exact absurd (ltD_eq hab hba) h2
   ·rw [ltD_cmp] at hba;exact absurd (by simpa using hba) h1
  ·rfl
 ·have:=hp.mem_iff.1 hx
  obtain⟨h1,h2⟩:=List.mem_filter.1 this
  obtain⟨p,hp',rfl⟩:=List.mem_map.1 h1
  exact⟨by simpa using h2,(h.ok p hp').2.1⟩
 ·rw [coef_perm hp,← h.sum t r]
  congr 1
  generalize g.map (·.2)=m
  induction m with
  | nil=>rfl
  | cons x m ih =>
   rw [List.filter_cons]
   split
   ·simp only [coef,ih]
   ·rename_i h0
    have h0':x.n=0:=by simpa using h0
    simp only [coef,ih,h0']
    split <;> omega
theorem modG_len (x:Dlt) (n:Int):∀ g:List (Nat × Dlt),(modG x n g).length=g.length
 | []=>rfl
 | p::g=>by
  have:=modG_len x n g
  unfold modG
  split <;> simp [this]
def leftG (g:List (Nat × Dlt)) (seen:List Nat):List (Nat × Dlt):=g.filter fun p=>!seen.contains p.1
theorem leftE_ents (g:List (Nat × Dlt)) (seen:List Nat):leftE (ents g) seen=ents (leftG g seen):=by
 simp only [leftE,ents,leftG,List.filter_map]
 rfl
theorem leftG_step {seen:List Nat} {p:Nat × Dlt}:∀ {g:List (Nat × Dlt)},(g.Pairwise fun p q=>p.1 < q.1∧¬ sameK p.2 q.2)→p ∈ leftG g seen→(leftG g seen).Perm (p::leftG g (seen++[p.1]))
 | [],_,h=>by cases h
 | q::g,hp,h=>by
  have hc:=List.pairwise_cons.1 hp
  have ih:=leftG_step (seen:=seen) (p:=p) hc.2
  unfold leftG at h ih ⊢
  rw [List.filter_cons] at h ⊢
  cases hs:seen.contains q.1
  ·simp only [hs,Bool.not_false,if_true] at h ⊢
   rcases List.mem_cons.1 h with rfl | h
   ·have e:(seen++[p.1]).contains p.1=true:=by simp
    rw [List.filter_cons]
    simp only [e,Bool.not_true,Bool.false_eq_true,if_false]
    refine List.Perm.cons _ ?_
    rw [show g.filter (fun q=>!(seen++[p.1]).contains q.1)=g.filter (fun q=>!seen.contains q.1) from List.filter_congr fun q hq=>by
     have:=(hc.1 q hq).1
     simp [show ¬ q.1=p.1 by omega]]
   ·have hqp:q.1 < p.1:=(hc.1 p (List.mem_filter.1 h).1).1
    have hs':¬ q.1 ∈ seen:=by simpa using hs
    have e:(seen++[p.1]).contains q.1=false:=by simp [hs',show ¬ q.1=p.1 by omega]
    rw [List.filter_cons]
    simp only [e,Bool.not_false,if_true]
    exact(List.Perm.cons q (ih h)).trans (List.Perm.swap p q _)
  ·simp only [hs,Bool.not_true,Bool.false_eq_true,if_false] at h ⊢
   have hs':q.1 ∈ seen:=by simpa using hs
   have e:(seen++[p.1]).contains q.1=true:=by simp [hs']
   rw [List.filter_cons]
   simp only [e,Bool.not_true,Bool.false_eq_true,if_false]
   exact ih h
theorem leftG_less {g:List (Nat × Dlt)} {seen:List Nat} {p:Nat × Dlt} (hg:g.Pairwise fun p q=>p.1 < q.1∧¬ sameK p.2 q.2) (hp:p ∈ leftG g seen):(leftG g (seen++[p.1])).length < (leftG g seen).length:=by
 have:=(leftG_step hg hp).length_eq
 rw [List.length_cons] at this
 omega
def nz (x:Dlt):Bool:=decide (x.n ≠ 0)
def Got (g:List (Nat × Dlt)) (seen:List Nat) (acc:List Dlt):Prop:=(acc++((leftG g seen).map (·.2)).filter nz).Perm ((g.map (·.2)).filter nz)
theorem Got.start (g:List (Nat × Dlt)):Got g [] []:=by
 have:leftG g []=g:=List.filter_eq_self.2 (by simp)
 unfold Got
 rw [this]
 exact List.Perm.refl _
theorem Got.step {g:List (Nat × Dlt)} {seen:List Nat} {acc:List Dlt} {p:Nat × Dlt} (h:Got g seen acc) (hg:g.Pairwise fun p q=>p.1 < q.1∧¬ sameK p.2 q.2) (hp:p ∈ leftG g seen) :
  Got g (seen++[p.1]) (if p.2.n ≠ 0 then acc++[p.2] else acc):=by
 unfold Got at h ⊢
 refine List.Perm.trans ?_ h
 have hs:=((leftG_step hg hp).map (·.2)).filter nz
 rw [List.map_cons,List.filter_cons] at hs
 by_cases h0:p.2.n ≠ 0
 ·have:nz p.2=true:=by simpa [nz] using h0
  rw [if_pos this] at hs
  rw [if_pos h0,List.append_assoc]
  exact List.Perm.append_left acc hs.symm
 ·have:¬ nz p.2=true:=by simpa [nz] using h0
  rw [if_neg this] at hs
  rw [if_neg h0]
  exact List.Perm.append_left acc hs.symm
theorem Got.len {g:List (Nat × Dlt)} {seen:List Nat} {acc:List Dlt} (h:Got g seen acc):acc.length≤g.length:=by
 have:=h.length_eq
 have h2:=List.length_filter_le nz (g.map (·.2))
 rw [List.length_append] at this
 rw [List.length_map] at h2
 omega
theorem Got.done {g:List (Nat × Dlt)} {seen:List Nat} {acc:List Dlt} (h:Got g seen acc) (hl:leftG g seen=[]):acc.Perm ((g.map (·.2)).filter nz):=by
 unfold Got at h
 rw [hl] at h
 simpa using h
end Go.Proofs.YtopfanlkbepemaaGreat.Arr
namespace Go.Proofs
open Go.Shelf
def Tryz.sortD_ren:Go.Shelf.Ren:=⟨fun | 6=>42 | 15=>51 | 14=>71 | 28=>85 | 29=>86 | 20=>106 | 21=>107 | 22=>108 | 23=>109 | 24=>110 | 25=>111 | 26=>112 | 27=>113 | 46=>140 | 47=>116 | 48=>117 | 49=>141 | 50=>142 | 57=>160 | n=>n,fun | 22=>51 | 24=>50 | 25=>128 | 3=>3 | 39=>141 | 0=>0 | 53=>173 | 55=>175 | 4=>4 | 46=>167 | 45=>166 | 50=>104 | 5=>5 | 9=>9 | 66=>194 | 70=>198 | 76=>224 | 77=>225 | n=>n,fun | n=>n⟩
theorem Tryz.sortD:Go.Proofs.SlLaysF0.n6 Tryz.prog Tryz.sortD_ren:={
 mixed:=by kernel_rfl
 f6:=⟨Tryz.f42.name,by decide,Tryz.func42.trans (congrArg some (by kernel_rfl))⟩
 f14:=⟨Tryz.f71.name,by decide,Tryz.func71.trans (congrArg some (by kernel_rfl))⟩
 f15:=Tryz.func51.trans (congrArg some (by kernel_rfl))
 f20:=⟨Tryz.f106.name,by decide,Tryz.func106.trans (congrArg some (by kernel_rfl))⟩
 f21:=⟨Tryz.f107.name,by decide,Tryz.func107.trans (congrArg some (by kernel_rfl))⟩
 f22:=⟨Tryz.f108.name,by decide,Tryz.func108.trans (congrArg some (by kernel_rfl))⟩
 f23:=⟨Tryz.f109.name,by decide,Tryz.func109.trans (congrArg some (by kernel_rfl))⟩
 f24:=⟨Tryz.f110.name,by decide,Tryz.func110.trans (congrArg some (by kernel_rfl))⟩
 f25:=⟨Tryz.f111.name,by decide,Tryz.func111.trans (congrArg some (by kernel_rfl))⟩
 f26:=⟨Tryz.f112.name,by decide,Tryz.func112.trans (congrArg some (by kernel_rfl))⟩
 f27:=⟨Tryz.f113.name,by decide,Tryz.func113.trans (congrArg some (by kernel_rfl))⟩
 f28:=Tryz.func85.trans (congrArg some (by kernel_rfl))
 f29:=Tryz.func86.trans (congrArg some (by kernel_rfl))
 f46:=⟨Tryz.f140.name,by decide,Tryz.func140.trans (congrArg some (by kernel_rfl))⟩
 f47:=Tryz.func116.trans (congrArg some (by kernel_rfl))
 f48:=Tryz.func117.trans (congrArg some (by kernel_rfl))
 f49:=⟨Tryz.f141.name,by decide,Tryz.func141.trans (congrArg some (by kernel_rfl))⟩
 f50:=⟨Tryz.f142.name,by decide,Tryz.func142.trans (congrArg some (by kernel_rfl))⟩
 f57:=⟨Tryz.f160.name,by decide,Tryz.func160.trans (congrArg some (by kernel_rfl))⟩
 t0:=Tryz.underlying0
 a0:=Tryz.isAgg0
 z0:=Tryz.sizeOf0
 v0:=Tryz.zeroValue0
 t3:=Tryz.underlying3
 a3:=Tryz.isAgg3
 z3:=Tryz.sizeOf3
 v3:=Tryz.zeroValue3
 t4:=Tryz.underlying4
 a4:=Tryz.isAgg4
 z4:=Tryz.sizeOf4
 v4:=Tryz.zeroValue4
 t5:=Tryz.underlying5
 a5:=Tryz.isAgg5
 z5:=Tryz.sizeOf5
 v5:=Tryz.zeroValue5
 t9:=Tryz.underlying9
 a9:=Tryz.isAgg9
 z9:=Tryz.sizeOf9
 v9:=Tryz.zeroValue9
 t22:=Tryz.underlying51
 a22:=Tryz.isAgg51
 z22:=Tryz.sizeOf51
 v22:=Tryz.zeroValue51
 t25:=Tryz.underlying128
 a25:=Tryz.isAgg128
 z25:=Tryz.sizeOf128
 v25:=Tryz.zeroValue128
 t39:=Tryz.underlying141
 a39:=Tryz.isAgg141
 z39:=Tryz.sizeOf141
 v39:=Tryz.zeroValue141
 t45:=Tryz.underlying166
 a45:=Tryz.isAgg166
 z45:=Tryz.sizeOf166
 v45:=Tryz.zeroValue166
 t46:=Tryz.underlying167
 a46:=Tryz.isAgg167
 z46:=Tryz.sizeOf167
 v46:=Tryz.zeroValue167
 t50:=Tryz.underlying104
 a50:=Tryz.isAgg104
 z50:=Tryz.sizeOf104
 v50:=Tryz.zeroValue104
 t53:=Tryz.underlying173
 a53:=Tryz.isAgg173
 z53:=Tryz.sizeOf173
 v53:=Tryz.zeroValue173
 t55:=Tryz.underlying175
 a55:=Tryz.isAgg175
 z55:=Tryz.sizeOf175
 v55:=Tryz.zeroValue175
 t66:=Tryz.underlying194
 a66:=Tryz.isAgg194
 z66:=Tryz.sizeOf194
 v66:=Tryz.zeroValue194
 t70:=Tryz.underlying198
 a70:=Tryz.isAgg198
 z70:=Tryz.sizeOf198
 v70:=Tryz.zeroValue198
 t76:=Tryz.underlying224
 a76:=Tryz.isAgg224
 z76:=Tryz.sizeOf224
 v76:=Tryz.zeroValue224
 t77:=Tryz.underlying225
 a77:=Tryz.isAgg225
 z77:=Tryz.sizeOf225
 v77:=Tryz.zeroValue225 }
end Go.Proofs
set_option linter.unusedSimpArgs false
set_option maxRecDepth 100000
set_option linter.defProp false
namespace Go.Proofs.YtopfanlkbepemaaGreat.Arr
open Go.VL Go.Ar Go.Proofs.YtopfanlkbepemaaGreat Go.Proofs.YtopfanlkbepemaaGreat.Arr
def fitR (r:Rw):Prop:=r.fields.length≤big∧(encL r.fields).length≤1099511627776∧okR r
def fitDs (d:List Dlt):Prop:=d.length≤big∧∀ x ∈ d,inR x.n∧fitR x.row
theorem sortD_nil:OkP Tryz.prog 42 [nilS,.lit (.func (.func 43) #[] #[])] (.tup []):=Ok.sortNil Tryz.sortD 0 _
theorem sortD_box (l:List Dlt) (hl:∀ x ∈ l,okF x.row) (rest:List V) (b cap:Nat) (hsz:l.length < 4611686018427387904) :
  Ok Tryz.prog 42 [.lit (.slice (some ⟨b,0,none⟩) l.length cap),.lit (.func (.func 43) #[] #[])] [(b,.c ((l.map cDlt).flatten++rest))] fun v bs rs =>
   v=.tup []∧rs=[]∧∃ l':List Dlt,l'.Perm l∧l'.Pairwise (fun x y=>¬ cmpD y x < 0)∧bs=[(b,.c ((l'.map cDlt).flatten++rest))] :=
 Ok.sortFunc Tryz.sortD (k:=10) Tryz.isAgg50 Tryz.sizeOf50 cDlt (fun _=>rfl) cmpD (pre_swo pre_cmpD) (g:=43) (enters_of Tryz.func43 (by kernel_rfl) rfl) l
  (fun x hx y hy=>cmpD_ok x y (hl x hx) (hl y hy)) rest b cap hsz
theorem cellsD_len (l:List Dlt):(l.map cDlt).flatten.length=l.length * 10:=by
 induction l with
 | nil=>rfl
 | cons x l ih=>simp only [List.map_cons,List.flatten_cons,List.length_append,ih,List.length_cons,List.length_nil];omega
theorem anys_len (n:Nat):(anys n).length=n:=by simp [anys]
def tbAGb0:=(aI (aI (aI (aI Ty.c41 Ty.c42) (aI Ty.c43 Ty.t120)) (aI (aI Ty.t122 Ty.t124) (aI Ty.t128 Ty.t3))) (aI (aI (aI Ty.t4 Ty.t40) (aI Ty.t41 Ty.t43)) (aI (aI Ty.t50 Ty.t51) (aI Ty.t85 Ty.t9))))
theorem cons_ok (d:List Dlt) (hd:fitDs d):OkP Tryz.prog 21 [vDlts d] (vDlts (consM d)):=by
 obtain⟨hd1,hd2⟩:=hd
 unfold big at hd1
 have hdn:okN d:=fun x hx=>(hd2 x hx).1
 refine Ok.norows (Q:=fun v bs rs=>bs=[]∧rs=[]∧((v=nilS∧consM d=[])∨∃ y,v=.list (some y) 10 ((consM d).map cDlt))) (Ok.freeze (Q:=fun v bs rs=>rs=[]∧((v=nilS∧bs=[]∧consM d=[])∨∃ b c,v=.lit (.slice (some ⟨b,0,none⟩) (consM d).length c)∧(consM d).length≤c∧bs=[(b,.c (((consM d).map cDlt).flatten++anys ((c - (consM d).length) * 10)))])) ?_ fun v bs rs h=>?_) fun v bs rs h=>?_
 rotate_left
 ·obtain⟨rfl,⟨rfl,rfl,h⟩ | ⟨b,c,rfl,hc,rfl⟩⟩:=h
  ·exact .inl ⟨rfl,rfl,.inl ⟨rfl,h⟩⟩
  ·exact .inr ⟨b,(consM d).length,c,10,_,(consM d).map cDlt,[],_,List.Perm.refl _,⟨List.take_left' (cellsD_len _),fun e he=>by obtain⟨x,_,rfl⟩:=List.mem_map.1 he;rfl,by simp,hc⟩,.here,rfl,rfl,.inr ⟨_,rfl⟩⟩
 ·obtain⟨rfl,rfl,⟨rfl,h⟩ | ⟨y,rfl⟩⟩:=h
  ·exact⟨vDlts (consM d),[],[],by rw [h];exact Le.nil 10,List.nil_sublist _,List.nil_sublist _,rfl,rfl,rfl⟩
  ·exact⟨vDlts (consM d),[],[],Le.list _ _ _,List.nil_sublist _,List.nil_sublist _,rfl,rfl,rfl⟩
 refine Ok.of_ex Ty.mixed Tryz.func21 rfl (by simp [Tryz.ntmps21]) (by kernel_rfl) fun F w0 I0=>?_
 simp only [↓rA,rB,reduceCtorEq,tbAGb0,Tryz.results21]
 refine fun bm hm=>?_;replace hm:=newb hm;try simp only [Nb] at hm
 simp only [rB,reduceCtorEq]
 refine EX_for Ty.mixed (by kernel_rfl) d.length (fun i S=>∃ g cl,(Good (d.take i) g cl∧g.length≤i)∧S.σ 0=vDlts d∧S.σ 2=nilS∧S.σ 3=.lit (.map (some bm))∧S.σ 12=vDlts d∧S.σ 13=vint d.length∧S.σ 14=vint i∧S.boxes=[(bm,.m ([.s,.i .i64,.s,.s,.i .i64,.i .i64,.i .i64,.i .i64,.s],true) (ents g) cl)]∧S.rows=[]) ⟨0,[],0,⟨Good.nil,by simp⟩,?_⟩ (fun i S hi ⟨g,cl,⟨hg,hgl⟩,g0,g2,g3,g12,g13,g14,gb,gr⟩=>?_) (fun S ⟨g,cl,⟨hg,hgl⟩,g0,g2,g3,g12,g13,g14,gb,gr⟩=>?_)
 ·simp only [rB,Nat.reduceEqDiff,reduceCtorEq,List.length_map]
 ·have hxm:d[i] ∈ d:=List.getElem_mem hi
  generalize hx:d[i]=x at hxm
  obtain⟨hxn,hxf1,hxf2,hxo⟩:=hd2 x hxm
  simp only [↓rA,rB,Nat.reduceAdd,Nat.reduceEqDiff,tbAGb0,g12,g13,g14,gb,gr,Int.ofNat_lt,hi,List.length_map,getD_map,hx]
  refine fun b5 h5=>?_;replace h5:=newb h5;try simp only [Nb] at h5
  simp only [↓rA,rB,Nat.reduceAdd,Nat.reduceEqDiff,Nat.reduceLeDiff,tbAGb0,gb]
  refine OkF_of _ (mark_ok x.row x.tick hxf1 hxf2) ?_
  simp only [↓rA,rB,tbAGb0,gr]
  refine fun b6 h6=>?_;replace h6:=newb h6;try simp only [Nb] at h6
  simp only [↓rA,rB,Nat.reduceAdd,Nat.reduceEqDiff,tbAGb0,g3,gr,h5,h6]
  have hgo:∀ p ∈ g,okR p.2.row:=fun p hp=>by
   obtain⟨_,_,y,hy,e⟩:=hg.ok p hp
   rw [← e]
   exact(hd2 y (List.mem_of_mem_take hy)).2.2.2
  have hfm:=findM_ents hxo hgo
  have htk:d.take (i+1)=d.take i++[x]:=by rw [List.take_succ_eq_append_getElem hi,hx]
  have hmm:=fun n=>modM_ents hxo n hgo
  rw [hfm]
  cases hfg:findG g x with
  | none =>
   rw [hfg] at hfm
   simp only [Option.map_none] at hfm
   have hnew:=hg.new hfg hxn
   rw [← htk] at hnew
   simp only [↓rA,rB,Nat.reduceEqDiff,tbAGb0,gr]
   refine fun b7 h7=>?_;replace h7:=newb h7;try simp only [Nb] at h7
   simp only [↓rA,rB,Nat.reduceAdd,Nat.reduceEqDiff,tbAGb0,g3,gr,h5,h6,h7]
   rw [hfm]
   simp only [↓rA,rB,Nat.reduceEqDiff,reduceCtorEq,g0,g2,g3,g12,g13,g14,gr,h5,h6,h7,wrap_succ hi (Nat.le_trans hd1 (by decide))]
   refine⟨3,g++[(cl,x)],cl+1,⟨hnew,by simp;omega⟩,?_⟩
   simp only [List.drop_succ_cons,List.drop_zero,ents,List.map_append,List.map_cons,List.map_nil]
  | some p =>
   rw [hfg] at hfm
   simp only [Option.map_some] at hfm
   have hold:=hg.old hfg
   rw [← htk] at hold
   simp only [↓rA,rB,Nat.reduceEqDiff,tbAGb0,gr]
   refine fun b7 h7=>?_;replace h7:=newb h7;try simp only [Nb] at h7
   simp only [↓rA,rB,Nat.reduceAdd,Nat.reduceEqDiff,tbAGb0,g3,gr,h5,h6,h7]
   rw [hfm]
   simp only [↓rA,rB,Nat.reduceEqDiff,reduceCtorEq,g0,g2,g3,g12,g13,g14,gr,h5,h6,h7,wrap_succ hi (Nat.le_trans hd1 (by decide))]
   refine⟨3,_,cl,⟨hold,by rw [modG_len];omega⟩,?_⟩
   rw [← hmm]
   rfl
 ·simp only [↓rA,rB,Nat.reduceEqDiff,tbAGb0,g3,g13,g14,gb,gr,Int.ofNat_lt,Nat.lt_irrefl]
  rw [List.take_of_length_le (Nat.le_refl _)] at hg
  refine fun ib hi=>?_;replace hi:=newb hi;try simp only [Nb] at hi
  simp only [↓rA]
  refine EX_whileS Ty.mixed (by kernel_rfl) (fun x=>(leftG g x.1).length) (fun(x:List Nat × List Dlt) S=>Got g x.1 x.2∧S.σ 41=ptr ib∧S.rows=[]∧((x.2=[]∧S.σ 2=nilS∧S.boxes=[(ib,.it bm cl x.1 cl),(bm,.m ([.s,.i .i64,.s,.s,.i .i64,.i .i64,.i .i64,.i .i64,.s],true) (ents g) cl)]) ∨
   ∃ b c,(x.2.length≤c∧ib ≠ b∧bm ≠ b)∧S.σ 2=.lit (.slice (some ⟨b,0,none⟩) x.2.length c)∧S.boxes=[(b,.c ((x.2.map cDlt).flatten++anys ((c - x.2.length) * 10))),(ib,.it bm cl x.1 cl),(bm,.m ([.s,.i .i64,.s,.s,.i .i64,.i .i64,.i .i64,.i .i64,.s],true) (ents g) cl)])) ([],[])
   ⟨_,_,List.Sublist.refl _,List.Sublist.refl _,Got.start g,?_⟩ (fun⟨seen,acc⟩ S ⟨hgot,g41,gr,hb⟩=>?_)
  ·simp only [rB,Nat.reduceEqDiff,g2,gb,gr]
  ·simp only at hgot hb
   have hacc:=hgot.len
   have hfa:∀ x ∈ acc,okF x.row:=fun x hx=>by
    have:=List.mem_filter.1 (hgot.mem_iff.1 (List.mem_append.2 (.inl hx)))
    obtain⟨p,hp,rfl⟩:=List.mem_map.1 this.1
    obtain⟨_,_,y,hy,e⟩:=hg.ok p hp
    rw [← e]
    have:=(hd2 y hy).2.1
    unfold okF
    unfold big at this
    omega
   rcases hb with⟨ha,g2,gb⟩ | ⟨b,c,⟨hlc,hb1,hb2⟩,g2,gb⟩
   ·subst ha
    simp only [↓rA,rB,g41,gb,hi]
    refine⟨fun hl=>?_,fun e he hf=>?_⟩
    ·simp only [↓rA,rB,Nat.reduceEqDiff,tbAGb0,g2,gb]
     refine OkF_of _ sortD_nil ?_
     simp only [↓rA,rB,Nat.reduceEqDiff,g2,gr]
     rw [leftE_ents] at hl
     have hcons:=hg.cons hdn (hgot.done (by simpa [ents] using hl)) List.Pairwise.nil
     exact⟨nilS,[],[],Le.refl _,List.nil_sublist _,List.nil_sublist _,rfl,.inl ⟨rfl,rfl,hcons.symm⟩⟩
    ·rw [leftE_ents] at he
     obtain⟨p,hp,rfl⟩:=List.mem_map.1 he
     have hp0:=(List.mem_filter.1 hp).1
     have hst:=hgot.step hg.apart hp
     have hmu:=leftG_less hg.apart hp
     have hlast:(seen++[p.1]).getLast? = some p.1:=by simp
     simp only at hf
     simp only [↓rA,rB,Nat.reduceEqDiff,tbAGb0,g41,gb,gr,hi,hlast,hf]
     refine fun b10 h10=>?_;replace h10:=newb h10;try simp only [Nb] at h10
     simp only [↓rA,rB,Nat.reduceAdd,Nat.reduceEqDiff,tbAGb0,gb]
     by_cases h0:p.2.n=0
     ·rw [if_neg (by simpa using h0)] at hst
      simp only [↓rA,rB,gb,h0]
      refine⟨(seen++[p.1],[]),hmu,_,_,List.Sublist.cons _ (List.Sublist.refl _),List.Sublist.refl _,hst,?_⟩
      simp only [rB,Nat.reduceEqDiff,g2,g41,gr]
     ·rw [if_pos h0] at hst
      simp only [↓rA,rB,Nat.reduceAdd,Nat.reduceEqDiff,Nat.reduceLT,Nat.reduceLeDiff,Nat.reduceMul,tbAGb0,g2,gb,h0]
      refine fun y=>Or2.r ?_
      simp only [↓rA,rB,Nat.reduceAdd,Nat.reduceLT,Nat.reduceLeDiff,Nat.reduceMul,tbAGb0,gb,gr,h0]
      refine fun b c hb hc=>?_
      replace hb:=newb hb
      simp only [Nb] at hb
      obtain⟨hb1,hb2,hb3,_⟩:=hb
      simp only [↓rA,rB,gb,h0]
      refine⟨(seen++[p.1],[p.2]),hmu,_,[],List.Sublist.cons_cons _ (List.Sublist.cons _ (List.Sublist.refl _)),List.nil_sublist _,hst,?_⟩
      simp only [rB,Nat.reduceEqDiff,reduceCtorEq,g41]
      exact⟨b,c,⟨hc,hb2.1,hb3.1⟩,rfl,rfl⟩
   ·simp only [↓rA,rB,g41,gb,hi,hb1,hb2]
    refine⟨fun hl=>?_,fun e he hf=>?_⟩
    ·simp only [↓rA,rB,Nat.reduceEqDiff,tbAGb0,g2,gb]
     refine OkF_with [_] [_,_] (List.Perm.refl _) (sortD_box acc hfa _ b c (by omega)) ?_
     rintro v bs rs ⟨rfl,rfl,l',hp,hs,rfl⟩
     rw [leftE_ents] at hl
     have hcons:=hg.cons hdn (hp.trans (hgot.done (by simpa [ents] using hl))) hs
     simp only [↓rA,rB,Nat.reduceEqDiff,g2,gr]
     have hlen:(consM d).length=acc.length:=by rw [← hcons];exact hp.length_eq
     exact⟨_,[_],[],Le.refl _,List.Sublist.cons_cons _ (List.nil_sublist _),List.nil_sublist _,rfl,.inr ⟨b,c,by rw [hlen],by rw [hlen];exact hlc,by rw [hlen,← hcons]⟩⟩
    ·rw [leftE_ents] at he
     obtain⟨p,hp,rfl⟩:=List.mem_map.1 he
     have hp0:=(List.mem_filter.1 hp).1
     have hst:=hgot.step hg.apart hp
     have hmu:=leftG_less hg.apart hp
     have hlast:(seen++[p.1]).getLast? = some p.1:=by simp
     simp only at hf
     simp only [↓rA,rB,Nat.reduceEqDiff,tbAGb0,g41,gb,gr,hi,hb1,hb2,hlast,hf]
     refine fun b10 h10=>?_;replace h10:=newb h10;try simp only [Nb] at h10
     simp only [↓rA,rB,Nat.reduceAdd,Nat.reduceEqDiff,tbAGb0,gb,hb1]
     by_cases h0:p.2.n=0
     ·rw [if_neg (by simpa using h0)] at hst
      simp only [↓rA,rB,gb,hb1,h0]
      refine⟨(seen++[p.1],acc),hmu,_,_,List.Sublist.cons _ (List.Sublist.refl _),List.Sublist.refl _,hst,?_⟩
      simp only [rB,Nat.reduceEqDiff,g2,g41,gr]
      exact .inr ⟨b,c,⟨hlc,hb1,hb2⟩,rfl,rfl⟩
     ·rw [if_pos h0] at hst
      simp only [↓rA,rB,Nat.reduceAdd,Nat.reduceEqDiff,Nat.reduceLT,Nat.reduceLeDiff,Nat.reduceMul,tbAGb0,g2,gb,hb1,h0]
      refine fun y=>Or2.r ?_
      simp only [↓rA,rB,Nat.reduceAdd,Nat.reduceLT,tbAGb0,gb,gr,hb1,h10,h0]
      have h10b:¬ b10=b:=h10.1.2
      refine⟨⟨by rw [List.length_append,cellsD_len,anys_len,← Nat.add_mul];congr 1;omega,hlc,by omega⟩,fun b' c' hb hc=>?_⟩
      simp only [remB,List.filter_cons,decide_true,Bool.not_true,Bool.false_eq_true,if_false,List.filter_nil,hb1,hb2,h10b,decide_false,Bool.not_false,if_true] at hb ⊢
      replace hb:=newb hb
      simp only [Nb] at hb
      obtain⟨hb3,hb4,hb5,_⟩:=hb
      simp only [↓rA,rB,gb,h10,h0,hb1,hb2]
      refine⟨(seen++[p.1],acc++[p.2]),hmu,_,[],List.Sublist.cons_cons _ (List.Sublist.cons _ (List.Sublist.refl _)),List.nil_sublist _,hst,?_⟩
      simp only [rB,Nat.reduceEqDiff,g41,List.length_append]
      refine .inr ⟨b',c',⟨hc,hb4.1,hb5.1⟩,rfl,?_⟩
      rw [List.take_left' (cellsD_len acc),List.map_append,List.flatten_append]
      rfl
end Go.Proofs.YtopfanlkbepemaaGreat.Arr
set_option linter.unusedSimpArgs false
set_option maxRecDepth 100000
set_option linter.defProp false
namespace Go.Proofs.YtopfanlkbepemaaGreat.Arr
open Go.VL Go.Ar Go.Proofs.YtopfanlkbepemaaGreat Go.Proofs.YtopfanlkbepemaaGreat.Arr
def earlyM (d:List Dlt) (t:Int):List Dlt:=(d.filter fun x=>decide (x.tick≤t)).map fun x=>{ x with tick:=0 }
def rowsM (d:List Dlt):List Rw:=(d.filter fun x=>decide (0 < x.n)).map (·.row)
theorem early_fit {d:List Dlt} (hd:fitDs d) (t:Int):fitDs (earlyM d t):=by
 refine⟨?_,fun x hx=>?_⟩
 ·have:=List.length_filter_le (fun x=>decide (x.tick≤t)) d
  unfold earlyM;rw [List.length_map]
  exact Nat.le_trans this hd.1
 ·obtain⟨y,hy,rfl⟩:=List.mem_map.1 hx
  exact hd.2 y (List.mem_filter.1 hy).1
def tbAGc0:=(aI (aI (aI Ty.c21 Ty.t3) (aI Ty.t34 (aI Ty.t4 Ty.t40))) (aI (aI Ty.t41 (aI Ty.t43 Ty.t50)) (aI Ty.t51 (aI Ty.t85 Ty.t9))))
theorem at_ok (d:List Dlt) (t:Int) (hd:fitDs d):OkRow Tryz.prog 27 [vDlts d,vint t] 8 43 ((rowsM (consM (earlyM d t))).map cRow):=by
 have hd1:=hd.1
 unfold big at hd1
 refine Ok.of_ex Ty.mixed Tryz.func27 rfl (by simp [Tryz.ntmps27]) (by kernel_rfl) fun F w0 I0=>?_
 simp only [↓rA,rB,reduceCtorEq,tbAGc0,Tryz.results27]
 refine AWP.nilRow 5 10 50 (by simp only [rB,Nat.reduceEqDiff]) (by decide) ?_
 refine EX_forR Ty.mixed (by kernel_rfl) d.length (fun i S=>∃ y,S.σ 5=.list (some y) 10 ((earlyM (d.take i) t).map cDlt)∧S.rows=[⟨y,10,50⟩]∧S.σ 1=vint t∧S.σ 4=nilS∧S.σ 10=vDlts d∧S.σ 11=vint d.length∧S.σ 12=vint i∧S.boxes=[]) ⟨0,1,nilv,?_⟩ (fun i S hi ⟨y,g5,gr,g1,g4,g10,g11,g12,gb⟩=>?_) (fun S ⟨y,g5,gr,g1,g4,g10,g11,g12,gb⟩=>?_)
 ·simp only [rB,Nat.reduceEqDiff,List.length_map]
  rfl
 ·have htk:earlyM (d.take (i+1)) t=earlyM (d.take i) t++(if d[i].tick≤t then [{ d[i] with tick:=0 }] else []):=by
   unfold earlyM
   rw [List.take_succ_eq_append_getElem hi,List.filter_append,List.map_append]
   by_cases hx:d[i].tick≤t <;> simp [hx]
  have hlen:(earlyM (d.take i) t).length≤i:=by
   have:=List.length_filter_le (fun x=>decide (x.tick≤t)) (d.take i)
   simp only [List.length_take] at this
   unfold earlyM;rw [List.length_map];omega
  simp only [↓rA,rB,Nat.reduceAdd,Nat.reduceEqDiff,tbAGc0,gr,g10,g11,g12,gb,Int.ofNat_lt,hi,List.length_map,getD_map]
  refine fun b7 h7=>?_;replace h7:=newb h7;try simp only [Nb] at h7
  by_cases hx:d[i].tick≤t
  ·simp only [↓rA,rB,Nat.reduceAdd,Nat.reduceEqDiff,Nat.reduceLT,Nat.reduceLeDiff,Nat.reduceMul,tbAGc0,g5,gr,g1,gb,hx]
   refine fun y2=>takeRF_2 ?_
   simp only [↓rA,rB,Nat.reduceEqDiff,g1,g4,g10,g11,g12,wrap_succ hi (Nat.le_trans hd1 (by decide)),List.length_map]
   refine⟨(by first | omega | (simp;omega)),fun y3=>⟨1,1,y3,?_,rfl,rfl⟩⟩
   rw [htk,if_pos hx,List.map_append]
   rfl
  ·simp only [↓rA,rB,Nat.reduceAdd,Nat.reduceEqDiff,tbAGc0,g5,gr,g1,g4,g10,g11,g12,gb,hx,wrap_succ hi (Nat.le_trans hd1 (by decide))]
   refine⟨1,1,y,?_,rfl,rfl⟩
   rw [htk,if_neg hx,List.append_nil]
 ·simp only [↓rA,rB,Nat.reduceEqDiff,tbAGc0,g5,g11,g12,gb,Int.ofNat_lt,Nat.lt_irrefl]
  rw [List.take_of_length_le (Nat.le_refl _)]
  have hfit:=early_fit hd t
  generalize hc:consM (earlyM d t)=c
  refine OkF_le (.cons (Le.list _ _ _) .nil) _ (cons_ok (earlyM d t) hfit) ?_
  have hcl:c.length≤4194304:=by rw [← hc];exact Nat.le_trans (consM_len _) hfit.1
  simp only [↓rA,rB,tbAGc0,hc]
  refine AWP.nilRow 4 8 43 (by simp only [rB,Nat.reduceEqDiff,g4]) (by decide) ?_
  refine EX_forR Ty.mixed (by kernel_rfl) c.length (fun i S=>∃ y,S.σ 4=.list (some y) 8 ((rowsM (c.take i)).map cRow)∧S.rows=[⟨y,8,43⟩]∧S.σ 27=vDlts c∧S.σ 28=vint c.length∧S.σ 29=vint i∧S.boxes=[]) ⟨0,1,nilv,?_⟩ (fun i S hi ⟨y,g4,gr,g27,g28,g29,gb⟩=>?_) (fun S ⟨y,g4,gr,g27,g28,g29,gb⟩=>?_)
  ·simp only [rB,Nat.reduceEqDiff,gr,List.length_map]
   rfl
  ·have htk:rowsM (c.take (i+1))=rowsM (c.take i)++(if 0 < c[i].n then [c[i].row] else []):=by
    unfold rowsM
    rw [List.take_succ_eq_append_getElem hi,List.filter_append,List.map_append]
    by_cases hx:0 < c[i].n <;> simp [hx]
   have hlen:(rowsM (c.take i)).length≤i:=by
    have:=List.length_filter_le (fun x=>decide (0 < x.n)) (c.take i)
    simp only [List.length_take] at this
    unfold rowsM;rw [List.length_map];omega
   simp only [↓rA,rB,Nat.reduceAdd,Nat.reduceEqDiff,tbAGc0,gr,g27,g28,g29,gb,Int.ofNat_lt,hi,List.length_map,getD_map]
   refine fun b9 h9=>?_;replace h9:=newb h9;try simp only [Nb] at h9
   by_cases hx:0 < c[i].n
   ·simp only [↓rA,rB,Nat.reduceAdd,Nat.reduceEqDiff,Nat.reduceLT,Nat.reduceLeDiff,Nat.reduceMul,tbAGc0,g4,gr,gb,hx]
    refine fun y2=>takeRF_2 ?_
    simp only [↓rA,rB,Nat.reduceEqDiff,g27,g28,g29,wrap_succ hi (Nat.le_trans hcl (by decide)),List.length_map]
    refine⟨(by first | omega | (simp;omega)),fun y3=>⟨1,1,y3,?_,rfl,rfl⟩⟩
    rw [htk,if_pos hx,List.map_append]
    rfl
   ·simp only [↓rA,rB,Nat.reduceAdd,Nat.reduceEqDiff,tbAGc0,g4,gr,g27,g28,g29,gb,hx,wrap_succ hi (Nat.le_trans hcl (by decide))]
    refine⟨1,1,y,?_,rfl,rfl⟩
    rw [htk,if_neg hx,List.append_nil]
  ·simp only [↓rA,rB,Nat.reduceEqDiff,g4,gr,g28,g29,gb,Int.ofNat_lt,Nat.lt_irrefl]
   rw [List.take_of_length_le (Nat.le_refl _)]
   exact ret_row
end Go.Proofs.YtopfanlkbepemaaGreat.Arr
set_option linter.unusedSimpArgs false
set_option maxRecDepth 100000
set_option linter.defProp false
namespace Go.Proofs.YtopfanlkbepemaaGreat.Arr
open Go.VL Go.Ar Go.Proofs.YtopfanlkbepemaaGreat Go.Proofs.YtopfanlkbepemaaGreat.Arr
def tbAGd0:=(aI (aI (aI Ty.c32 (aI Ty.t28 Ty.t3)) (aI Ty.t30 (aI Ty.t4 Ty.t40))) (aI (aI Ty.t41 (aI Ty.t43 Ty.t50)) (aI (aI Ty.t51 Ty.t59) (aI Ty.t85 Ty.t9))))
theorem late_ok (x:Dlt) (a:Arr) (b:Nat):Ok Tryz.prog 32 [.agg (cDlt x),ptr b] [(b,.c (cArr a))] fun v bs rs=>v=vbool (decide (x.tick < a.since))∧bs=[(b,.c (cArr a))]∧rs=[]:=by
 refine Ok.of_ex Ty.mixed Tryz.func32 rfl (by simp [Tryz.ntmps32]) (by kernel_rfl) fun F w0 I0=>?_
 simp only [↓rA,rB]
 refine fun b2 h2=>?_;replace h2:=newb h2;try simp only [Nb] at h2
 simp only [↓rA,rB,Nat.reduceEqDiff,tbAGd0,Tryz.results32,h2]
 exact⟨_,[_],[],Le.refl _,List.Sublist.cons _ (List.Sublist.refl _),List.nil_sublist _,rfl,rfl,rfl⟩
def tbAGd1:=(aI (aI (aI Ty.c32 Ty.t111) (aI Ty.t3 (aI Ty.t4 Ty.t40))) (aI (aI Ty.t41 (aI Ty.t43 Ty.t50)) (aI Ty.t51 (aI Ty.t85 Ty.t9))))
theorem indexF_ok (l:List Dlt) (a:Arr) (b:Nat) (hl:l.length≤9223372036854775807):Ok Tryz.prog 59 [vDlts l,.lit (.func (.func 32) #[] #[.pointer (some ⟨b,0,none⟩)])] [(b,.c (cArr a))] fun v bs rs =>
  bs=[(b,.c (cArr a))]∧rs=[]∧∃ n,v=vint n∧(0≤n↔∃ x ∈ l,x.tick < a.since):=by
 refine Ok.of_ex Ty.mixed Tryz.func59 rfl (by simp [Tryz.ntmps59]) (by kernel_rfl) fun F w0 I0=>?_
 simp only [↓rA,rB,reduceCtorEq,tbAGd1,Tryz.results59]
 refine EX_for Ty.mixed (by kernel_rfl) l.length (fun i S=>(∀ j,(h:j < l.length)→j < i→¬ l[j].tick < a.since)∧S.σ 0=vDlts l∧S.σ 1=.lit (.func (.func 32) #[] #[.pointer (some ⟨b,0,none⟩)])∧S.σ 7=vint l.length∧S.σ 8=vint i∧S.boxes=[(b,.c (cArr a))]∧S.rows=[]) ⟨0,by simp,?_⟩ (fun i S hi ⟨ho,g0,g1,g7,g8,gb,gr⟩=>?_) (fun S ⟨ho,g0,g1,g7,g8,gb,gr⟩=>?_)
 ·simp only [rB,Nat.reduceEqDiff,reduceCtorEq,List.length_map]
 ·simp only [↓rA,rB,Nat.reduceAdd,Nat.reduceEqDiff,reduceCtorEq,tbAGd1,g0,g1,g7,g8,gb,Int.ofNat_lt,hi,List.length_map,getD_map]
  refine OkF_with [_] [] (List.Perm.refl _) (late_ok l[i] a b) ?_
  rintro v bs rs ⟨rfl,rfl,rfl⟩
  by_cases hx:l[i].tick < a.since
  ·simp only [↓rA,rB,Nat.reduceEqDiff,gr,hx]
   refine⟨_,[_],[],Le.refl _,List.Sublist.refl _,List.nil_sublist _,rfl,rfl,i,rfl,?_⟩
   exact⟨fun _=>⟨_,List.getElem_mem hi,hx⟩,fun _=>by omega⟩
  ·simp only [↓rA,rB,Nat.reduceEqDiff,reduceCtorEq,g0,g1,g7,g8,gr,hx,wrap_succ hi hl]
   refine⟨0,fun j h hj=>?_,rfl⟩
   by_cases e:j=i
   ·subst e;exact hx
   ·exact ho j h (by omega)
 ·simp only [↓rA,rB,g7,g8,gb,gr,Int.ofNat_lt,Nat.lt_irrefl]
  refine⟨_,[_],[],Le.refl _,List.Sublist.refl _,List.nil_sublist _,rfl,rfl,-1,rfl,?_⟩
  refine⟨fun h=>absurd h (by decide),fun⟨x,hx,h⟩=>?_⟩
  obtain⟨j,hj,e⟩:=List.getElem_of_mem hx
  exact absurd (e▸h) (ho j hj hj)
def tbAGd2:=(aI (aI (aI Ty.c32 (aI Ty.c59 Ty.t111)) (aI Ty.t3 (aI Ty.t4 Ty.t40))) (aI (aI Ty.t41 (aI Ty.t43 Ty.t50)) (aI Ty.t51 (aI Ty.t85 Ty.t9))))
theorem containsF_ok (l:List Dlt) (a:Arr) (b:Nat) (hl:l.length≤9223372036854775807):Ok Tryz.prog 31 [vDlts l,.lit (.func (.func 32) #[] #[.pointer (some ⟨b,0,none⟩)])] [(b,.c (cArr a))] fun v bs rs =>
  v=vbool (l.any fun x=>decide (x.tick < a.since))∧bs=[(b,.c (cArr a))]∧rs=[]:=by
 refine Ok.of_ex Ty.mixed Tryz.func31 rfl (by simp [Tryz.ntmps31]) (by kernel_rfl) fun F w0 I0=>?_
 simp only [↓rA,rB,Nat.reduceEqDiff,reduceCtorEq,tbAGd2]
 refine OkF_with [_] [] (List.Perm.refl _) (indexF_ok l a b hl) ?_
 rintro v bs rs ⟨rfl,rfl,n,rfl,hn⟩
 simp only [↓rA,rB,Tryz.results31]
 refine⟨_,[_],[],Le.refl _,List.Sublist.refl _,List.nil_sublist _,?_,rfl,rfl⟩
 have:(l.any fun x=>decide (x.tick < a.since))=decide (0≤n):=by
  rw [Bool.eq_iff_iff];simp [hn]
 rw [this]
end Go.Proofs.YtopfanlkbepemaaGreat.Arr
set_option linter.unusedSimpArgs false
set_option maxRecDepth 100000
set_option linter.defProp false
namespace Go.Proofs.YtopfanlkbepemaaGreat.Arr
open Go.VL Go.Ar Go.Proofs.YtopfanlkbepemaaGreat Go.Proofs.YtopfanlkbepemaaGreat.Arr
def zD:List V:=[vstr ⟨#[]⟩,vint 0,vstr ⟨#[]⟩,vstr ⟨#[]⟩,vint 0,nilS,vint 0,vint 0,vint 0,vint 0]
theorem repl_len (n:Nat):(List.replicate n zD).flatten.length=n * 10:=by
 induction n with
 | zero=>rfl
 | succ n ih=>rw [List.replicate_succ,List.flatten_cons,List.length_append,ih,Nat.add_mul];simp only [zD,List.length_cons,List.length_nil];omega
def tbAGe0:=(aI (aI (aI Ty.t28 Ty.t3) (aI Ty.t30 (aI Ty.t40 Ty.t41))) (aI (aI Ty.t43 (aI Ty.t50 Ty.t51)) (aI Ty.t59 (aI Ty.t85 Ty.t9))))
theorem every_ok (a:Arr) (hl:a.groups.length≤big) (hn:(allD a.groups).length≤big):Ok Tryz.prog 34 [vArr a] [] fun v bs rs =>
  rs=[]∧∃ b,v=.lit (.slice (some ⟨b,0,none⟩) (allD a.groups).length (allD a.groups).length)∧bs=[(b,.c ((allD a.groups).map cDlt).flatten)]:=by
 refine Ok.of_exM [(12,1)] Ty.mixed Tryz.func34 rfl (by simp [Tryz.ntmps34]) (by kernel_rfl) fun F w0 I0=>?_
 obtain⟨s,l⟩:=a
 simp only at hl hn
 unfold big at hl hn
 simp only [↓rA,rB]
 refine fun b1 h1=>?_;replace h1:=newb h1;try simp only [Nb] at h1
 simp only [↓rA,rB,Nat.reduceEqDiff,tbAGe0,Tryz.results34]
 refine EX_for Ty.mixed (by kernel_rfl) l.length (fun i S=>S.σ 3=vint (allD (l.take i)).length∧S.rows=[]∧S.σ 1=ptr b1∧S.σ 11=vGrps l∧S.σ 12=vint l.length∧S.σ 13=vint i∧S.boxes=[(b1,.c (cArr ⟨s,l⟩))]) ⟨0,?_⟩ (fun i S hi ⟨g3,gr,g1,g11,g12,g13,gb⟩=>?_) (fun S ⟨g3,gr,g1,g11,g12,g13,gb⟩=>?_)
 ·simp only [rB,Nat.reduceEqDiff,List.length_map]
  rfl
 ·have hlen:=allD_len l i hi
  simp only [↓rA,rB,Nat.reduceAdd,Nat.reduceEqDiff,tbAGe0,gr,g11,g12,g13,gb,Int.ofNat_lt,hi,List.length_map,getD_map]
  refine fun b5 h5=>?_;replace h5:=newb h5;try simp only [Nb] at h5
  simp only [↓rA,rB,Nat.reduceAdd,Nat.reduceEqDiff,tbAGe0,g3,gr,g1,g11,g12,g13,gb,wrap_succ hi (Nat.le_trans hl (by decide)),List.length_map]
  refine⟨1,?_,rfl⟩
  have:(allD (l.take (i+1))).length=(allD (l.take i)).length+l[i].ds.length:=by rw [allD_take l i hi,List.length_append]
  rw [this,wrap_id (by omega) (by omega)]
  rfl
 ·simp only [↓rA,rB,Nat.reduceAdd,Nat.reduceEqDiff,Nat.reduceLT,tbAGe0,g3,gr,g12,g13,gb,Int.ofNat_lt,Nat.lt_irrefl]
  rw [List.take_of_length_le (Nat.le_refl _)]
  refine⟨⟨by omega,by omega⟩,?_⟩
  refine fun b6 h6=>?_;replace h6:=newb h6;try simp only [Nb] at h6
  simp only [↓rA,rB,Nat.reduceEqDiff,tbAGe0,g1,gb,h6,List.length_map]
  refine EX_for Ty.mixed (by kernel_rfl) l.length (fun i S=>∃ rest:List V,rest.length=((allD l).length - (allD (l.take i)).length) * 10∧S.σ 7=vint (allD (l.take i)).length∧S.σ 6=.lit (.slice (some ⟨b6,0,none⟩) (allD l).length (allD l).length)∧S.rows=[]∧S.σ 26=vGrps l∧S.σ 27=vint l.length∧S.σ 28=vint i∧S.boxes=[(b6,.c (((allD (l.take i)).map cDlt).flatten++rest)),(b1,.c (cArr ⟨s,l⟩))]) ⟨0,(List.replicate (allD l).length zD).flatten,?_,?_⟩ (fun i S hi ⟨rest,hr,g7,g6,gr,g26,g27,g28,gb⟩=>?_) (fun S ⟨rest,hr,g7,g6,gr,g26,g27,g28,gb⟩=>?_)
  ·rw [repl_len];rfl
  ·simp only [rB,Nat.reduceEqDiff,gr,gb]
   exact⟨rfl,rfl⟩
  ·have hlen:=allD_len l i hi
   simp only [↓rA,rB,Nat.reduceAdd,Nat.reduceEqDiff,tbAGe0,gr,g26,g27,g28,gb,Int.ofNat_lt,hi,List.length_map,getD_map]
   refine fun b9 h9=>?_;replace h9:=newb h9;try simp only [Nb] at h9
   simp only [↓rA,rB,Nat.reduceAdd,Nat.reduceEqDiff,tbAGe0,g7,g6,gr,g26,g27,g28,gb,h9,List.length_map]
   have hX:=cellsD_len (allD (l.take i))
   have hY:=cellsD_len l[i].ds
   have htl:(allD (l.take (i+1))).length=(allD (l.take i)).length+l[i].ds.length:=by rw [allD_take l i hi,List.length_append]
   refine⟨by omega,⟨?_,?_⟩⟩
   ·rw [List.length_append,hX,hr]
    split <;> omega
   ·refine⟨1,rest.drop (l[i].ds.length * 10),?_,?_,?_,?_⟩
    ·rw [List.length_drop,hr,htl];omega
    ·rw [Nat.min_eq_left (by omega),wrap_id (by omega) (by omega),htl]
     rfl
    ·rw [wrap_succ hi (Nat.le_trans hl (by decide))]
    ·have hfin:((allD (l.take (i+1))).map cDlt).flatten=((allD (l.take i)).map cDlt).flatten++(l[i].ds.map cDlt).flatten:=by rw [allD_take l i hi,List.map_append,List.flatten_append]
     rw [Nat.min_eq_left (by omega),hfin]
     by_cases hA:(allD l).length=(allD (l.take i)).length
     ·have hm:l[i].ds=[]:=List.eq_nil_of_length_eq_zero (by omega)
      rw [if_pos hA,hm]
      simp
     ·rw [if_neg hA,List.take_left' hX,List.take_of_length_le (Nat.le_of_eq hY),← List.drop_drop,List.drop_left' hX]
      rfl
  ·simp only [↓rA,rB,Nat.reduceEqDiff,g6,gr,g27,g28,gb,Int.ofNat_lt,Nat.lt_irrefl]
   rw [List.take_of_length_le (Nat.le_refl _)] at hr ⊢
   obtain rfl:rest=[]:=List.eq_nil_of_length_eq_zero (by omega)
   rw [List.append_nil]
   exact⟨_,[_],[],Le.refl _,List.Sublist.cons_cons _ (List.nil_sublist _),List.nil_sublist _,rfl,b6,rfl,rfl⟩
theorem every_row (a:Arr) (hl:a.groups.length≤big) (hn:(allD a.groups).length≤big):OkRow Tryz.prog 34 [vArr a] 10 50 ((allD a.groups).map cDlt):=by
 refine Ok.toRow (every_ok a hl hn) fun v bs rs h=>?_
 obtain⟨rfl,b,rfl,rfl⟩:=h
 refine⟨b,_,10,50,(allD a.groups).map cDlt,[],List.Perm.refl _,fun e he=>?_,by simp,by decide,Nat.le_trans hn (by decide),rfl,rfl,_,rfl,rfl⟩
 obtain⟨x,_,rfl⟩:=List.mem_map.1 he
 rfl
end Go.Proofs.YtopfanlkbepemaaGreat.Arr
set_option linter.unusedSimpArgs false
set_option maxRecDepth 100000
set_option linter.defProp false
namespace Go.Proofs.YtopfanlkbepemaaGreat.Arr
open Go.VL Go.Ar Go.Proofs.YtopfanlkbepemaaGreat Go.Proofs.YtopfanlkbepemaaGreat.Arr
def fitG (l:List Grp):Prop:=l.length≤big∧∀ g ∈ l,fitDs g.ds
def hasAt (g:Grp) (t:Int):Bool:=decide (0 < (rowsM (consM (earlyM g.ds t))).length)
def keysP (l:List Grp) (t:Int):List Str:=(l.filter fun g=>hasAt g t).map (·.key)
def tbAGf0:=(aI (aI (aI (aI Ty.c27 Ty.t26) (aI Ty.t28 Ty.t3)) (aI (aI Ty.t30 Ty.t34) (aI Ty.t36 Ty.t4))) (aI (aI (aI Ty.t40 Ty.t41) (aI Ty.t43 Ty.t50)) (aI (aI Ty.t51 Ty.t59) (aI Ty.t85 Ty.t9))))
theorem keysP_ok (a:Arr) (t:Int) (ha:fitG a.groups):Ok Tryz.prog 9 [vArr a,vint t] [] fun v bs rs=>bs=[] ∧
  ((t < a.since∧v=.tup [nilS,vint 220]∧rs=[])∨(¬ t < a.since∧∃ y,v=.tup [.list (some y) 1 ((keysP a.groups t).map fun s=>[vstr s]),vint 0]∧rs=[⟨y,1,9⟩])):=by
 refine Ok.of_ex Ty.mixed Tryz.func9 rfl (by simp [Tryz.ntmps9]) (by kernel_rfl) fun F w0 I0=>?_
 obtain⟨s,l⟩:=a
 obtain⟨hl,hg⟩:=ha
 simp only at hl hg
 unfold big at hl
 simp only [↓rA,rB]
 refine fun b1 h1=>?_;replace h1:=newb h1;try simp only [Nb] at h1
 simp only [↓rA,rB,Nat.reduceAdd,Nat.reduceEqDiff,tbAGf0]
 refine onCond_splitb (fun hc=>?_) (fun hc=>?_)
 ·simp only [↓rA,rB,Nat.reduceEqDiff,Tryz.results9]
  exact⟨_,[],[],Le.refl _,List.nil_sublist _,List.nil_sublist _,rfl,.inl ⟨by simpa using hc,rfl,rfl⟩⟩
 ·simp only [↓rA,rB,Nat.reduceEqDiff,tbAGf0,Tryz.results9]
  refine AWP.nilRow 4 1 9 (by simp only [rB,Nat.reduceEqDiff]) (by decide) ?_
  refine EX_forS Ty.mixed (by kernel_rfl) l.length (fun i S=>∃ y,S.σ 4=.list (some y) 1 ((keysP (l.take i) t).map fun s=>[vstr s])∧S.rows=[⟨y,1,9⟩]∧S.σ 1=vint t∧S.σ 5=vint 0∧S.σ 13=vGrps l∧S.σ 14=vint l.length∧S.σ 15=vint i∧S.boxes=[(b1,.c (cArr ⟨s,l⟩))]) ⟨_,_,List.Sublist.refl _,List.Sublist.refl _,nilv,?_⟩ (fun i S hi ⟨y,g4,gr,g1,g5,g13,g14,g15,gb⟩=>?_) (fun S ⟨y,g4,gr,g1,g5,g13,g14,g15,gb⟩=>?_)
  ·simp only [rB,Nat.reduceEqDiff,List.length_map]
   rfl
  ·have htk:keysP (l.take (i+1)) t=keysP (l.take i) t++(if hasAt l[i] t=true then [l[i].key] else []):=by
    unfold keysP
    rw [List.take_succ_eq_append_getElem hi,List.filter_append,List.map_append]
    by_cases hx:hasAt l[i] t=true <;> simp [hx]
   have hlen:(keysP (l.take i) t).length≤i:=by
    have:=List.length_filter_le (fun g=>hasAt g t) (l.take i)
    simp only [List.length_take] at this
    unfold keysP;rw [List.length_map];omega
   simp only [↓rA,rB,Nat.reduceAdd,Nat.reduceEqDiff,tbAGf0,gr,g13,g14,g15,gb,Int.ofNat_lt,hi,List.length_map,getD_map]
   refine fun b7 h7=>?_;replace h7:=newb h7;try simp only [Nb] at h7
   simp only [↓rA,rB,Nat.reduceAdd,Nat.reduceEqDiff,tbAGf0,g1,gb]
   refine OkF_of _ (OkRow.list (at_ok l[i].ds t (hg _ (List.getElem_mem hi)))) ?_
   simp only [↓rA,rB,tbAGf0,gr,List.length_map]
   by_cases hx:hasAt l[i] t=true
   ·have hx':(0:Int) < ((rowsM (consM (earlyM l[i].ds t))).length:Int):=by simpa [hasAt] using hx
    simp only [↓rA,rB,Nat.reduceAdd,Nat.reduceEqDiff,Nat.reduceLT,Nat.reduceLeDiff,Nat.reduceMul,tbAGf0,g4,gr,hx']
    refine fun y2=>takeRF_2 ?_
    simp only [↓rA,rB,Nat.reduceEqDiff,gr,g15,wrap_succ hi (Nat.le_trans hl (by decide)),List.length_map]
    refine⟨(by first | omega | (simp;omega)),fun y3=>⟨_,[_],List.Sublist.cons _ (List.Sublist.refl _),List.Sublist.cons_cons _ (List.nil_sublist _),y3,?_⟩⟩
    simp only [rB,Nat.reduceEqDiff,g1,g5,g13,g14]
    rw [htk,if_pos hx,List.map_append]
    rfl
   ·have hx':¬ (0:Int) < ((rowsM (consM (earlyM l[i].ds t))).length:Int):=by simpa [hasAt] using hx
    simp only [↓rA,rB,Nat.reduceEqDiff,gr,g15,hx',wrap_succ hi (Nat.le_trans hl (by decide))]
    refine⟨_,_,List.Sublist.cons _ (List.Sublist.refl _),List.Sublist.refl _,y,?_⟩
    simp only [rB,Nat.reduceEqDiff,g4,g1,g5,g13,g14]
    rw [htk,if_neg hx,List.append_nil]
  ·simp only [↓rA,rB,Nat.reduceEqDiff,g4,gr,g14,g15,gb,Int.ofNat_lt,Nat.lt_irrefl]
   rw [List.take_of_length_le (Nat.le_refl _)]
   exact⟨_,[],[_],Le.refl _,List.nil_sublist _,List.Sublist.refl _,rfl,.inr ⟨by simpa using hc,y,rfl,rfl⟩⟩
end Go.Proofs.YtopfanlkbepemaaGreat.Arr
set_option linter.unusedSimpArgs false
set_option maxRecDepth 100000
set_option linter.defProp false
namespace Go.Proofs.YtopfanlkbepemaaGreat.Arr
open Go.VL Go.Ar Go.Proofs.YtopfanlkbepemaaGreat Go.Proofs.YtopfanlkbepemaaGreat.Arr
abbrev keyFn:V:=.lit (.func (.func 54) #[] #[])
def tbAGg0:=(aI (aI (aI Ty.c54 Ty.c56) (aI Ty.t3 (aI Ty.t40 Ty.t41))) (aI (aI Ty.t43 (aI Ty.t50 Ty.t51)) (aI Ty.t59 (aI Ty.t85 Ty.t9))))
theorem groupKey_ok (k:Str) (own:Option Value) (es:List (List V)):OkP Tryz.prog 54 [.agg [vstr k,.list own 10 es]] (vstr k):=by
 refine Ok.of_ex Ty.mixed Tryz.func54 rfl (by simp [Tryz.ntmps54]) (by kernel_rfl) fun F w0 I0=>?_
 simp only [↓rA,rB]
 refine fun b1 h1=>?_;replace h1:=newb h1;try simp only [Nb] at h1
 simp only [↓rA,rB,Nat.reduceEqDiff,tbAGg0,Tryz.results54]
 exact ret_done rfl
def tbAGg1:=(aI (aI (aI (aI Ty.c54 Ty.c56) (aI Ty.c57 Ty.t102)) (aI (aI Ty.t106 Ty.t108) (aI Ty.t28 Ty.t3))) (aI (aI (aI Ty.t40 Ty.t41) (aI Ty.t43 Ty.t50)) (aI (aI Ty.t51 Ty.t59) (aI Ty.t85 Ty.t9))))
theorem placeF_ok (k key:Str) (own:Option Value) (es:List (List V)) (bi bp:Nat) (sl:V) (hne:bi ≠ bp):Ok Tryz.prog 56 [.agg [vstr k,.list own 10 es],vstr key,ptr bp] [(bp,.c [ptr bi]),(bi,.c [sl,keyFn])] fun v bs rs=>v=vint (cmpS k key)∧bs=[(bp,.c [ptr bi]),(bi,.c [sl,keyFn])]∧rs=[]:=by
 refine Ok.of_ex Ty.mixed Tryz.func56 rfl (by simp [Tryz.ntmps56]) (by kernel_rfl) fun F w0 I0=>?_
 simp only [↓rA,rB]
 refine fun b3 h3=>?_;replace h3:=newb h3;try simp only [Nb] at h3
 simp only [↓rA,rB,Nat.reduceAdd,Nat.reduceEqDiff,tbAGg1,h3,hne]
 refine CallV_of _ (groupKey_ok k own es).v ?_
 simp only [↓rA,rB,Nat.reduceEqDiff,tbAGg1]
 refine CallV_of _ (cmpS_ok k key).v ?_
 simp only [↓rA,rB,Tryz.results56]
 exact⟨_,[_,_],[],Le.refl _,List.Sublist.cons _ (List.Sublist.refl _),List.nil_sublist _,rfl,rfl,rfl⟩
abbrev GI:=Str × Value × List Dlt
abbrev cGI (p:GI):List V:=[vstr p.1,.list (some p.2.1) 10 (p.2.2.map cDlt)]
theorem cellsG_len (l:List GI):(l.map cGI).flatten.length=l.length * 2:=by
 induction l with
 | nil=>rfl
 | cons x l ih=>simp only [List.map_cons,List.flatten_cons,List.length_append,ih,List.length_cons,List.length_nil];omega
theorem cellG_at (l:List GI) (rest:List V) (i:Nat) (hi:i < l.length):(((l.map cGI).flatten++rest).drop (i * 2)).take 2=cGI l[i]:=cut_block (c:=cGI) (fun _=>rfl) l rest i hi
abbrev placeFn (bp:Nat):V:=.lit (.func (.func 56) #[] #[.pointer (some ⟨bp,0,none⟩)])
def Sorted (l:List GI):Prop:=l.Pairwise fun a b=>less a.1 b.1=true
theorem less_cmp (a b:Str):less a b=true↔cmpS a b < 0:=by
 constructor
 ·intro h;rw [cmpS_lt h];decide
 ·intro h
  cases hl:less a b
  ·by_cases e:a=b
   ·rw [e,cmpS_refl] at h;exact absurd h (by decide)
   ·rw [cmpS_gt hl e] at h;exact absurd h (by decide)
  ·rfl
theorem less_trans {a b c:Str} (h:less a b=true) (h':less b c=true):less a c=true:=(less_cmp a c).2 (pre_cmpS.lt_trans ((less_cmp a b).1 h) ((less_cmp b c).1 h'))
theorem mid_eq {i k:Nat} (hi:i≤k) (hk:k≤4194304):IntKind.i64.wrap ((IntKind.u64.wrap (IntKind.i64.wrap ((i:Int)+(k:Int)))).fdiv (2 ^ min 1 IntKind.u64.bits))=(((i+k) / 2:Nat):Int):=by
 have e1:IntKind.i64.wrap ((i:Int)+(k:Int))=(i:Int)+k:=wrap_id (by omega) (by omega)
 have e2:IntKind.u64.wrap ((i:Int)+(k:Int))=(i:Int)+k:=by
  simp only [IntKind.wrap,IntKind.signed,IntKind.bits,Bool.false_and,Bool.false_eq_true,if_false]
  omega
 rw [e1,e2,show min 1 IntKind.u64.bits=1 from rfl,Int.fdiv_eq_ediv_of_nonneg _ (by decide),wrap_id (by omega) (by omega)]
 omega
def tbAGg2:=(aI (aI (aI Ty.c54 (aI Ty.c56 Ty.t141)) (aI (aI Ty.t146 Ty.t28) (aI Ty.t3 Ty.t4))) (aI (aI (aI Ty.t40 Ty.t41) (aI Ty.t43 Ty.t50)) (aI (aI Ty.t51 Ty.t59) (aI Ty.t85 Ty.t9))))
theorem bsearch_ok (l:List GI) (key:Str) (rest:List V) (ba c bi bp:Nat) (sl:V) (hl:l.length≤big) (hs:Sorted l) (h1:bi ≠ bp) (h2:ba ≠ bp) (h3:ba ≠ bi) :
  Ok Tryz.prog 55 [.lit (.slice (some ⟨ba,0,none⟩) l.length c),vstr key,placeFn bp] [(bp,.c [ptr bi]),(bi,.c [sl,keyFn]),(ba,.c ((l.map cGI).flatten++rest))] fun v bs rs =>
   bs=[(bp,.c [ptr bi]),(bi,.c [sl,keyFn]),(ba,.c ((l.map cGI).flatten++rest))]∧rs=[]∧∃ i,i≤l.length∧(∀ j,(h:j < l.length)→(j < i↔less l[j].1 key=true))∧v=.tup [vint i,vbool (decide (l[i]?.map (·.1)=some key))]:=by
 refine Ok.of_ex Ty.mixed Tryz.func55 rfl (by simp [Tryz.ntmps55]) (by kernel_rfl) fun F w0 I0=>?_
 unfold big at hl
 simp only [↓rA,rB,Nat.reduceEqDiff,reduceCtorEq,tbAGg2,Tryz.results55]
 refine EX_while Ty.mixed (by kernel_rfl) (fun x=>x.2 - x.1) (fun(x:Nat × Nat) S=>(x.1≤x.2∧x.2≤l.length∧(∀ j,(h:j < l.length)→j < x.1→less l[j].1 key=true)∧∀ j,(h:j < l.length)→x.2≤j→less l[j].1 key=false)∧S.σ 0=.lit (.slice (some ⟨ba,0,none⟩) l.length c)∧S.σ 1=vstr key∧S.σ 2=placeFn bp∧S.σ 8=vint l.length∧S.σ 9=vint x.1∧S.σ 10=vint x.2∧S.rows=[]∧S.boxes=[(bp,.c [ptr bi]),(bi,.c [sl,keyFn]),(ba,.c ((l.map cGI).flatten++rest))]) (0,l.length) ⟨0,⟨Nat.zero_le _,Nat.le_refl _,fun j h h'=>by omega,fun j h h'=>by omega⟩,?_⟩ (fun⟨i,k⟩ S ⟨⟨hik,hk,hlo,hhi⟩,g0,g1,g2,g8,g9,g10,gr,gb⟩=>?_)
 ·simp only [rB,Nat.reduceEqDiff,reduceCtorEq]
 ·simp only at hik hk hlo hhi g9 g10
  by_cases hlt:i < k
  ·simp only [↓rA,rB,Int.reduceLE,Int.reduceToNat,Nat.reduceEqDiff,reduceCtorEq,tbAGg2,g0,g1,g2,g9,g10,gb,h2,h3,Int.ofNat_lt,hlt]
   have hm:=mid_eq hik (show k≤4194304 by omega)
   generalize hmd:(i+k) / 2=m at hm
   have hml:m < l.length:=by omega
   have hdl:2≤(((l.map cGI).flatten++rest).drop (m * 2)).length:=by rw [List.length_drop,List.length_append,cellsG_len];omega
   rw [hm,Int.toNat_natCast]
   refine⟨by omega,by omega,hdl,?_⟩
   rw [cellG_at l rest m hml]
   refine OkF_with [_,_] [_] (List.Perm.refl _) (placeF_ok l[m].1 key _ _ bi bp sl h1) ?_
   rintro v bs rs ⟨rfl,rfl,rfl⟩
   cases hc:less l[m].1 key
   ·have hc':¬ cmpS l[m].1 key < 0:=fun h=>by rw [(less_cmp _ _).2 h] at hc;cases hc
    simp only [↓rA,rB,Nat.reduceEqDiff,reduceCtorEq,g0,g1,g2,g8,g9,gr,hc']
    refine⟨(i,m),by simp only;omega,0,⟨by omega,by omega,hlo,fun j h hj=>?_⟩,rfl,rfl,rfl⟩
    rcases Nat.lt_or_ge m j with h' | h'
    ·have hmj:=(List.pairwise_iff_getElem.1 hs) m j hml h h'
     cases hjc:less l[j].1 key
     ·rfl
     ·rw [less_trans hmj hjc] at hc;cases hc
    ·obtain rfl:j=m:=by simp only at hj;omega
     exact hc
   ·have hc':cmpS l[m].1 key < 0:=(less_cmp _ _).1 hc
    simp only [↓rA,rB,Nat.reduceEqDiff,reduceCtorEq,g0,g1,g2,g8,g10,gr,hc',wrap_succ hml (show l.length≤9223372036854775807 by omega)]
    refine⟨(m+1,k),by simp only;omega,0,⟨by omega,by omega,fun j h hj=>?_,hhi⟩,rfl,rfl,rfl⟩
    rcases Nat.lt_or_ge j m with h' | h'
    ·exact less_trans ((List.pairwise_iff_getElem.1 hs) j m h hml h') hc
    ·obtain rfl:j=m:=by simp only at hj;omega
     exact hc
  ·simp only [↓rA,rB,Nat.reduceEqDiff,g8,g9,g10,Int.ofNat_lt,hlt]
   obtain rfl:i=k:=by omega
   have hspec:∀ j,(h:j < l.length)→(j < i↔less l[j].1 key=true):=fun j h=>by
    constructor
    ·exact hlo j h
    ·intro hj
     rcases Nat.lt_or_ge j i with h' | h'
     ·exact h'
     ·rw [hhi j h h'] at hj;cases hj
   by_cases hil:i < l.length
   ·simp only [↓rA,rB,Nat.reduceEqDiff,reduceCtorEq,tbAGg2,g0,g1,g2,g9,gb,h2,h3,hil,Int.ofNat_lt]
    have hdl:2≤(((l.map cGI).flatten++rest).drop (i * 2)).length:=by rw [List.length_drop,List.length_append,cellsG_len];omega
    refine⟨hdl,?_⟩
    rw [cellG_at l rest i hil]
    refine OkF_with [_,_] [_] (List.Perm.refl _) (placeF_ok l[i].1 key _ _ bi bp sl h1) ?_
    rintro v bs rs ⟨rfl,rfl,rfl⟩
    simp only [↓rA,rB,Nat.reduceEqDiff,gr,hil]
    refine⟨_,[_,_,_],[],Le.refl _,List.Sublist.refl _,List.nil_sublist _,rfl,rfl,i,by omega,hspec,?_⟩
    have:decide (l[i]?.map (·.1)=some key)=decide (cmpS l[i].1 key=0):=by
     rw [List.getElem?_eq_getElem hil]
     refine decide_eq_decide.2 ?_
     simp [cmpS_eq0]
    rw [this]
   ·simp only [↓rA,rB,Nat.reduceEqDiff,gr,gb,hil]
    refine⟨_,[_,_,_],[],Le.refl _,List.Sublist.refl _,List.nil_sublist _,rfl,rfl,i,by omega,hspec,?_⟩
    rw [List.getElem?_eq_none (by omega)]
    rfl
end Go.Proofs.YtopfanlkbepemaaGreat.Arr
set_option linter.unusedSimpArgs false
set_option maxRecDepth 100000
set_option linter.defProp false
namespace Go.Proofs.YtopfanlkbepemaaGreat.Arr
open Go.VL Go.Ar Go.Proofs.YtopfanlkbepemaaGreat Go.Proofs.YtopfanlkbepemaaGreat.Arr
def tbAGh0:=(aI (aI (aI Ty.c56 (aI Ty.t141 Ty.t146)) (aI (aI Ty.t28 Ty.t3) (aI Ty.t4 Ty.t40))) (aI (aI Ty.t41 (aI Ty.t43 Ty.t50)) (aI (aI Ty.t51 Ty.t59) (aI Ty.t85 Ty.t9))))
theorem bsearchNil_ok (key:Str) (bp:Nat):OkP Tryz.prog 55 [nilS,vstr key,placeFn bp] (.tup [vint 0,vbool false]):=by
 refine Ok.of_ex Ty.mixed Tryz.func55 rfl (by simp [Tryz.ntmps55]) (by kernel_rfl) fun F w0 I0=>?_
 simp only [↓rA,rB,Nat.reduceEqDiff,reduceCtorEq,tbAGh0,Tryz.results55]
 refine EX_while Ty.mixed (by kernel_rfl) (fun _=>0) (fun(_:Unit) S=>S.σ 8=vint 0∧S.σ 9=vint 0∧S.σ 10=vint 0∧S.rows=[]∧S.boxes=[]) () ⟨0,?_⟩ (fun _ S ⟨g8,g9,g10,gr,gb⟩=>?_)
 ·simp only [rB,Nat.reduceEqDiff]
  try exact⟨rfl,rfl,rfl,rfl,rfl⟩
 ·simp only [↓rA,rB,Nat.reduceEqDiff,g8,g9,g10,gr,gb,Int.lt_irrefl]
  exact ret_done rfl
def tbAGh1:=(aI (aI (aI (aI Ty.c55 Ty.c56) (aI Ty.t102 Ty.t104)) (aI (aI Ty.t106 Ty.t108) (aI Ty.t146 (aI Ty.t28 Ty.t3)))) (aI (aI (aI Ty.t4 Ty.t40) (aI Ty.t41 Ty.t43)) (aI (aI Ty.t50 Ty.t51) (aI Ty.t59 (aI Ty.t85 Ty.t9)))))
theorem placeNil_ok (key:Str) (bi:Nat):Ok Tryz.prog 29 [ptr bi,vstr key] [(bi,.c [nilS,keyFn])] fun v bs rs=>v=.tup [vint 0,vbool false]∧bs=[(bi,.c [nilS,keyFn])]∧rs=[]:=by
 refine Ok.of_ex Ty.mixed Tryz.func29 rfl (by simp [Tryz.ntmps29]) (by kernel_rfl) fun F w0 I0=>?_
 simp only [↓rA,rB]
 refine fun bp hp=>?_;replace hp:=newb hp;try simp only [Nb] at hp
 simp only [↓rA,rB,Nat.reduceAdd,Nat.reduceEqDiff,tbAGh1,hp]
 refine OkF_of _ (bsearchNil_ok key bp) ?_
 simp only [↓rA,rB,Nat.reduceEqDiff,Tryz.results29]
 exact⟨_,[_],[],Le.refl _,List.Sublist.cons _ (List.Sublist.refl _),List.nil_sublist _,rfl,rfl,rfl⟩
def tbAGh2:=(aI (aI (aI (aI Ty.c55 Ty.c56) (aI Ty.t102 Ty.t104)) (aI (aI Ty.t106 Ty.t108) (aI Ty.t146 (aI Ty.t28 Ty.t3)))) (aI (aI (aI Ty.t4 Ty.t40) (aI Ty.t41 Ty.t43)) (aI (aI Ty.t50 Ty.t51) (aI Ty.t59 (aI Ty.t85 Ty.t9)))))
theorem place_ok (l:List GI) (key:Str) (rest:List V) (ba c bi:Nat) (hl:l.length≤big) (hs:Sorted l) (h3:ba ≠ bi) :
  Ok Tryz.prog 29 [ptr bi,vstr key] [(bi,.c [.lit (.slice (some ⟨ba,0,none⟩) l.length c),keyFn]),(ba,.c ((l.map cGI).flatten++rest))] fun v bs rs =>
   bs=[(bi,.c [.lit (.slice (some ⟨ba,0,none⟩) l.length c),keyFn]),(ba,.c ((l.map cGI).flatten++rest))]∧rs=[]∧∃ i,i≤l.length∧(∀ j,(h:j < l.length)→(j < i↔less l[j].1 key=true))∧v=.tup [vint i,vbool (decide (l[i]?.map (·.1)=some key))]:=by
 refine Ok.of_ex Ty.mixed Tryz.func29 rfl (by simp [Tryz.ntmps29]) (by kernel_rfl) fun F w0 I0=>?_
 simp only [↓rA,rB]
 refine fun bp hp=>?_;replace hp:=newb hp;try simp only [Nb] at hp
 simp only [↓rA,rB,Nat.reduceAdd,Nat.reduceEqDiff,tbAGh2,hp]
 refine OkF_with [_,_,_] [] (List.Perm.refl _) (bsearch_ok l key rest ba c bi bp _ hl hs hp.1.1 hp.2.1.1 h3) ?_
 rintro v bs rs ⟨rfl,rfl,i,hi,hj,rfl⟩
 simp only [↓rA,rB,Nat.reduceEqDiff,Tryz.results29]
 exact⟨_,[_,_],[],Le.refl _,List.Sublist.cons _ (List.Sublist.refl _),List.nil_sublist _,rfl,rfl,i,hi,hj,rfl⟩
end Go.Proofs.YtopfanlkbepemaaGreat.Arr
set_option linter.unusedSimpArgs false
set_option maxRecDepth 100000
set_option linter.defProp false
namespace Go.Proofs.YtopfanlkbepemaaGreat.Arr
open Go.VL Go.Ar Go.Proofs.YtopfanlkbepemaaGreat Go.Proofs.YtopfanlkbepemaaGreat.Arr
def tbAGi0:=(aI (aI (aI Ty.t28 Ty.t3) (aI Ty.t4 (aI Ty.t40 Ty.t41))) (aI (aI Ty.t43 (aI Ty.t50 Ty.t51)) (aI Ty.t59 (aI Ty.t85 Ty.t9))))
theorem cloneNil_ok:OkP Tryz.prog 53 [nilS] nilS:=by
 refine Ok.of_ex Ty.mixed Tryz.func53 rfl (by simp [Tryz.ntmps53]) (by kernel_rfl) fun F w0 I0=>?_
 simp only [↓rA,rB,reduceCtorEq,tbAGi0,Tryz.results53]
 exact ret_done rfl
def tbAGi1:=(aI (aI (aI Ty.c53 (aI Ty.c54 Ty.t102)) (aI (aI Ty.t106 Ty.t108) (aI Ty.t28 Ty.t3))) (aI (aI (aI Ty.t40 Ty.t41) (aI Ty.t43 Ty.t50)) (aI (aI Ty.t51 Ty.t59) (aI Ty.t85 Ty.t9))))
theorem groupsNil_ok:Ok Tryz.prog 28 [nilS] [] fun v bs rs=>rs=[]∧∃ b,v=ptr b∧bs=[(b,.c [nilS,keyFn])]:=by
 refine Ok.of_ex Ty.mixed Tryz.func28 rfl (by simp [Tryz.ntmps28]) (by kernel_rfl) fun F w0 I0=>?_
 simp only [↓rA,rB,reduceCtorEq,tbAGi1]
 refine OkF_of _ cloneNil_ok ?_
 simp only [↓rA,rB,Nat.reduceAdd,Nat.reduceLeDiff,tbAGi1]
 refine fun b1 h1=>?_;replace h1:=newb h1;try simp only [Nb] at h1
 simp only [↓rA,rB,Tryz.results28]
 exact⟨_,[_],[],Le.refl _,List.Sublist.refl _,List.nil_sublist _,rfl,b1,rfl,rfl⟩
end Go.Proofs.YtopfanlkbepemaaGreat.Arr
set_option linter.unusedSimpArgs false
set_option maxRecDepth 100000
set_option linter.defProp false
namespace Go.Proofs.YtopfanlkbepemaaGreat.Arr
open Go.VL Go.Ar Go.Proofs.YtopfanlkbepemaaGreat Go.Proofs.YtopfanlkbepemaaGreat.Arr
def tbAGj0:=(aI (aI (aI Ty.c120 (aI Ty.c121 Ty.t28)) (aI Ty.t3 (aI Ty.t4 Ty.t40))) (aI (aI Ty.t41 (aI Ty.t43 Ty.t50)) (aI (aI Ty.t51 Ty.t59) (aI Ty.t85 Ty.t9))))
theorem insNil_ok (g:List V) (own:Option Value):Ok Tryz.prog 88 [nilS,vint 0,.list own 2 [g]] [] fun v bs rs=>rs=[]∧∃ b c,1≤c∧v=.lit (.slice (some ⟨b,0,none⟩) 1 c)∧bs=[(b,.c (g++anys ((c - 1) * 2)))]:=by
 refine Ok.of_ex Ty.mixed Tryz.func88 rfl (by simp [Tryz.ntmps88]) (by kernel_rfl) fun F w0 I0=>?_
 simp only [↓rA,rB,Int.reduceToNat,Nat.reduceEqDiff,reduceCtorEq,tbAGj0]
 simp only [↓rA,rB,Nat.reduceEqDiff,reduceCtorEq,tbAGj0,show ¬ ((1:Nat):Int)=0 by decide]
 refine Or2.r ?_
 simp only [↓rA,rB,Nat.reduceAdd,Nat.reduceLT,Nat.reduceLeDiff,Nat.reduceMul,tbAGj0]
 refine fun b c hb hc=>?_
 simp only [↓rA,rB,Tryz.results88]
 exact⟨_,[_],[],Le.refl _,List.Sublist.refl _,List.nil_sublist _,rfl,b,c,hc,rfl,by simp⟩
def tbAGj1:=(aI (aI (aI Ty.c120 (aI Ty.c121 Ty.t28)) (aI Ty.t3 (aI Ty.t4 Ty.t40))) (aI (aI Ty.t41 (aI Ty.t43 Ty.t50)) (aI (aI Ty.t51 Ty.t59) (aI Ty.t85 Ty.t9))))
theorem insEnd_ok (cs:List V) (n c ba:Nat) (g:List V) (own:Option Value) (hg:g.length=2) (hcs:cs.length=c * 2) (hn:n≤c) (hnb:n≤big):Ok Tryz.prog 88 [.lit (.slice (some ⟨ba,0,none⟩) n c),vint n,.list own 2 [g]] [(ba,.c cs)] fun v bs rs=>rs=[]∧∃ b c',n+1≤c'∧v=.lit (.slice (some ⟨b,0,none⟩) (n+1) c')∧bs=[(b,.c (cs.take (n * 2)++g++anys ((c' - (n+1)) * 2)))]:=by
 unfold big at hnb
 refine Ok.of_ex Ty.mixed Tryz.func88 rfl (by simp [Tryz.ntmps88]) (by kernel_rfl) fun F w0 I0=>?_
 simp only [↓rA,rB,Nat.reduceEqDiff,reduceCtorEq,tbAGj1]
 refine⟨hn,?_⟩
 simp only [↓rA,rB,Nat.reduceEqDiff,reduceCtorEq,tbAGj1,show ¬ ((1:Nat):Int)=0 by decide]
 refine Or2.r ?_
 simp only [↓rA,rB,Nat.reduceAdd,Nat.reduceLT,tbAGj1]
 refine⟨⟨hcs,hn,by omega⟩,fun b c' hb hc=>?_⟩
 simp only [↓rA,rB,Tryz.results88,remB]
 exact⟨_,[_],[],Le.refl _,List.Sublist.refl _,List.nil_sublist _,rfl,b,c',hc,rfl,by simp⟩
end Go.Proofs.YtopfanlkbepemaaGreat.Arr
set_option linter.unusedSimpArgs false
set_option maxRecDepth 100000
set_option linter.defProp false
namespace Go.Proofs.YtopfanlkbepemaaGreat.Arr
open Go.VL Go.Ar Go.Proofs.YtopfanlkbepemaaGreat Go.Proofs.YtopfanlkbepemaaGreat.Arr
theorem run_overlaps_box {P:Program} (w:World) (tS tR e:TypeId) (ht:P.underlying tS=some (.slice e)) (size:Nat) (hz:∀ w,(Go.sizeOf e).run P w=.ok size w)
  (a b:Addr) (la ca lb cb:Nat) (hne:a.block ≠ b.block) (tA tB:TypeId) (kA kB:Nat) (hsa:w.shape? a.block=some (tA,kA+1)) (hsb:w.shape? b.block=some (tB,kB)) (hfb:∀ o,w.frozen? ⟨b.block,o,none⟩=false) (hsp:b.spot=none) :
  (Extern.SlicesOverlaps.overlaps #[tS,tS] #[tR] #[.slice (some a) la ca,.slice (some b) lb cb]).run P w=.ok (.bool false) w:=by
 have hnb:(a.block != b.block)=true:=by simpa using hne
 have hnb':(a.block == b.block)=false:=by simpa using hne
 have hb0:w.frozen? b=false:=by
  have:=hfb b.off
  obtain⟨bb,bo,bs⟩:=b
  simp only at hsp;subst hsp;exact this
 have hb1:=hfb kB
 change Sem.run P (α:=Value) (do
  let some t := (#[tS, tS] : Array TypeId)[0]? | stuck "slices.overlaps: no parameter types"
  let .slice elem ← underlying t | stuck "slices.overlaps: slice type expected"
  let size ← sizeOf elem
  match (some a:Option Addr),(some b:Option Addr) with
  | some a,some b =>
   if la=0∨lb=0∨size=0 then pure (Value.bool false)
   else if a.block != b.block && (← frozen a) && (← frozen b) then unsupported .addressObserved
   else do
    if a.block != b.block then do
     noView a;noView b
     if ← mayBeOne a b then return Value.bool ((← choose (.extern "sameAddr.stringBytes" 2)) == 1)
    pure (Value.bool (a.block == b.block && a.off < b.off+lb * size && b.off < a.off+la * size))
  | _,_=>pure (Value.bool false)) w=_
 by_cases h0:la=0∨lb=0∨size=0
 ·simp [run_underlying ht,hz,h0]
 ·cases h1:w.frozen? a <;> cases h2:w.frozen? { block:=a.block,off:=kA+1 } <;>
   simp [run_underlying ht,hz,h0,hnb,hnb',frozen,noView,viewAt,mayBeOne,stringish,shape,Sem.run,hsa,hsb,hb0,hb1,h1,h2]
theorem overlaps_ext (S:St) (cs g:List V) (b o n c:Nat) (own:Option Value) (hb:getB S.boxes b=some cs) (hg:g.length=2):ExtV Tryz.prog S 120 [.list own 2 [g],.lit (.slice (some ⟨b,o,none⟩) n c)] (vbool false):=by
 intro w I xs hH hr
 match xs,hr with
 | [x,y],hr =>
  simp only [V.reps,V.rep,and_true] at hr
  obtain⟨⟨_,a,ca,rfl,_,hl⟩,rfl⟩:=hr
  obtain⟨b',o',rfl,hq⟩:=hl.resolve_left (by simp)
  match g,hg,hq with
  | g0::gr,_,hq =>
   simp only [V.lies] at hq
   have hq:=hq.1
   simp only [V.ats] at hq
   obtain⟨⟨x0,hc,hI,_⟩,_⟩:=hq
   obtain⟨arr,e,h1,_,_,h4⟩:=hH.bx _ (getB_mem hb)
   have hne:b' ≠ b:=fun h=>h4 o' (h▸hI)
   have hs:∃ t k,w.shape? b'=some (t,k+1):=by
    unfold World.cell? at hc
    unfold World.shape?
    split at hc
    ·rename_i c0 e0 f0 h0
     rw [h0]
     simp only [Option.isSome_none,Bool.false_eq_true,if_false] at hc
     have:=(Array.getElem?_eq_some_iff.1 hc).1
     exact⟨e0,c0.size - 1,by simp only [Option.some.injEq,Prod.mk.injEq,true_and];omega⟩
    ·cases hc
   obtain⟨t,k,hs⟩:=hs
   have hs2:w.shape? b=some (e,arr.size):=by unfold World.shape?; rw [h1]
   have hf:∀ o,w.frozen? ⟨b,o,none⟩=false:=fun o=>by unfold World.frozen?; rw [h1];simp
   refine⟨.bool false,w,?_,.inl rfl,by simp only [V.rep]⟩
   rw [run_callFunc_extern Tryz.func120 (by kernel_rfl) (by kernel_rfl) (by kernel_rfl) (e:=Extern.SlicesOverlaps.overlaps #[28,28] #[4]) (by kernel_rfl)]
   have:=run_overlaps_box (P:=Tryz.prog) w 28 4 59 (by kernel_rfl) 2 (fun w=>by rfl) ⟨b',o',none⟩ ⟨b,o,none⟩ 1 ca n c hne t e k arr.size hs hs2 hf rfl
   simp only [List.length_cons,List.length_nil] at this ⊢
   rw [this]
   rfl
 | [],hr=>simp [V.reps] at hr
 | [_],hr=>simp [V.reps] at hr
 | _::_::_::_,hr=>simp [V.reps] at hr
theorem appZK_box {P:Program} {S:St} {d:Option Nat} {t tx:TypeId} {b o n c:Nat} {kk:IntKind} {j:Int} {K:St→Prop}
  (h:onSome (Todo (P.underlying t)) fun u=>sliceOf u fun e=>onSome (Todo (P.underlying tx)) fun ux=>And2 (Todo (∃ q,ux=.int q)) (onSome (Todo (tsz P e)) fun k=>onSome (Todo (tby P e)) fun by_=>onSome (Todo (tzr P e)) fun z=>onSome (Todo (getB S.boxes b)) fun cs =>
   And2 (Todo ((0 < by_∧0 < k∧z.length=k∧okC (z.map .lit)=true)∧0 < j∧o+n * k≤cs.length∧c < n+j.toNat∧(n+j.toNat) * by_≤140737488355328))
    (Fresh2 (blks S.boxes S.rows) (n+j.toNat) (fun b' c'=>K ((S.addBox b' ((cs.drop o).take (n * k)++anys ((c' - n) * k))).put d (.lit (.slice (some ⟨b',0,none⟩) (n+j.toNat) c')))) .mk))) :
  appZK P S d t tx (.lit (.slice (some ⟨b,o,none⟩) n c)) (.lit (.int kk j)) K:=by
 refine appZK_int _ _ _ _ _ _ _ _ _ _ _ _ ?_
 simp only [Todo_eq,And2,Fresh2] at h
 revert h
 unfold onSome
 cases P.underlying t with
 | none=>exact id
 | some u =>
  cases u <;> simp only [sliceOf] <;> try exact id
  cases P.underlying tx with
  | none=>exact id
  | some ux =>
   simp only []
   rintro⟨h1,h⟩
   refine⟨h1,?_⟩
   revert h
   split <;> try exact id
   split <;> try exact id
   split <;> try exact id
   split <;> try exact id
   rintro⟨⟨q1,q2,q3,q4,q5⟩,h⟩
   exact⟨q1,q2,q3,q4,q5,h⟩
theorem anys_add (a b:Nat):anys (a+b)=anys a++anys b:=by unfold anys;rw [List.replicate_append_replicate]
theorem grow1 (cs g:List V) (i n c':Nat) (hg:g.length=2) (hi:i < n) (hcs:n * 2≤cs.length) (hc:n+1≤c') :
  List.take (i * 2) (List.take (i * 2) cs++anys ((c' - i) * 2))++List.take (min 1 (n+1 - i) * 2) [g].flatten++List.drop (i * 2+min 1 (n+1 - i) * 2) (List.take (i * 2) cs++anys ((c' - i) * 2))
   = List.take (i * 2) cs++g++anys ((c' - (i+1)) * 2):=by
 have hA:(List.take (i * 2) cs).length=i * 2:=by rw [List.length_take];omega
 have hm:min 1 (n+1 - i)=1:=by omega
 have hs:(c' - i) * 2=2+(c' - (i+1)) * 2:=by omega
 rw [hm,List.take_left' hA,show [g].flatten=g by simp,List.take_of_length_le (l:=g) (by omega),hs,anys_add,show i * 2+1 * 2=i * 2+2 by omega,← List.drop_drop,List.drop_left' hA,List.drop_left' (anys_len 2)]
theorem grow2 (cs g:List V) (i n c':Nat) (hg:g.length=2) (hi:i < n) (hcs:n * 2≤cs.length) (hc:n+1≤c') :
  List.take ((i+1) * 2) (List.take (i * 2) cs++g++anys ((c' - (i+1)) * 2))++List.take (min (n - i) (n+1 - (i+1)) * 2) (List.take ((n - i) * 2) (List.drop (i * 2) cs))++List.drop ((i+1) * 2+min (n - i) (n+1 - (i+1)) * 2) (List.take (i * 2) cs++g++anys ((c' - (i+1)) * 2))
   = List.take (i * 2) cs++g++List.drop (i * 2) (List.take (n * 2) cs)++anys ((c' - (n+1)) * 2):=by
 have hA:(List.take (i * 2) cs++g).length=(i+1) * 2:=by rw [List.length_append,List.length_take];omega
 have hm:min (n - i) (n+1 - (i+1))=n - i:=by omega
 have hs:(c' - (i+1)) * 2=(n - i) * 2+(c' - (n+1)) * 2:=by omega
 rw [hm,List.take_left' hA,← List.drop_drop,List.drop_left' hA,hs,anys_add,List.drop_left' (anys_len _),List.drop_take,show n * 2 - i * 2=(n - i) * 2 by omega,List.take_take,Nat.min_self]
theorem place2 (cs g:List V) (i n c:Nat) (hg:g.length=2) (hi:i < n) (hcs:cs.length=c * 2) (hc:n+1≤c) :
  List.take (i * 2) (List.take ((i+1) * 2) cs++List.take (min (n+1 - i) (n+1 - (i+1)) * 2) (List.take ((n+1 - i) * 2) (List.drop (i * 2) cs))++List.drop ((i+1) * 2+min (n+1 - i) (n+1 - (i+1)) * 2) cs)++List.take (min 1 (n+1 - i) * 2) [g].flatten ++
    List.drop (i * 2+min 1 (n+1 - i) * 2) (List.take ((i+1) * 2) cs++List.take (min (n+1 - i) (n+1 - (i+1)) * 2) (List.take ((n+1 - i) * 2) (List.drop (i * 2) cs))++List.drop ((i+1) * 2+min (n+1 - i) (n+1 - (i+1)) * 2) cs)
   = List.take (i * 2) cs++g++List.drop (i * 2) (List.take (n * 2) cs)++List.drop ((n+1) * 2) cs:=by
 have hm:min (n+1 - i) (n+1 - (i+1))=n - i:=by omega
 have hm1:min 1 (n+1 - i)=1:=by omega
 have hA:(List.take ((i+1) * 2) cs).length=(i+1) * 2:=by rw [List.length_take];omega
 rw [hm,hm1,show [g].flatten=g by simp,List.take_of_length_le (l:=g) (by omega),List.append_assoc (List.take ((i+1) * 2) cs),List.take_append_of_le_length (by omega),List.take_take,show min (i * 2) ((i+1) * 2)=i * 2 by omega,show i * 2+1 * 2=(i+1) * 2 by omega,List.drop_left' hA,List.take_take,show min ((n - i) * 2) ((n+1 - i) * 2)=(n - i) * 2 by omega,show (i+1) * 2+(n - i) * 2=(n+1) * 2 by omega,List.drop_take,show n * 2 - i * 2=(n - i) * 2 by omega]
 simp only [List.append_assoc]
def tbAGk0:=(aI (aI (aI Ty.c120 (aI Ty.c121 Ty.t28)) (aI Ty.t3 (aI Ty.t4 Ty.t40))) (aI (aI Ty.t41 (aI Ty.t43 Ty.t50)) (aI (aI Ty.t51 Ty.t59) (aI Ty.t85 Ty.t9))))
theorem insMid_ok (cs:List V) (i n c ba:Nat) (g:List V) (own:Option Value) (hg:g.length=2) (hcs:cs.length=c * 2) (hi:i < n) (hn:n≤c) (hnb:n≤big):Ok Tryz.prog 88 [.lit (.slice (some ⟨ba,0,none⟩) n c),vint i,.list own 2 [g]] [(ba,.c cs)] fun v bs rs=>rs=[]∧∃ b c' rest,n+1≤c'∧v=.lit (.slice (some ⟨b,0,none⟩) (n+1) c')∧rest.length=(c' - (n+1)) * 2∧bs=[(b,.c (cs.take (i * 2)++g++(cs.take (n * 2)).drop (i * 2)++rest))]:=by
 unfold big at hnb
 have hne:¬ (i:Int)=(n:Int):=by omega
 have w1:IntKind.i64.wrap ((n:Int)+((1:Nat):Int))=((n+1:Nat):Int):=by rw [wrap_id (by omega) (by omega)];rfl
 have w2:IntKind.i64.wrap ((i:Int)+((1:Nat):Int))=((i+1:Nat):Int):=by rw [wrap_id (by omega) (by omega)];rfl
 have w3:IntKind.i64.wrap (((n+1:Nat):Int) - (i:Int))=((n+1 - i:Nat):Int):=by rw [wrap_id (by omega) (by omega)];omega
 refine Ok.of_ex Ty.mixed Tryz.func88 rfl (by simp [Tryz.ntmps88]) (by kernel_rfl) fun F w0 I0=>?_
 simp only [↓rA,rB,Nat.reduceEqDiff,reduceCtorEq,tbAGk0]
 refine⟨by omega,?_⟩
 simp only [↓rA,rB,Nat.reduceEqDiff,reduceCtorEq,tbAGk0,show ¬ ((1:Nat):Int)=0 by decide,hne,w1]
 refine⟨hn,?_⟩
 by_cases hgr:c < n+1
 ·have hgr':((c:Int) < ((n+1:Nat):Int)):=by omega
  have z1:¬ c=0:=by omega
  have z2:¬ c=i:=by omega
  have z3:i+(n+1 - i)=n+1:=by omega
  have z4:(0:Int) < ((n+1 - i:Nat):Int):=by omega
  have z5:i≤c:=by omega
  have z6:i * 2≤cs.length:=by omega
  have z7:c < n+1:=hgr
  have z8:(n+1) * 40≤140737488355328:=by omega
  simp only [↓rA,rB,Nat.reduceEqDiff,Nat.reduceMul,reduceCtorEq,tbAGk0,Tryz.results88,hgr',w1,w3,z1,z2,z5]
  refine appZK_box ?_
  simp only [rB,Nat.reduceAdd,Nat.reduceLT,tbAGk0,z3,z4,z6,z7,z8,TypeDesc.int.injEq,exists_eq']
  refine fun b' c' hb hc'=>?_
  replace hb:=newb hb
  try simp only [Nb] at hb
  have y1:¬ c'=0:=by omega
  have y2:¬ c'=i:=by omega
  have y3:¬ c'=i+1:=by omega
  have y4:i≤n+1:=by omega
  have y5:i≤n:=by omega
  have y6:i+1≤n+1:=by omega
  simp only [rB,Nat.reduceEqDiff,reduceCtorEq,hb,z2,z3,y2,y3,y4,y5,y6,hn,hc',w2]
  have hl0:(List.take (i * 2) cs++anys ((c' - i) * 2)).length=c' * 2:=by rw [List.length_append,List.length_take,anys_len];omega
  refine⟨by rw [hl0];omega,by omega,?_⟩
  rw [grow1 cs g i n c' hg hi (by omega) hc']
  refine⟨?_,?_⟩
  ·rw [List.length_append,List.length_append,List.length_take,anys_len,hg];omega
  ·refine⟨_,[_],[],Le.refl _,List.Sublist.cons_cons _ (List.nil_sublist _),List.nil_sublist _,rfl,b',c',_,hc',rfl,anys_len _,?_⟩
   rw [grow2 cs g i n c' hg hi (by omega) hc']
 ·have hgr':¬ ((c:Int) < ((n+1:Nat):Int)):=by omega
  have z1:¬ c=0:=by omega
  have z2:¬ c=i:=by omega
  have z3:n+1≤c:=by omega
  have z4:¬ c=i+1:=by omega
  have z5:i≤n:=by omega
  simp only [↓rA,rB,Nat.reduceAdd,Nat.reduceEqDiff,Nat.reduceLeDiff,Nat.reduceMul,reduceCtorEq,tbAGk0,hgr',w1,w2,z1,z2,z3,z4,z5]
  refine ExtF_of _ (overlaps_ext _ cs g ba _ _ _ own (by simp only [rB];try rfl) hg) ?_
  simp only [↓rA,rB,Nat.reduceEqDiff,Nat.reduceLeDiff,reduceCtorEq,tbAGk0,Tryz.results88,w2,z1,z2,z3,z4,z5]
  refine⟨by omega,by omega,by omega,by omega,?_⟩
  have hm:min (n+1 - i) (n+1 - (i+1))=n - i:=by omega
  refine⟨?_,?_⟩
  ·rw [hm]
   simp only [List.length_append,List.length_take,List.length_drop]
   omega
  ·refine⟨_,[_],[],Le.refl _,List.Sublist.refl _,List.nil_sublist _,rfl,ba,c,cs.drop ((n+1) * 2),z3,rfl,by rw [List.length_drop,hcs];omega,?_⟩
   rw [place2 cs g i n c hg hi hcs z3]
end Go.Proofs.YtopfanlkbepemaaGreat.Arr
namespace Go.Proofs.YtopfanlkbepemaaGreat.Arr
open Go.VL Go.Ar Go.Proofs.YtopfanlkbepemaaGreat Go.Proofs.YtopfanlkbepemaaGreat.Arr
theorem less_total {a b:Str} (h:less a b=false) (hn:¬ a=b):less b a=true:=by
 have h1:=cmpS_gt h hn
 have h2:=pre_cmpS.anti a b
 exact(less_cmp b a).2 (by omega)
theorem less_asymm {a b:Str} (h:less a b=true):less b a=false:=by
 cases e:less b a
 ·rfl
 ·exact absurd (less_trans h e) (by rw [less_irrefl];decide)
abbrev KSorted (l:List Str):Prop:=l.Pairwise fun a b=>less a b=true
theorem KSorted.nodup {l:List Str} (h:KSorted l):l.Nodup:=h.imp fun h=>less_ne h
theorem ksorted_eq:∀ {l m:List Str},KSorted l→KSorted m→(∀ k,k ∈ l↔k ∈ m)→l=m
 | [],[],_,_,_=>rfl
 | [],k::m,_,_,h=>by have:=(h k).2 List.mem_cons_self;cases this
 | k::l,[],_,_,h=>by have:=(h k).1 List.mem_cons_self;cases this
 | a::l,b::m,hl,hm,h=>by
  have hl':=List.pairwise_cons.1 hl
  have hm':=List.pairwise_cons.1 hm
  have e:a=b:=by
   rcases List.mem_cons.1 ((h a).1 List.mem_cons_self) with e | e
   ·exact e
   rcases List.mem_cons.1 ((h b).2 List.mem_cons_self) with e' | e'
   ·exact e'.symm
   have h1:=hm'.1 a e
   have h2:=hl'.1 b e'
   rw [less_asymm h1] at h2;cases h2
  subst e
  rw [ksorted_eq hl'.2 hm'.2 fun k=>?_]
  constructor
  ·intro hk
   rcases List.mem_cons.1 ((h k).1 (List.mem_cons_of_mem _ hk)) with e | e
   ·subst e;exact absurd rfl (less_ne (hl'.1 _ hk))
   ·exact e
  ·intro hk
   rcases List.mem_cons.1 ((h k).2 (List.mem_cons_of_mem _ hk)) with e | e
   ·subst e;exact absurd rfl (less_ne (hm'.1 _ hk))
   ·exact e
theorem insK_mem {s k:Str}:∀ {l:List Str},k ∈ insK l s↔k=s∨k ∈ l
 | []=>by simp [insK]
 | a::r=>by
  have ih:=insK_mem (s:=s) (k:=k) (l:=r)
  unfold insK
  split
  ·simp only [List.mem_cons,ih]
   constructor
   ·rintro(h | h | h)
    ·exact .inr (.inl h)
    ·exact .inl h
    ·exact .inr (.inr h)
   ·rintro(h | h | h)
    ·exact .inr (.inl h)
    ·exact .inl h
    ·exact .inr (.inr h)
  ·split
   ·rename_i e
    subst e
    simp only [List.mem_cons]
    constructor
    ·exact .inr
    ·rintro(h | h)
     ·exact .inl h
     ·exact h
   ·simp only [List.mem_cons]
theorem insK_sorted {s:Str}:∀ {l:List Str},KSorted l→KSorted (insK l s)
 | [],_=>by simp [insK]
 | a::r,h=>by
  have hc:=List.pairwise_cons.1 h
  unfold insK
  split
  ·rename_i h1
   refine List.pairwise_cons.2 ⟨fun z hz=>?_,insK_sorted hc.2⟩
   rcases insK_mem.1 hz with rfl | hz
   ·exact h1
   ·exact hc.1 z hz
  ·rename_i h1
   split
   ·exact h
   ·rename_i h2
    have h3:less s a=true:=less_total (by simpa using h1) h2
    refine List.pairwise_cons.2 ⟨fun z hz=>?_,h⟩
    rcases List.mem_cons.1 hz with rfl | hz
    ·exact h3
    ·exact less_trans h3 (hc.1 z hz)
theorem foldK (d:List Dlt):∀ l:List Str,KSorted l→KSorted (d.foldl (fun l x=>insK l x.row.key) l)∧∀ k,k ∈ d.foldl (fun l x=>insK l x.row.key) l↔k ∈ l∨∃ x ∈ d,x.row.key=k:=by
 induction d with
 | nil=>intro l h;exact⟨h,fun k=>by simp⟩
 | cons x d ih =>
  intro l h
  obtain⟨h1,h2⟩:=ih (insK l x.row.key) (insK_sorted h)
  refine⟨h1,fun k=>?_⟩
  rw [List.foldl_cons,h2,insK_mem]
  constructor
  ·rintro((rfl | h) | ⟨y,hy,e⟩)
   ·exact .inr ⟨x,List.mem_cons_self,rfl⟩
   ·exact .inl h
   ·exact .inr ⟨y,List.mem_cons_of_mem _ hy,e⟩
  ·rintro(h | ⟨y,hy,e⟩)
   ·exact .inl (.inr h)
   ·rcases List.mem_cons.1 hy with rfl | hy
    ·exact .inl (.inl e.symm)
    ·exact .inr ⟨y,hy,e⟩
theorem keysM_sorted (d:List Dlt):KSorted (keysM d):=(foldK d [] List.Pairwise.nil).1
theorem keysM_mem (d:List Dlt) (k:Str):k ∈ keysM d↔∃ x ∈ d,x.row.key=k:=by
 have:=(foldK d [] List.Pairwise.nil).2 k
 simpa [keysM] using this
def partD (d:List Dlt) (k:Str):List Dlt:=d.filter fun x=>decide (x.row.key=k)
def grpOf (d:List Dlt) (k:Str):Grp:=⟨k,consM (partD d k)⟩
def full (g:Grp):Bool:=decide (0 < g.ds.length)
def grpsM (d:List Dlt):List Grp:=((keysM d).map (grpOf d)).filter full
def ofM (s:Int) (d:List Dlt):Arr:=⟨s,grpsM d⟩
theorem allD_cons (g:Grp) (l:List Grp):allD (g::l)=g.ds++allD l:=by simp [allD]
theorem allD_full (l:List Grp):allD (l.filter full)=allD l:=by
 induction l with
 | nil=>rfl
 | cons g l ih =>
  rw [List.filter_cons,allD_cons]
  split
  ·rw [allD_cons,ih]
  ·rename_i h
   have:g.ds=[]:=List.eq_nil_of_length_eq_zero (by simp only [full,decide_eq_true_eq] at h;omega)
   rw [this,ih,List.nil_append]
def sumP (p:Int→Rw→Bool):List Dlt→Int
 | []=>0
 | x::l=>(if p x.tick x.row=true then x.n else 0)+sumP p l
theorem coef_sumP (t:Int) (r:Rw):∀ l,coef l t r=sumP (fun t' r'=>decide (t'=t∧r'=r)) l
 | []=>rfl
 | x::l=>by simp only [coef,sumP,coef_sumP t r l,decide_eq_true_eq]
theorem sumP_append (p:Int→Rw→Bool) (l m:List Dlt):sumP p (l++m)=sumP p l+sumP p m:=by
 induction l with
 | nil=>simp [sumP]
 | cons x l ih=>simp only [List.cons_append,sumP,ih];omega
theorem sumP_filter (p:Int→Rw→Bool) (q:Dlt→Bool):∀ l:List Dlt,sumP p (l.filter q)+sumP p (l.filter fun x=>!q x)=sumP p l
 | []=>rfl
 | x::l=>by
  have ih:=sumP_filter p q l
  simp only [List.filter_cons]
  cases hq:q x <;> simp [sumP] <;> omega
theorem sumP_same (p:Int→Rw→Bool) (t:Int) (r:Rw):∀ l:List Dlt,sumP p (l.filter fun x=>decide (x.tick=t∧x.row=r))=if p t r=true then coef l t r else 0
 | []=>by simp [sumP,coef]
 | x::l=>by
  have ih:=sumP_same p t r l
  rw [List.filter_cons]
  by_cases h:x.tick=t∧x.row=r
  ·simp only [h,and_self,decide_true,if_true,sumP,coef,ih]
   split <;> omega
  ·simp only [h,decide_false,Bool.false_eq_true,if_false,coef,ih]
   split <;> omega
theorem coef_other (t:Int) (r:Rw) (t':Int) (r':Rw):∀ l:List Dlt,coef (l.filter fun x=>!decide (x.tick=t∧x.row=r)) t' r'=if t'=t∧r'=r then 0 else coef l t' r'
 | []=>by simp [coef]
 | x::l=>by
  have ih:=coef_other t r t' r' l
  rw [List.filter_cons]
  by_cases h:x.tick=t∧x.row=r
  ·simp only [h,and_self,decide_true,Bool.not_true,Bool.false_eq_true,if_false,ih,coef]
   by_cases h':t'=t∧r'=r
   ·simp only [h',and_self,if_true]
   ·rw [if_neg h',if_neg h',if_neg (fun e=>h' ⟨e.1.symm,e.2.symm⟩)];omega
  ·simp only [h,decide_false,Bool.not_false,if_true,coef,ih]
   by_cases h':t'=t∧r'=r
   ·obtain⟨rfl,rfl⟩:=h'
    simp [h]
   ·rw [if_neg h',if_neg h']
theorem sumP_zero (p:Int→Rw→Bool):∀ (n:Nat) (d:List Dlt),d.length≤n→(∀ t r,coef d t r % W64=0)→sumP p d % W64=0
 | _,[],_,_=>rfl
 | 0,x::d,h,_=>by simp at h
 | n+1,x::d,hn,h=>by
  rw [← sumP_filter p (fun y=>decide (y.tick=x.tick∧y.row=x.row)) (x::d),sumP_same]
  have h1:=h x.tick x.row
  have h2:=sumP_zero p n ((x::d).filter fun y=>!decide (y.tick=x.tick∧y.row=x.row)) (by
   rw [List.filter_cons]
   simp only [and_self,decide_true,Bool.not_true,Bool.false_eq_true,if_false]
   have:=List.length_filter_le (fun y:Dlt=>!decide (y.tick=x.tick∧y.row=x.row)) d
   simp only [List.length_cons] at hn
   omega) (fun t r=>by
    rw [coef_other]
    split
    ·rfl
    ·exact h t r)
  simp only [W64] at h1 h2 ⊢
  split <;> omega
def neg (d:List Dlt):List Dlt:=d.map fun x=>{ x with n:=- x.n }
theorem sumP_neg (p:Int→Rw→Bool):∀ d,sumP p (neg d)=- sumP p d
 | []=>rfl
 | x::d=>by
  have ih:=sumP_neg p d
  unfold neg at ih ⊢
  simp only [List.map_cons,sumP,ih]
  split <;> omega
def Eqv (d e:List Dlt):Prop:=∀ t r,coef d t r % W64=coef e t r % W64
theorem Eqv.refl (d:List Dlt):Eqv d d:=fun _ _=>rfl
theorem Eqv.symm {d e:List Dlt} (h:Eqv d e):Eqv e d:=fun t r=>(h t r).symm
theorem Eqv.trans {d e f:List Dlt} (h:Eqv d e) (h':Eqv e f):Eqv d f:=fun t r=>(h t r).trans (h' t r)
theorem Eqv.sum {d e:List Dlt} (h:Eqv d e) (p:Int→Rw→Bool):sumP p d % W64=sumP p e % W64:=by
 have:=sumP_zero p _ (d++neg e) (Nat.le_refl _) (fun t r=>by
  have h1:=h t r
  rw [coef_append,coef_sumP t r (neg e),sumP_neg,← coef_sumP]
  simp only [W64] at h1 ⊢
  omega)
 rw [sumP_append,sumP_neg] at this
 simp only [W64] at this ⊢
 omega
theorem Eqv.of {d e:List Dlt} (q:Int→Rw→Int→Rw→Bool) (d' e':List Dlt) (hd:∀ t r,coef d' t r=sumP (q t r) d) (he:∀ t r,coef e' t r=sumP (q t r) e) (h:Eqv d e):Eqv d' e' :=
 fun t r=>by rw [hd,he];exact h.sum _
theorem Eqv.append {d e d' e':List Dlt} (h:Eqv d e) (h':Eqv d' e'):Eqv (d++d') (e++e'):=fun t r=>by
 have h1:=h t r
 have h2:=h' t r
 rw [coef_append,coef_append]
 simp only [W64] at h1 h2 ⊢
 omega
theorem Eqv.perm {d e:List Dlt} (h:d.Perm e):Eqv d e:=fun t r=>by rw [coef_perm h]
def advD (s:Int) (d:List Dlt):List Dlt:=d.map fun x=>{ x with tick:=max x.tick s }
theorem coef_adv (s:Int) (t:Int) (r:Rw):∀ d,coef (advD s d) t r=sumP (fun t' r'=>decide (max t' s=t∧r'=r)) d
 | []=>rfl
 | x::d=>by
  have ih:=coef_adv s t r d
  unfold advD at ih ⊢
  simp only [List.map_cons,coef,sumP,ih,decide_eq_true_eq]
theorem Eqv.adv {d e:List Dlt} (h:Eqv d e) (s:Int):Eqv (advD s d) (advD s e):=Eqv.of _ _ _ (fun t r=>coef_adv s t r d) (fun t r=>coef_adv s t r e) h
theorem coef_filter (q:Rw→Bool) (t:Int) (r:Rw):∀ d:List Dlt,coef (d.filter fun x=>q x.row) t r=sumP (fun t' r'=>q r' && decide (t'=t∧r'=r)) d
 | []=>rfl
 | x::d=>by
  have ih:=coef_filter q t r d
  rw [List.filter_cons]
  cases hq:q x.row
  ·simp only [Bool.false_eq_true,if_false,sumP,hq,Bool.false_and,ih];omega
  ·simp only [if_true,coef,sumP,hq,Bool.true_and,ih,decide_eq_true_eq]
theorem Eqv.filter {d e:List Dlt} (h:Eqv d e) (q:Rw→Bool):Eqv (d.filter fun x=>q x.row) (e.filter fun x=>q x.row):=Eqv.of _ _ _ (fun t r=>coef_filter q t r d) (fun t r=>coef_filter q t r e) h
theorem Eqv.part {d e:List Dlt} (h:Eqv d e) (k:Str):Eqv (partD d k) (partD e k):=h.filter fun r=>decide (r.key=k)
theorem coef_early (u:Int) (t:Int) (r:Rw):∀ d,coef (earlyM d u) t r=sumP (fun t' r'=>decide (t'≤u) && decide (0=t∧r'=r)) d
 | []=>rfl
 | x::d=>by
  have ih:=coef_early u t r d
  unfold earlyM at ih ⊢
  rw [List.filter_cons]
  by_cases hx:x.tick≤u
  ·simp only [hx,decide_true,if_true,List.map_cons,coef,sumP,ih,Bool.true_and,decide_eq_true_eq]
  ·simp only [hx,decide_false,Bool.false_eq_true,if_false,sumP,ih,Bool.false_and];omega
theorem Eqv.early {d e:List Dlt} (h:Eqv d e) (u:Int):Eqv (earlyM d u) (earlyM e u):=Eqv.of _ _ _ (fun t r=>coef_early u t r d) (fun t r=>coef_early u t r e) h
theorem eqv_cons {d:List Dlt} (hd:okN d):Eqv (consM d) d:=fun t r=>consM_coef hd t r
theorem consM_keys {d:List Dlt}:∀ y ∈ consM d,∃ x ∈ d,y.tick=x.tick∧y.row=x.row:=by
 have:∀ (d:List Dlt) (l:List Dlt),∀ y ∈ d.foldl putM l,(∃ x ∈ d,y.tick=x.tick∧y.row=x.row)∨∃ x ∈ l,y.tick=x.tick∧y.row=x.row:=by
  intro d
  induction d with
  | nil=>intro l y hy;exact .inr ⟨y,hy,rfl,rfl⟩
  | cons x d ih =>
   intro l y hy
   rcases ih _ y hy with⟨z,hz,e⟩ | ⟨z,hz,e⟩
   ·exact .inl ⟨z,List.mem_cons_of_mem _ hz,e⟩
   ·rcases putM_keys hz with e' | ⟨w,hw,e'⟩
    ·exact .inl ⟨x,List.mem_cons_self,e.1.trans e'.1,e.2.trans e'.2⟩
    ·exact .inr ⟨w,hw,e.1.trans e'.1,e.2.trans e'.2⟩
 intro y hy
 rcases this d [] y hy with h | ⟨x,hx,_⟩
 ·exact h
 ·cases hx
theorem okN_part {d:List Dlt} (hd:okN d) (k:Str):okN (partD d k):=fun x hx=>hd x (List.mem_filter.1 hx).1
theorem okN_early {d:List Dlt} (hd:okN d) (t:Int):okN (earlyM d t):=fun x hx=>by
 obtain⟨y,hy,rfl⟩:=List.mem_map.1 hx
 exact hd y (List.mem_filter.1 hy).1
structure GrpOk (g:Grp):Prop where
 ne:g.ds ≠ []
 canon:Canon g.ds
 key:∀ x ∈ g.ds,x.row.key=g.key
structure GsOk (l:List Grp):Prop where
 sorted:l.Pairwise fun g h=>less g.key h.key=true
 grp:∀ g ∈ l,GrpOk g
theorem GsOk.tail {g:Grp} {l:List Grp} (h:GsOk (g::l)):GsOk l:=⟨(List.pairwise_cons.1 h.sorted).2,fun x hx=>h.grp x (List.mem_cons_of_mem _ hx)⟩
theorem GsOk.okN {l:List Grp} (h:GsOk l):okN (allD l):=fun x hx=>by
 obtain⟨g,hg,hx⟩:=List.mem_flatMap.1 hx
 exact((h.grp g hg).canon.2 x hx).2
theorem grpsM_ok {d:List Dlt} (hd:okN d):GsOk (grpsM d) where
 sorted:=(List.pairwise_map.2 (keysM_sorted d)).filter _
 grp g hg:=by
  obtain⟨h1,h2⟩:=List.mem_filter.1 hg
  obtain⟨k,hk,rfl⟩:=List.mem_map.1 h1
  refine⟨fun e=>?_,consM_canon (okN_part hd k),fun x hx=>?_⟩
  ·simp only [full,decide_eq_true_eq] at h2
   rw [e] at h2;simp at h2
  ·obtain⟨y,hy,e1,e2⟩:=consM_keys x hx
   have:=(List.mem_filter.1 hy).2
   rw [e2];exact of_decide_eq_true this
theorem grpsM_mem {d:List Dlt}:∀ y ∈ allD (grpsM d),∃ x ∈ d,y.tick=x.tick∧y.row=x.row:=by
 intro y hy
 unfold grpsM at hy
 rw [allD_full] at hy
 obtain⟨g,hg,hy⟩:=List.mem_flatMap.1 hy
 obtain⟨k,hk,rfl⟩:=List.mem_map.1 hg
 obtain⟨x,hx,e⟩:=consM_keys y hy
 exact⟨x,(List.mem_filter.1 hx).1,e⟩
theorem GrpOk.first {g:Grp} (h:GrpOk g):∃ t r,r.key=g.key∧coef g.ds t r % W64 ≠ 0:=by
 match hd:g.ds,h.ne with
 | x::l,_ =>
  have hc:=h.canon
  rw [hd] at hc
  refine⟨x.tick,x.row,h.key x (by rw [hd];exact List.mem_cons_self),?_⟩
  rw [hc.head]
  exact nz_mod (hc.2 x List.mem_cons_self).1 (hc.2 x List.mem_cons_self).2
theorem coef_part (k:Str) (t:Int) (r:Rw) (d:List Dlt):coef (partD d k) t r=if r.key=k then coef d t r else 0:=by
 induction d with
 | nil=>simp [partD,coef]
 | cons x d ih =>
  unfold partD at ih ⊢
  rw [List.filter_cons]
  by_cases hx:x.row.key=k
  ·simp only [hx,decide_true,if_true,coef,ih]
   by_cases hr:r.key=k
   ·rw [if_pos hr,if_pos hr]
   ·have:¬ (x.tick=t∧x.row=r):=fun e=>hr (e.2▸hx)
    rw [if_neg hr,if_neg hr,if_neg this];rfl
  ·simp only [hx,decide_false,Bool.false_eq_true,if_false,ih,coef]
   by_cases hr:r.key=k
   ·have:¬ (x.tick=t∧x.row=r):=fun e=>hx (by rw [e.2];exact hr)
    rw [if_pos hr,if_pos hr,if_neg this];omega
   ·rw [if_neg hr,if_neg hr]
theorem coef_parts {d:List Dlt} (hd:okN d) (t:Int) (r:Rw):∀ K:List Str,K.Nodup→(r.key ∈ K→coef (allD (K.map (grpOf d))) t r % W64=coef d t r % W64)∧(¬ r.key ∈ K→coef (allD (K.map (grpOf d))) t r % W64=0)
 | [],_=>⟨fun h=>(by cases h),fun _=>rfl⟩
 | k::K,h=>by
  have ih:=coef_parts hd t r K (List.nodup_cons.1 h).2
  have hk:=(List.nodup_cons.1 h).1
  rw [List.map_cons,allD_cons,coef_append]
  have h1:coef (grpOf d k).ds t r % W64=(if r.key=k then coef d t r else 0) % W64:=by
   rw [← coef_part k t r d];exact consM_coef (okN_part hd k) t r
  by_cases e:r.key=k
  ·have hn:¬ r.key ∈ K:=e▸hk
   have i2:=ih.2 hn
   rw [if_pos e] at h1
   refine⟨fun _=>?_,fun h=>absurd (by rw [e];exact List.mem_cons_self) h⟩
   simp only [W64] at h1 i2 ⊢
   omega
  ·rw [if_neg e] at h1
   constructor
   ·intro hm
    have i1:=ih.1 ((List.mem_cons.1 hm).resolve_left e)
    simp only [W64] at h1 i1 ⊢
    omega
   ·intro hm
    have i2:=ih.2 fun h=>hm (List.mem_cons_of_mem _ h)
    simp only [W64] at h1 i2 ⊢
    omega
theorem grpsM_coef {d:List Dlt} (hd:okN d):Eqv (allD (grpsM d)) d:=fun t r=>by
 unfold grpsM
 rw [allD_full]
 have hc:=coef_parts hd t r _ (keysM_sorted d).nodup
 by_cases h:r.key ∈ keysM d
 ·exact hc.1 h
 ·rw [hc.2 h,coef_none fun y hy e=>h ((keysM_mem d r.key).2 ⟨y,hy,by rw [e.2]⟩)];rfl
end Go.Proofs.YtopfanlkbepemaaGreat.Arr
namespace Go.Proofs.YtopfanlkbepemaaGreat.Arr
open Go.VL Go.Ar Go.Proofs.YtopfanlkbepemaaGreat Go.Proofs.YtopfanlkbepemaaGreat.Arr
def rowsAt (d:List Dlt) (t:Int):List Rw:=rowsM (consM (earlyM d t))
theorem rowsAt_congr {d e:List Dlt} (hd:okN d) (he:okN e) (h:Eqv d e) (t:Int):rowsAt d t=rowsAt e t:=by
 unfold rowsAt
 rw [consM_congr (okN_early hd t) (okN_early he t) (h.early t)]
theorem adv_append (s:Int) (d e:List Dlt):advD s (d++e)=advD s d++advD s e:=List.map_append
theorem part_none {l:List Grp} (h:GsOk l) {k:Str} (hk:∀ g ∈ l,g.key ≠ k):partD (allD l) k=[]:=by
 refine List.filter_eq_nil_iff.2 fun x hx=>?_
 obtain⟨g,hg,hx⟩:=List.mem_flatMap.1 hx
 have:=(h.grp g hg).key x hx
 simpa [this] using hk g hg
theorem part_all {g:Grp} (h:GrpOk g):partD g.ds g.key=g.ds:=List.filter_eq_self.2 fun x hx=>by simpa using h.key x hx
theorem part_other {g:Grp} (h:GrpOk g) {k:Str} (hk:¬ g.key=k):partD g.ds k=[]:=List.filter_eq_nil_iff.2 fun x hx=>by
 rw [h.key x hx];simpa using hk
theorem part_append (d e:List Dlt) (k:Str):partD (d++e) k=partD d k++partD e k:=List.filter_append ..
theorem part_head {g:Grp} {l:List Grp} (h:GsOk (g::l)) (k:Str):partD (allD (g::l)) k=if g.key=k then g.ds else partD (allD l) k:=by
 rw [allD_cons,part_append]
 split
 ·rename_i e
  subst e
  rw [part_all (h.grp g List.mem_cons_self),part_none h.tail fun x hx e'=>less_ne ((List.pairwise_cons.1 h.sorted).1 x hx) e'.symm,List.append_nil]
 ·rename_i e
  rw [part_other (h.grp g List.mem_cons_self) e,List.nil_append]
theorem part_of {l:List Grp} (h:GsOk l) {g:Grp} (hg:g ∈ l):partD (allD l) g.key=g.ds:=by
 induction l with
 | nil=>cases hg
 | cons g' l ih =>
  rw [part_head h]
  rcases List.mem_cons.1 hg with rfl | hg
  ·rw [if_pos rfl]
  ·rw [if_neg (less_ne ((List.pairwise_cons.1 h.sorted).1 g hg)),ih h.tail hg]
theorem keysP_sorted {l:List Grp} (h:GsOk l) (t:Int):KSorted (keysP l t):=List.pairwise_map.2 (h.sorted.filter _)
theorem keysP_mem {l:List Grp} (h:GsOk l) (t:Int) (k:Str):k ∈ keysP l t↔rowsAt (partD (allD l) k) t ≠ []:=by
 unfold keysP
 rw [List.mem_map]
 constructor
 ·rintro⟨g,hg,rfl⟩
  obtain⟨hg,hh⟩:=List.mem_filter.1 hg
  rw [part_of h hg]
  intro e
  simp only [hasAt,decide_eq_true_eq] at hh
  rw [show rowsM (consM (earlyM g.ds t))=[] from e] at hh
  simp at hh
 ·intro hn
  by_cases hk:∃ g ∈ l,g.key=k
  ·obtain⟨g,hg,rfl⟩:=hk
   refine⟨g,List.mem_filter.2 ⟨hg,?_⟩,rfl⟩
   rw [part_of h hg] at hn
   simp only [hasAt,decide_eq_true_eq]
   exact List.length_pos_iff.2 hn
  ·exact absurd (by rw [part_none h fun g hg e=>hk ⟨g,hg,e⟩];rfl) hn
def rowsK (a:Arr) (k:Str) (lo hi t:Int):List Rw:=(rowsAt (partD (allD a.groups) k) t).filter fun r=>decide (lo≤r.event) && decide (r.event≤hi)
abbrev ltR (a b:Rw):Bool:=decide (cmpFull a b < 0)
theorem ltR_asymm {a b:Rw} (h:ltR a b=true):¬ ltR b a=true:=by
 simp only [ltR,decide_eq_true_eq] at h ⊢
 have:=pre_cmpFull.anti a b
 omega
theorem canon_coef {l:List Dlt} (h:Canon l) {x:Dlt} (hx:x ∈ l):coef l x.tick x.row=x.n:=by
 induction l with
 | nil=>cases hx
 | cons y l ih =>
  rcases List.mem_cons.1 hx with rfl | hx
  ·exact h.head
  ·simp only [coef]
   rw [if_neg (ltD_key ((List.pairwise_cons.1 h.1).1 x hx)),ih h.tail hx];omega
theorem canon_has {l:List Dlt} {t:Int} {r:Rw} (h:coef l t r ≠ 0):∃ x ∈ l,x.tick=t∧x.row=r:=by
 refine Classical.byContradiction fun hn=>h (coef_none fun y hy e=>hn ⟨y,hy,e⟩)
theorem early_tick {d:List Dlt} {t:Int}:∀ x ∈ earlyM d t,x.tick=0:=fun x hx=>by
 obtain⟨y,_,rfl⟩:=List.mem_map.1 hx
 rfl
theorem rowsAt_sorted {d:List Dlt} (hd:okN d) (t:Int):(rowsAt d t).Pairwise fun a b=>ltR a b=true:=by
 unfold rowsAt rowsM
 have hc:=consM_canon (okN_early hd t)
 have ht:∀ x ∈ consM (earlyM d t),x.tick=0:=fun x hx=>by
  obtain⟨y,hy,e,_⟩:=consM_keys x hx
  rw [e];exact early_tick y hy
 refine List.pairwise_map.2 (List.Pairwise.filter _ ?_)
 refine List.Pairwise.imp_of_mem (fun {a b} ha hb h=>?_) hc.1
 simp only [ltD,ht a ha,ht b hb,Int.lt_irrefl,decide_false,decide_true,Bool.true_and,Bool.false_or] at h
 exact h
theorem rowsAt_mem {d:List Dlt} (hd:okN d) (t:Int) (r:Rw):r ∈ rowsAt d t↔0 < wrap (coef (earlyM d t) 0 r):=by
 have hc:=consM_canon (okN_early hd t)
 have he:=eqv_cons (okN_early hd t) 0 r
 have ht:∀ x ∈ consM (earlyM d t),x.tick=0:=fun x hx=>by
  obtain⟨y,hy,e,_⟩:=consM_keys x hx
  rw [e];exact early_tick y hy
 have hw:∀ x ∈ consM (earlyM d t),x.row=r→x.n=wrap (coef (earlyM d t) 0 r):=fun x hx e=>by
  have h1:=canon_coef hc hx
  rw [ht x hx,e] at h1
  refine inR_eq (hc.2 x hx).2 (wrap_in _) ?_
  rw [wrap_mod,← he,h1]
 unfold rowsAt rowsM
 rw [List.mem_map]
 constructor
 ·rintro⟨x,hx,e⟩
  obtain⟨hx,hp⟩:=List.mem_filter.1 hx
  rw [← hw x hx e]
  simpa using hp
 ·intro hp
  have hn:coef (consM (earlyM d t)) 0 r ≠ 0:=fun h0=>by
   have hm:=wrap_mod (coef (earlyM d t) 0 r)
   rw [← he,h0] at hm
   have hi:=wrap_in (coef (earlyM d t) 0 r)
   unfold inR at hi
   simp only [W64] at hm
   omega
  obtain⟨x,hx,e1,e2⟩:=canon_has hn
  exact⟨x,List.mem_filter.2 ⟨hx,by rw [hw x hx e2];simpa using hp⟩,e2⟩
abbrev maxT:Int:=1099511627776
def okG (s:Int) (p:Option Str) (g:Grp):Bool:=decide (g.ds ≠ []) && (match p with | none=>true | some k=>less k g.key) && g.ds.all (fun x=>decide (x.row.key=g.key) && decide (s≤x.tick)) && decide (g.ds=consM g.ds)
def okGsB (s:Int):Option Str→List Grp→Bool
 | _,[]=>true
 | p,g::l=>okG s p g && okGsB s (some g.key) l
def ValidA (a:Arr):Prop:=0≤a.since∧a.since≤maxT∧okGsB a.since none a.groups=true
instance (a:Arr):Decidable (ValidA a):=by unfold ValidA;infer_instance
structure ArrOk (a:Arr):Prop where
 lo:0≤a.since
 hi:a.since≤maxT
 gs:GsOk a.groups
 late:∀ x ∈ allD a.groups,a.since≤x.tick
theorem okGsB_of {s:Int}:∀ {l:List Grp} {p:Option Str},okN (allD l)→okGsB s p l=true→GsOk l∧(∀ x ∈ allD l,s≤x.tick)∧∀ k,p=some k→∀ g ∈ l,less k g.key=true
 | [],p,_,_=>⟨⟨List.Pairwise.nil,by simp⟩,by simp [allD],by simp⟩
 | g::l,p,hN,h=>by
  simp only [okGsB,okG,Bool.and_eq_true,decide_eq_true_eq,List.all_eq_true] at h
  obtain⟨⟨⟨⟨h1,h2⟩,h3⟩,h4⟩,h5⟩:=h
  rw [allD_cons] at hN
  obtain⟨i1,i2,i3⟩:=okGsB_of (fun x hx=>hN x (List.mem_append_right _ hx)) h5
  refine⟨⟨List.pairwise_cons.2 ⟨i3 _ rfl,i1.sorted⟩,fun x hx=>?_⟩,fun x hx=>?_,fun k hk x hx=>?_⟩
  ·rcases List.mem_cons.1 hx with rfl | hx
   ·exact⟨h1,h4▸consM_canon (fun y hy=>hN y (List.mem_append_left _ hy)),fun y hy=>(h3 y hy).1⟩
   ·exact i1.grp x hx
  ·rw [allD_cons] at hx
   rcases List.mem_append.1 hx with hx | hx
   ·exact(h3 x hx).2
   ·exact i2 x hx
  ·subst hk
   rcases List.mem_cons.1 hx with rfl | hx
   ·exact h2
   ·exact less_trans h2 (i3 _ rfl x hx)
theorem okGsB_to {s:Int}:∀ {l:List Grp} {p:Option Str},GsOk l→(∀ x ∈ allD l,s≤x.tick)→(∀ k,p=some k→∀ g ∈ l,less k g.key=true)→okGsB s p l=true
 | [],p,_,_,_=>rfl
 | g::l,p,h,hs,hp=>by
  have hg:=h.grp g List.mem_cons_self
  rw [allD_cons] at hs
  simp only [okGsB,okG,Bool.and_eq_true,decide_eq_true_eq,List.all_eq_true]
  refine⟨⟨⟨⟨hg.ne,?_⟩,fun x hx=>⟨hg.key x hx,hs x (List.mem_append_left _ hx)⟩⟩,(consM_self hg.canon).symm⟩,okGsB_to h.tail (fun x hx=>hs x (List.mem_append_right _ hx)) fun k hk x hx=>?_⟩
  ·cases p with
   | none=>rfl
   | some k=>exact hp k rfl g List.mem_cons_self
  ·cases hk
   exact(List.pairwise_cons.1 h.sorted).1 x hx
theorem valid_iff {a:Arr} (hN:okN (allD a.groups)):ValidA a↔ArrOk a :=
 ⟨fun⟨h1,h2,h3⟩=>have ⟨i1,i2,_⟩:=okGsB_of hN h3;⟨h1,h2,i1,i2⟩,fun h=>⟨h.lo,h.hi,okGsB_to h.gs h.late (by simp)⟩⟩
theorem ofM_valid {s:Int} {d:List Dlt} (h0:0≤s) (h1:s≤maxT) (hd:okN d) (hs:∀ x ∈ d,s≤x.tick):ArrOk (ofM s d) where
 lo:=h0
 hi:=h1
 gs:=grpsM_ok hd
 late:=fun x hx=>by
  obtain⟨y,hy,e,_⟩:=grpsM_mem x hx
  rw [e];exact hs y hy
end Go.Proofs.YtopfanlkbepemaaGreat.Arr
namespace Go.Proofs.YtopfanlkbepemaaGreat.Arr
open Go.VL Go.Ar Go.Proofs.YtopfanlkbepemaaGreat Go.Proofs.YtopfanlkbepemaaGreat.Arr
theorem Le.tup {l l':List V} (h:LeL l l'):Le (.tup l) (.tup l'):=by
 intro w I x hx
 simp only [V.rep] at hx ⊢
 obtain⟨xs,h1,h2⟩:=hx
 exact⟨xs,h1,h.reps h2⟩
theorem Le.agg {l l':List V} (h:LeL l l'):Le (.agg l) (.agg l'):=by
 intro w I x hx
 simp only [V.rep] at hx ⊢
 obtain⟨xs,h1,h2⟩:=hx
 exact⟨xs,h1,h.reps h2⟩
theorem Le.arr (s:Int) (y:Option Value) (gs:List Grp):Le (.agg [vint s,.list y 2 (gs.map cGrp)]) (vArr ⟨s,gs⟩):=Le.agg (.cons (Le.refl _) (.cons (Le.list _ _ _) .nil))
theorem Le.arr0 (s:Int):Le (.agg [vint s,nilS]) (vArr ⟨s,[]⟩):=Le.agg (.cons (Le.refl _) (.cons (Le.nil 2) .nil))
theorem Le.two {a b a' b':V} (h:Le a a') (h':Le b b'):Le (.tup [a,b]) (.tup [a',b']):=Le.tup (.cons h (.cons h' .nil))
def arr0:Arr:=⟨0,[]⟩
def lateB (a:Arr) (d:List Dlt):Bool:=d.any fun x=>decide (x.tick < a.since)
def insA (a:Arr) (d:List Dlt):Arr × Int:=if lateB a d=true then (arr0,220) else (ofM a.since (allD a.groups++d),0)
def advA (a:Arr) (s:Int):Arr × Int:=if maxT < s then (arr0,1) else if s < a.since then (arr0,220) else (ofM s (advD s (allD a.groups)),0)
abbrev vRes (p:Arr × Int):V:=.tup [vArr p.1,vint p.2]
def inI (lo hi:Int) (r:Rw):Bool:=decide (lo≤r.event) && decide (r.event≤hi)
def rowsA (a:Arr) (k:Str) (lo hi t:Int):List Rw × Int:=if t < a.since then ([],220) else (rowsK a k lo hi t,0)
def keysA (a:Arr) (t:Int):List Str × Int:=if t < a.since then ([],220) else (keysP a.groups t,0)
abbrev vRows2 (p:List Rw × Int):V:=.tup [vRows p.1,vint p.2]
abbrev vKeys2 (p:List Str × Int):V:=.tup [vstrs p.1,vint p.2]
def checkM (a:Arr):Int:=if ValidA a then 0 else 1
def fitA (a:Arr):Prop:=a.groups.length≤big∧fitDs (allD a.groups)
theorem fitDs.okN {d:List Dlt} (h:fitDs d):okN d:=fun x hx=>(h.2 x hx).1
theorem fitR.okF {r:Rw} (h:fitR r):okF r:=Nat.le_trans h.1 (by decide)
theorem fitDs.okF {d:List Dlt} (h:fitDs d):∀ x ∈ d,okF x.row:=fun x hx=>(h.2 x hx).2.okF
theorem fitDs.part {d:List Dlt} (h:fitDs d) (k:Str):fitDs (partD d k):=⟨Nat.le_trans (List.length_filter_le _ _) h.1,fun x hx=>h.2 x (List.mem_filter.1 hx).1⟩
theorem fitDs.adv {d:List Dlt} (h:fitDs d) (s:Int):fitDs (advD s d):=⟨by unfold advD;rw [List.length_map];exact h.1,fun x hx=>by
 obtain⟨y,hy,rfl⟩:=List.mem_map.1 hx
 exact h.2 y hy⟩
theorem fitDs.cons {d:List Dlt} (h:fitDs d):fitDs (consM d):=⟨Nat.le_trans (consM_len d) h.1,fun x hx=>by
 obtain⟨y,hy,_,e⟩:=consM_keys x hx
 exact⟨((consM_canon h.okN).2 x hx).2,e▸(h.2 y hy).2⟩⟩
theorem allD_map_len (d:List Dlt):∀ K:List Str,K.Nodup→(allD (K.map (grpOf d))).length≤(d.filter fun x=>K.any fun k=>decide (x.row.key=k)).length
 | [],_=>by simp [allD]
 | k::K,h=>by
  have ih:=allD_map_len d K (List.nodup_cons.1 h).2
  have hk:=(List.nodup_cons.1 h).1
  rw [List.map_cons,allD_cons,List.length_append]
  have h1:(grpOf d k).ds.length≤(partD d k).length:=consM_len _
  have h2:(d.filter fun x=>(k::K).any fun k=>decide (x.row.key=k)).length=(partD d k).length+(d.filter fun x=>K.any fun k=>decide (x.row.key=k)).length:=by
   clear ih h1
   unfold partD
   induction d with
   | nil=>rfl
   | cons x d ih =>
    simp only [List.filter_cons,List.any_cons]
    by_cases e:x.row.key=k
    ·have hn:(K.any fun k=>decide (x.row.key=k))=false:=by
      rw [List.any_eq_false]
      intro a ha hd
      exact hk (by rw [← e,of_decide_eq_true hd];exact ha)
     simp only [decide_eq_true e,hn,Bool.true_or,if_true,List.length_cons,Bool.false_eq_true,if_false]
     simp only [List.any_cons] at ih
     omega
    ·simp only [decide_eq_false e,Bool.false_or,Bool.false_eq_true,if_false]
     simp only [List.any_cons] at ih
     split
     ·simp only [List.length_cons];omega
     ·exact ih
  omega
theorem grpsM_len (d:List Dlt):(allD (grpsM d)).length≤d.length:=by
 unfold grpsM
 rw [allD_full]
 exact Nat.le_trans (allD_map_len d _ (keysM_sorted d).nodup) (List.length_filter_le _ _)
theorem fit_of {s:Int} {d:List Dlt} (h:fitDs d):fitA (ofM s d):=by
 refine⟨?_,Nat.le_trans (grpsM_len d) h.1,fun x hx=>?_⟩
 ·refine Nat.le_trans ?_ (Nat.le_trans (keysM_len d) h.1)
  show (grpsM d).length≤_
  unfold grpsM
  exact Nat.le_trans (List.length_filter_le _ _) (by rw [List.length_map];exact Nat.le_refl _)
 ·obtain⟨g,hg,hx⟩:=List.mem_flatMap.1 hx
  obtain⟨k,hk,rfl⟩:=List.mem_map.1 (List.mem_filter.1 hg).1
  exact(h.part k).cons.2 x hx
theorem fitA.ds {a:Arr} (h:fitA a):∀ g ∈ a.groups,fitDs g.ds:=fun g hg=>by
 have hs:g.ds.Sublist (allD a.groups):=by
  obtain⟨s,l⟩:=a
  simp only at hg ⊢
  clear h
  induction l with
  | nil=>cases hg
  | cons x l ih =>
   rw [allD_cons]
   rcases List.mem_cons.1 hg with rfl | hg
   ·exact List.sublist_append_left _ _
   ·exact(ih hg).trans (List.sublist_append_right _ _)
 exact⟨Nat.le_trans hs.length_le h.2.1,fun x hx=>h.2.2 x (hs.subset hx)⟩
theorem fitA.fitG {a:Arr} (h:fitA a):fitG a.groups:=⟨h.1,h.ds⟩
theorem OkR_row {P:Program} {g:FuncId} {zs:List V} {Q:V→List VL.Row→Prop} {p:Fix Q} {k:Nat} {e:TypeId} {es:List (List V)} (h:OkRow P g zs k e es) (hk:∀ y,Q (.list (some y) k es) [⟨y,k,e⟩]):OkR P g zs Q p :=
 Ok.mono h fun v bs rs ⟨h1,y,h2,h3⟩=>by subst h1;subst h2;subst h3;exact⟨rfl,hk y⟩
end Go.Proofs.YtopfanlkbepemaaGreat.Arr
set_option linter.unusedSimpArgs false
set_option maxRecDepth 100000
set_option linter.defProp false
namespace Go.Proofs.YtopfanlkbepemaaGreat.Arr
open Go.VL Go.Ar Go.Proofs.YtopfanlkbepemaaGreat Go.Proofs.YtopfanlkbepemaaGreat.Arr
def AtQ (l:List GI) (key:Str) (bi:Nat) (v:V) (bs:List (Nat × B)):Prop :=
 ∃ (b c:Nat) (L1 L2:List GI) (D:V) (rest:List V),v=.lit (.pointer (some ⟨b,L1.length * 2,none⟩)) ∧
  bs=[(bi,.c [.lit (.slice (some ⟨b,0,none⟩) (L1.length+1+L2.length) c),keyFn]),(b,.c ((L1.map cGI).flatten++vstr key::D::((L2.map cGI).flatten++rest)))] ∧
  L1.length+1+L2.length≤c∧rest.length=(c - (L1.length+1+L2.length)) * 2∧b ≠ bi ∧
  ((∃ y ds,D=.list (some y) 10 (ds.map cDlt)∧l=L1++(key,y,ds)::L2)∨(D=nilS∧l=L1++L2∧(∀ p ∈ L1,less p.1 key=true)∧∀ p ∈ L2,less key p.1=true))
theorem Ok.permB {P:Program} {f:FuncId} {args:List V} {bs0:List (Nat × B)} {Q Q':V→List (Nat × B)→List VL.Row→Prop} (h:Ok P f args bs0 Q) (hq:∀ v bs rs,Q v bs rs→∃ bs',bs.Perm bs'∧Q' v bs' rs):Ok P f args bs0 Q':=by
 intro w I xs hr hH
 refine(h w I xs hr hH).mono fun e w' ⟨x,v,bs,rs,I',he,hv,hk,hh,hn,hQ⟩=>?_
 obtain⟨bs',hp,hQ'⟩:=hq _ _ _ hQ
 exact⟨x,v,bs',rs,I',he,hv,hk,hh.perm hp,fun b hb=>hn b (((List.Perm.append_right _ (hp.map _)).mem_iff).2 hb),hQ'⟩
def tbAGl0:=(aI (aI (aI (aI Ty.c29 Ty.c56) (aI Ty.c88 Ty.t102)) (aI (aI Ty.t104 Ty.t106) (aI Ty.t108 (aI Ty.t148 Ty.t28)))) (aI (aI (aI Ty.t3 Ty.t4) (aI Ty.t40 (aI Ty.t41 Ty.t43))) (aI (aI Ty.t50 Ty.t51) (aI Ty.t59 (aI Ty.t85 Ty.t9)))))
theorem atNil_ok (key:Str) (bi:Nat):Ok Tryz.prog 60 [ptr bi,vstr key,.agg [vstr key,nilS]] [(bi,.c [nilS,keyFn])] fun v bs rs=>rs=[]∧AtQ [] key bi v bs:=by
 refine Ok.permB (Q:=fun v bs rs=>rs=[]∧∃ bs',bs.Perm bs'∧AtQ [] key bi v bs') ?_ (fun v bs rs ⟨h1,bs',hp,h⟩=>⟨bs',hp,h1,h⟩)
 refine Ok.of_exM [(3,4)] Ty.mixed Tryz.func60 rfl (by simp [Tryz.ntmps60]) (by kernel_rfl) fun F w0 I0=>?_
 simp only [↓rA,rB]
 refine fun bf hf=>?_;replace hf:=newb hf;try simp only [Nb] at hf
 simp only [↓rA,rB,Nat.reduceEqDiff,reduceCtorEq,tbAGl0]
 refine OkF_with [_] [_] (List.perm_append_comm (l₁:=[_]) (l₂:=[_])) (placeNil_ok key bi) ?_
 rintro v bs rs ⟨rfl,rfl,rfl⟩
 simp only [↓rA,rB,Nat.reduceAdd,Nat.reduceEqDiff,Nat.reduceLT,Nat.reduceLeDiff,Nat.reduceMul,reduceCtorEq,tbAGl0,hf]
 refine fun y=>?_
 refine OkF_withN [] [_,_] (List.Perm.refl _) (insNil_ok [vstr key,nilS] (some y)) ?_
 rintro v bs rs ⟨rfl,b,c,hc,rfl,rfl⟩ hnd
 simp only [List.map_cons,List.map_nil,List.nodup_cons,List.mem_cons,List.not_mem_nil,or_false,not_or,List.cons_append,List.nil_append] at hnd
 have n1:b ≠ bi:=hnd.1.1
 have n2:b ≠ bf:=hnd.1.2
 simp only [↓rA,rB,Int.reduceToNat,Nat.reduceAdd,Nat.reduceEqDiff,Nat.reduceLeDiff,Nat.reduceMul,reduceCtorEq,tbAGl0,Tryz.results60,Ne.symm n1]
 refine⟨_,[_,_],[],Le.refl _,List.Sublist.cons_cons _ (List.Sublist.cons_cons _ (List.nil_sublist _)),List.nil_sublist _,rfl,_,List.Perm.swap _ _ _,b,c,[],[],nilS,anys ((c - 1) * 2),rfl,?_,hc,anys_len _,n1,.inr ⟨rfl,rfl,by simp,by simp⟩⟩
 rfl
theorem ins_ok (cs:List V) (i n c ba:Nat) (g:List V) (own:Option Value) (hg:g.length=2) (hcs:cs.length=c * 2) (hi:i≤n) (hn:n≤c) (hnb:n≤big):Ok Tryz.prog 88 [.lit (.slice (some ⟨ba,0,none⟩) n c),vint i,.list own 2 [g]] [(ba,.c cs)] fun v bs rs=>rs=[]∧∃ b c' rest,n+1≤c'∧v=.lit (.slice (some ⟨b,0,none⟩) (n+1) c')∧rest.length=(c' - (n+1)) * 2∧bs=[(b,.c (cs.take (i * 2)++g++(cs.take (n * 2)).drop (i * 2)++rest))]:=by
 rcases Nat.lt_or_ge i n with h | h
 ·exact insMid_ok cs i n c ba g own hg hcs h hn hnb
 ·obtain rfl:i=n:=Nat.le_antisymm hi h
  refine Ok.mono (insEnd_ok cs i c ba g own hg hcs hn hnb) fun v bs rs ⟨h1,b,c',h2,h3,h4⟩=>⟨h1,b,c',_,h2,h3,anys_len _,?_⟩
  rw [h4,List.drop_of_length_le (by rw [List.length_take];omega),List.append_nil]
def tbAGl1:=(aI (aI (aI (aI Ty.c29 Ty.c56) (aI Ty.c88 Ty.t102)) (aI (aI Ty.t104 Ty.t106) (aI Ty.t108 (aI Ty.t148 Ty.t28)))) (aI (aI (aI Ty.t3 Ty.t4) (aI Ty.t40 (aI Ty.t41 Ty.t43))) (aI (aI Ty.t50 Ty.t51) (aI Ty.t59 (aI Ty.t85 Ty.t9)))))
theorem atBox_ok (l:List GI) (key:Str) (rest:List V) (ba c bi:Nat) (hl:l.length+1≤big) (hs:Sorted l) (h3:ba ≠ bi) (hlc:l.length≤c) (hr:rest.length=(c - l.length) * 2) :
  Ok Tryz.prog 60 [ptr bi,vstr key,.agg [vstr key,nilS]] [(bi,.c [.lit (.slice (some ⟨ba,0,none⟩) l.length c),keyFn]),(ba,.c ((l.map cGI).flatten++rest))] fun v bs rs=>rs=[]∧AtQ l key bi v bs:=by
 refine Ok.permB (Q:=fun v bs rs=>rs=[]∧∃ bs',bs.Perm bs'∧AtQ l key bi v bs') ?_ (fun v bs rs ⟨h1,bs',hp,h⟩=>⟨bs',hp,h1,h⟩)
 refine Ok.of_exM [(3,4)] Ty.mixed Tryz.func60 rfl (by simp [Tryz.ntmps60]) (by kernel_rfl) fun F w0 I0=>?_
 have hcs:((l.map cGI).flatten++rest).length=c * 2:=by rw [List.length_append,cellsG_len,hr];omega
 simp only [↓rA,rB]
 refine fun bf hf=>?_;replace hf:=newb hf;try simp only [Nb] at hf
 simp only [↓rA,rB,Nat.reduceEqDiff,reduceCtorEq,tbAGl1]
 refine OkF_with [_,_] [_] (List.perm_append_comm (l₁:=[_]) (l₂:=[_,_])) (place_ok l key rest ba c bi (by omega) hs h3) ?_
 rintro v bs rs ⟨rfl,rfl,i,hi,hj,rfl⟩
 by_cases hfd:l[i]?.map (·.1)=some key
 ·have hil:i < l.length:=by
   rcases Nat.lt_or_ge i l.length with h | h
   ·exact h
   ·rw [List.getElem?_eq_none h] at hfd;cases hfd
  have hkey:l[i].1=key:=by rw [List.getElem?_eq_getElem hil] at hfd;simpa using hfd
  simp only [↓rA,rB,Nat.reduceEqDiff,reduceCtorEq,tbAGl1,Tryz.results60,hfd,hil,Int.ofNat_lt]
  have hsp:l=l.take i++(key,l[i].2)::l.drop (i+1):=by
   rw [← hkey,← List.drop_eq_getElem_cons hil,List.take_append_drop]
  have hli:(l.take i).length=i:=by rw [List.length_take];omega
  refine⟨_,[_,_],[],Le.refl _,List.Sublist.cons_cons _ (List.Sublist.cons_cons _ (List.nil_sublist _)),List.nil_sublist _,rfl,_,List.Perm.refl _,ba,c,l.take i,l.drop (i+1),.list (some l[i].2.1) 10 (l[i].2.2.map cDlt),rest,by rw [hli],?_,?_,?_,h3,.inl ⟨l[i].2.1,l[i].2.2,rfl,hsp⟩⟩
  ·have hn:(l.take i).length+1+(l.drop (i+1)).length=l.length:=by rw [hli,List.length_drop];omega
   rw [hn]
   have hc:(l.map cGI).flatten++rest=((l.take i).map cGI).flatten++vstr key::.list (some l[i].2.1) 10 (l[i].2.2.map cDlt)::(((l.drop (i+1)).map cGI).flatten++rest):=by
    conv=>lhs;rw [hsp]
    simp
   rw [hc]
  ·have hn:(l.take i).length+1+(l.drop (i+1)).length=l.length:=by rw [hli,List.length_drop];omega
   rw [hn];exact hlc
  ·have hn:(l.take i).length+1+(l.drop (i+1)).length=l.length:=by rw [hli,List.length_drop];omega
   rw [hn];exact hr
 ·simp only [↓rA,rB,Nat.reduceAdd,Nat.reduceEqDiff,Nat.reduceLT,Nat.reduceLeDiff,Nat.reduceMul,reduceCtorEq,tbAGl1,hf,hfd]
  refine fun y=>?_
  refine OkF_withN [_] [_,_] (List.Perm.swap _ _ _) (ins_ok _ i l.length c ba [vstr key,nilS] (some y) rfl hcs hi hlc (by omega)) ?_
  rintro v bs rs ⟨rfl,b,c',rest',hc',rfl,hrest,rfl⟩ hnd
  simp only [List.map_cons,List.map_nil,List.nodup_cons,List.mem_cons,List.not_mem_nil,or_false,not_or,List.cons_append,List.nil_append] at hnd
  have n1:b ≠ bi:=hnd.1.1
  have n2:b ≠ bf:=hnd.1.2
  have hli:(l.take i).length=i:=by rw [List.length_take];omega
  have hsz:(l.take i).length+1+(l.drop i).length=l.length+1:=by rw [hli,List.length_drop];omega
  have hi2:(i:Int) < ((l.length+1:Nat):Int):=by omega
  simp only [↓rA,rB,Nat.reduceAdd,Nat.reduceEqDiff,Nat.reduceLeDiff,reduceCtorEq,tbAGl1,Tryz.results60,Ne.symm n1,hi2]
  refine⟨_,[_,_],[],Le.refl _,List.Sublist.cons_cons _ (List.Sublist.cons_cons _ (List.nil_sublist _)),List.nil_sublist _,rfl,_,List.Perm.swap _ _ _,b,c',l.take i,l.drop i,nilS,rest',by rw [hli],?_,by rw [hsz];exact hc',by rw [hsz];exact hrest,n1,.inr ⟨rfl,(List.take_append_drop i l).symm,?_,?_⟩⟩
  ·have hA:((l.take i).map cGI).flatten.length=i * 2:=by rw [cellsG_len,hli]
   have hB:((l.map cGI).flatten++rest).take (i * 2)=((l.take i).map cGI).flatten:=by
    conv=>lhs;rw [← List.take_append_drop i l,List.map_append,List.flatten_append,List.append_assoc]
    rw [List.take_left' hA]
   have hC:(((l.map cGI).flatten++rest).take (l.length * 2)).drop (i * 2)=((l.drop i).map cGI).flatten:=by
    rw [List.take_left' (cellsG_len l)]
    conv=>lhs;rw [← List.take_append_drop i l,List.map_append,List.flatten_append]
    rw [List.drop_left' hA]
   rw [hsz,hB,hC]
   simp
  ·intro p hp
   obtain⟨j,hjl,rfl⟩:=List.getElem_of_mem hp
   rw [hli] at hjl
   rw [List.getElem_take]
   exact(hj j (by omega)).1 hjl
  ·intro p hp
   obtain⟨j,hjl,rfl⟩:=List.getElem_of_mem hp
   rw [List.length_drop] at hjl
   rw [List.getElem_drop]
   have h1:¬ less l[i+j].1 key=true:=fun h=>by have:=(hj (i+j) (by omega)).2 h;omega
   refine less_total (by simpa using h1) fun e=>?_
   rcases Nat.eq_zero_or_pos j with h0 | h0
   ·subst h0
    exact hfd (by rw [List.getElem?_eq_getElem (by omega)];simpa using e)
   ·have hij:less l[i].1 l[i+j].1=true:=(List.pairwise_iff_getElem.1 hs) i (i+j) (by omega) (by omega) (by omega)
    have:=(hj i (by omega)).2 (e▸hij)
    omega
end Go.Proofs.YtopfanlkbepemaaGreat.Arr
set_option linter.unusedSimpArgs false
set_option maxRecDepth 100000
namespace Go.Proofs.YtopfanlkbepemaaGreat.Arr
open Go.VL Go.Ar Go.Proofs.YtopfanlkbepemaaGreat Go.Proofs.YtopfanlkbepemaaGreat.Arr
def grpsK (d:List Dlt) (K:List Str):List Grp:=(K.map (grpOf d)).filter full
theorem grpsK_take (d:List Dlt) (K:List Str) (i:Nat) (h:i < K.length):grpsK d (K.take (i+1))=grpsK d (K.take i)++(if full (grpOf d K[i])=true then [grpOf d K[i]] else []):=by
 unfold grpsK
 rw [List.take_succ_eq_append_getElem h,List.map_append,List.filter_append]
 by_cases hx:full (grpOf d K[i])=true <;> simp [hx]
theorem grpsK_len (d:List Dlt) (K:List Str) (i:Nat):(grpsK d (K.take i)).length≤i:=by
 unfold grpsK
 have:=List.length_filter_le full ((K.take i).map (grpOf d))
 simp only [List.length_map,List.length_take] at this
 omega
theorem partD_take (d:List Dlt) (k:Str) (i:Nat) (h:i < d.length):partD (d.take (i+1)) k=partD (d.take i) k++(if d[i].row.key=k then [d[i]] else []):=by
 unfold partD
 rw [List.take_succ_eq_append_getElem h,List.filter_append]
 by_cases hx:d[i].row.key=k <;> simp [hx]
theorem partD_len (d:List Dlt) (k:Str):(partD d k).length≤d.length:=List.length_filter_le _ _
end Go.Proofs.YtopfanlkbepemaaGreat.Arr
set_option linter.unusedSimpArgs false
set_option maxRecDepth 100000
set_option linter.defProp false
namespace Go.Proofs.YtopfanlkbepemaaGreat.Arr
open Go.VL Go.Ar Go.Proofs.YtopfanlkbepemaaGreat Go.Proofs.YtopfanlkbepemaaGreat.Arr
structure OfI (d:List Dlt) (i:Nat) (l:List GI):Prop where
 keys:l.map (·.1)=keysM (d.take i)
 part:∀ p ∈ l,p.2.2=partD (d.take i) p.1
def rowG (p:GI):VL.Row:=⟨p.2.1,10,50⟩
theorem OfI.sorted {d:List Dlt} {i:Nat} {l:List GI} (h:OfI d i l):Sorted l:=by
 have:=keysM_sorted (d.take i)
 rw [← h.keys] at this
 exact List.pairwise_map.1 this
theorem OfI.len {d:List Dlt} {i:Nat} {l:List GI} (h:OfI d i l):l.length≤i:=by
 have h1:l.length=(keysM (d.take i)).length:=by rw [← h.keys,List.length_map]
 have h2:=keysM_len (d.take i)
 rw [List.length_take] at h2
 omega
theorem OfI.nil (d:List Dlt):OfI d 0 []:=⟨rfl,fun p hp=>by cases hp⟩
theorem OfI.dlen {d:List Dlt} {i:Nat} {l:List GI} (h:OfI d i l) {p:GI} (hp:p ∈ l):p.2.2.length≤i:=by
 rw [h.part p hp]
 have:=partD_len (d.take i) p.1
 rw [List.length_take] at this
 omega
theorem OfI.found {d:List Dlt} {i:Nat} (hi:i < d.length) {L1 L2:List GI} {y y':Value} {ds:List Dlt} (h:OfI d i (L1++(d[i].row.key,y,ds)::L2)):OfI d (i+1) (L1++(d[i].row.key,y',ds++[d[i]])::L2):=by
 have hs:=h.sorted
 have hk:=keysM_take d i hi
 have hin:d[i].row.key ∈ keysM (d.take i):=by rw [← h.keys];simp
 have hsp:=List.pairwise_append.1 hs
 have h1:∀ p ∈ L1,¬ d[i].row.key=p.1:=fun p hp e=>less_ne (hsp.2.2 p hp _ List.mem_cons_self) e.symm
 have h2:∀ p ∈ L2,¬ d[i].row.key=p.1:=fun p hp e=>less_ne ((List.pairwise_cons.1 hsp.2.1).1 p hp) e
 refine⟨?_,fun p hp=>?_⟩
 ·have e1:(L1++(d[i].row.key,y',ds++[d[i]])::L2).map (·.1)=(L1++(d[i].row.key,y,ds)::L2).map (·.1):=by simp
  rw [e1,h.keys,hk]
  refine ksorted_eq (keysM_sorted _) (insK_sorted (keysM_sorted _)) fun k=>?_
  rw [insK_mem]
  constructor
  ·exact .inr
  ·rintro(rfl | h)
   ·exact hin
   ·exact h
 ·rw [partD_take d p.1 i hi]
  rcases List.mem_append.1 hp with hp | hp
  ·rw [if_neg (h1 p hp),List.append_nil]
   exact h.part p (List.mem_append_left _ hp)
  ·rcases List.mem_cons.1 hp with rfl | hp
   ·rw [if_pos rfl]
    have:=h.part (d[i].row.key,y,ds) (List.mem_append_right _ List.mem_cons_self)
    simp only at this ⊢
    rw [this]
   ·rw [if_neg (h2 p hp),List.append_nil]
    exact h.part p (List.mem_append_right _ (List.mem_cons_of_mem _ hp))
theorem OfI.fresh {d:List Dlt} {i:Nat} (hi:i < d.length) {L1 L2:List GI} {y':Value} (h:OfI d i (L1++L2)) (h1:∀ p ∈ L1,less p.1 d[i].row.key=true) (h2:∀ p ∈ L2,less d[i].row.key p.1=true):OfI d (i+1) (L1++(d[i].row.key,y',[d[i]])::L2):=by
 have hs:=h.sorted
 have hk:=keysM_take d i hi
 have hsp:=List.pairwise_append.1 hs
 have hno:¬ d[i].row.key ∈ keysM (d.take i):=by
  rw [← h.keys,List.map_append,List.mem_append,List.mem_map,List.mem_map]
  rintro(⟨p,hp,e⟩ | ⟨p,hp,e⟩)
  ·exact less_ne (h1 p hp) e
  ·exact less_ne (h2 p hp) e.symm
 refine⟨?_,fun p hp=>?_⟩
 ·rw [hk]
  refine ksorted_eq ?_ (insK_sorted (keysM_sorted _)) fun k=>?_
  ·refine List.pairwise_map.2 (List.pairwise_append.2 ⟨hsp.1,List.pairwise_cons.2 ⟨h2,hsp.2.1⟩,fun a ha b hb=>?_⟩)
   rcases List.mem_cons.1 hb with rfl | hb
   ·exact h1 a ha
   ·exact hsp.2.2 a ha b hb
  ·rw [insK_mem,← h.keys]
   simp only [List.map_append,List.map_cons,List.mem_append,List.mem_cons]
   constructor
   ·rintro(h | h | h)
    ·exact .inr (.inl h)
    ·exact .inl h
    ·exact .inr (.inr h)
   ·rintro(h | h | h)
    ·exact .inr (.inl h)
    ·exact .inl h
    ·exact .inr (.inr h)
 ·rw [partD_take d p.1 i hi]
  rcases List.mem_append.1 hp with hp | hp
  ·rw [if_neg (fun e=>less_ne (h1 p hp) e.symm),List.append_nil]
   exact h.part p (List.mem_append_left _ hp)
  ·rcases List.mem_cons.1 hp with rfl | hp
   ·rw [if_pos rfl]
    have:partD (d.take i) d[i].row.key=[]:=List.filter_eq_nil_iff.2 fun x hx e=>hno ((keysM_mem _ _).2 ⟨x,hx,of_decide_eq_true e⟩)
    rw [this];rfl
   ·rw [if_neg (less_ne (h2 p hp)),List.append_nil]
    exact h.part p (List.mem_append_right _ hp)
theorem cut3 {X Y:List V} {a D:V} {n:Nat} (h:X.length=n):(X++a::D::Y).drop (n+1)=D::Y:=by
 rw [← List.drop_drop,List.drop_left' h];rfl
theorem cut4 {X Y:List V} {a D:V} {n:Nat} (h:X.length=n):(X++a::D::Y).take (n+1)=X++[a]:=by
 rw [show X++a::D::Y=(X++[a])++D::Y by simp,List.take_left' (by simp [h])]
theorem cut5 {X Y:List V} {a D:V} {n:Nat} (h:X.length=n):(X++a::D::Y).drop (n+2)=Y:=by
 rw [← List.drop_drop,List.drop_left' h];rfl
theorem cellsG_mid (L1 L2:List GI) (p:GI) (rest:List V):((L1++p::L2).map cGI).flatten++rest=(L1.map cGI).flatten++vstr p.1::.list (some p.2.1) 10 (p.2.2.map cDlt)::((L2.map cGI).flatten++rest):=by simp
def tbAGm0:=(aI (aI (aI (aI Ty.c21 Ty.c28) (aI Ty.c54 (aI Ty.c60 Ty.t102))) (aI (aI Ty.t106 Ty.t108) (aI Ty.t148 (aI Ty.t28 Ty.t3)))) (aI (aI (aI Ty.t30 Ty.t4) (aI Ty.t40 (aI Ty.t41 Ty.t43))) (aI (aI Ty.t50 Ty.t51) (aI Ty.t59 (aI Ty.t85 Ty.t9)))))
theorem ofP_ok (s:Int) (d:List Dlt) (hfit:fitDs d):OkP Tryz.prog 33 [vint s,vDlts d] (vArr (ofM s d)):=by
 have hd:=hfit.1
 unfold big at hd
 refine Ok.of_exM [(6,4)] Ty.mixed Tryz.func33 rfl (by simp [Tryz.ntmps33]) (by kernel_rfl) fun F w0 I0=>?_
 simp only [↓rA,rB,tbAGm0]
 refine fun b4 h4=>?_;replace h4:=newb h4;try simp only [Nb] at h4
 simp only [↓rA,rB,tbAGm0]
 refine OkF_withN [] _ (List.Perm.refl _) groupsNil_ok ?_
 rintro v bs rs ⟨rfl,bi,rfl,rfl⟩ hnd
 simp only [List.map_cons,List.map_nil,List.nodup_cons,List.mem_cons,List.not_mem_nil,or_false,List.cons_append,List.nil_append] at hnd
 have nb4:bi ≠ b4:=hnd.1
 simp only [↓rA,rB,Nat.reduceEqDiff,tbAGm0,Tryz.results33,List.length_map]
 refine EX_forP Ty.mixed (by kernel_rfl) d.length (fun i S=>∃ l:List GI,OfI d i l∧S.rows=l.map rowG∧S.σ 0=vint s∧S.σ 4=ptr b4∧S.σ 5=ptr bi∧S.σ 13=vDlts d∧S.σ 14=vint d.length∧S.σ 15=vint i∧((l=[]∧S.boxes=[(bi,.c [nilS,keyFn]),(b4,.c [vint 0,nilS])])∨∃ (ba c:Nat) (rest:List V),l.length≤c∧rest.length=(c - l.length) * 2∧ba ≠ bi∧ba ≠ b4∧S.boxes=[(bi,.c [.lit (.slice (some ⟨ba,0,none⟩) l.length c),keyFn]),(ba,.c ((l.map cGI).flatten++rest)),(b4,.c [vint 0,nilS])])) ⟨_,_,_,_,List.Sublist.refl _,List.Sublist.refl _,List.Perm.refl _,List.Perm.refl _,[],OfI.nil d,?_⟩ (fun i S hi ⟨l,hof,gr,g0,g4,g5,g13,g14,g15,hbx⟩=>?_) (fun S ⟨l,hof,gr,g0,g4,g5,g13,g14,g15,hbx⟩=>?_)
 ·simp only [rB,Nat.reduceEqDiff,reduceCtorEq]
 ·have hll:=hof.len
  rcases hbx with⟨rfl,gb⟩ | ⟨ba,c,rest,hc0,hr0,q1,q2,gb⟩
  ·simp only [↓rA,rB,Nat.reduceAdd,Nat.reduceEqDiff,tbAGm0,gr,gb,g13,g14,g15,Int.ofNat_lt,hi,List.length_map,getD_map]
   refine fun b7 h7=>?_;replace h7:=newb h7;try simp only [Nb] at h7
   simp only [↓rA,rB,Nat.reduceAdd,Nat.reduceEqDiff,Nat.reduceLeDiff,tbAGm0,gb,g5]
   refine OkF_withN [_] [_,_] (List.Perm.swap _ _ _) (atNil_ok d[i].row.key bi) ?_
   rintro v bs rs ⟨rfl,b,c,L1,L2,D,rest,rfl,rfl,hc,hr,hbbi,hcase⟩ hnd2
   simp only [List.map_cons,List.map_nil,List.nodup_cons,List.mem_cons,List.not_mem_nil,or_false,not_or,List.cons_append,List.nil_append] at hnd2
   have m1:b ≠ bi:=hbbi
   have m2:b ≠ b7:=hnd2.2.1.1
   have m3:b ≠ b4:=hnd2.2.1.2
   have m4:bi ≠ b7:=hnd2.1.2.1
   have hX:((L1.map cGI).flatten).length=L1.length * 2:=cellsG_len L1
   have e1:=fun D'=>cut3 (X:=(L1.map cGI).flatten) (Y:=(L2.map cGI).flatten++rest) (a:=vstr d[i].row.key) (D:=D') hX
   have e2:=fun D'=>cut4 (X:=(L1.map cGI).flatten) (Y:=(L2.map cGI).flatten++rest) (a:=vstr d[i].row.key) (D:=D') hX
   have e3:=fun D'=>cut5 (X:=(L1.map cGI).flatten) (Y:=(L2.map cGI).flatten++rest) (a:=vstr d[i].row.key) (D:=D') hX
   rcases hcase with⟨y,ds,rfl,hl⟩ | ⟨rfl,hl,hlo,hhi⟩
   ·simp at hl
   ·have hof':=fun y'=>OfI.fresh (y':=y') hi (hl▸hof) hlo hhi
    simp only [↓rA,rB,Nat.reduceAdd,Nat.reduceEqDiff,Nat.reduceLT,Nat.reduceLeDiff,Nat.reduceMul,reduceCtorEq,tbAGm0,gr,g15,h7,m1,Ne.symm m2,e1,e2,e3]
    refine fun y1 y'=>⟨by rw [List.length_append,hX];simp only [List.length_cons];omega,?_⟩
    refine⟨[_,_,_],⟨y',10,50⟩::(L1.map rowG++L2.map rowG),_,(L1++(d[i].row.key,y',[d[i]])::L2).map rowG,List.Sublist.cons_cons _ (List.Sublist.cons_cons _ (List.Sublist.cons _ (List.Sublist.cons_cons _ (List.nil_sublist _)))),?_,List.Perm.refl _,?_,_,hof' y',?_⟩
    ·have hl':=congrArg (List.map rowG) hl
     rw [List.map_append] at hl'
     rw [← hl']
     exact List.Sublist.cons_cons _ (List.Sublist.cons _ (List.Sublist.refl _))
    ·rw [List.map_append,List.map_cons]
     exact List.perm_middle.symm
    simp only [rB,Nat.reduceEqDiff,reduceCtorEq,g0,g4,g5,g13,g14,wrap_succ hi (Nat.le_trans hd (by decide))]
    have hn':(L1++(d[i].row.key,y',[d[i]])::L2).length=L1.length+1+L2.length:=by simp only [List.length_append,List.length_cons];omega
    refine .inr ⟨b,c,rest,by rw [hn'];exact hc,by rw [hn'];exact hr,m1,m3,?_⟩
    rw [hn',cellsG_mid]
    simp
  ·simp only [↓rA,rB,Nat.reduceAdd,Nat.reduceEqDiff,tbAGm0,gr,gb,g13,g14,g15,Int.ofNat_lt,hi,List.length_map,getD_map]
   refine fun b7 h7=>?_;replace h7:=newb h7;try simp only [Nb] at h7
   simp only [↓rA,rB,Nat.reduceAdd,Nat.reduceEqDiff,Nat.reduceLeDiff,tbAGm0,gb,g5]
   refine OkF_withN [_,_] [_,_] ((List.perm_append_comm (l₁:=[_]) (l₂:=[_,_])).append_right [_]) (atBox_ok l d[i].row.key rest ba c bi (by unfold big;omega) hof.sorted q1 hc0 hr0) ?_
   rintro v bs rs ⟨rfl,b,c,L1,L2,D,rest,rfl,rfl,hc,hr,hbbi,hcase⟩ hnd2
   simp only [List.map_cons,List.map_nil,List.nodup_cons,List.mem_cons,List.not_mem_nil,or_false,not_or,List.cons_append,List.nil_append] at hnd2
   have m1:b ≠ bi:=hbbi
   have m2:b ≠ b7:=hnd2.2.1.1
   have m3:b ≠ b4:=hnd2.2.1.2
   have m4:bi ≠ b7:=hnd2.1.2.1
   have hX:((L1.map cGI).flatten).length=L1.length * 2:=cellsG_len L1
   have e1:=fun D'=>cut3 (X:=(L1.map cGI).flatten) (Y:=(L2.map cGI).flatten++rest) (a:=vstr d[i].row.key) (D:=D') hX
   have e2:=fun D'=>cut4 (X:=(L1.map cGI).flatten) (Y:=(L2.map cGI).flatten++rest) (a:=vstr d[i].row.key) (D:=D') hX
   have e3:=fun D'=>cut5 (X:=(L1.map cGI).flatten) (Y:=(L2.map cGI).flatten++rest) (a:=vstr d[i].row.key) (D:=D') hX
   rcases hcase with⟨y,ds,rfl,hl⟩ | ⟨rfl,hl,hlo,hhi⟩
   ·have hof':=fun y'=>OfI.found (y':=y') hi (hl▸hof)
    have hdl:ds.length≤i:=hof.dlen (p:=(d[i].row.key,y,ds)) (by rw [hl];simp)
    rw [hl,List.map_append,List.map_cons] at gr
    simp only [↓rA,rB,Nat.reduceAdd,Nat.reduceEqDiff,Nat.reduceLT,Nat.reduceLeDiff,Nat.reduceMul,reduceCtorEq,tbAGm0,gr,h7,m1,Ne.symm m2,e1]
    refine fun y1=>takeRF_at (l1:=⟨y1,10,50⟩::L1.map rowG) ?_
    simp only [↓rA,rB,Nat.reduceEqDiff,reduceCtorEq,tbAGm0,gr,g15,m1,e2,e3,List.length_map]
    refine⟨by omega,fun y'=>⟨by rw [List.length_append,hX];simp only [List.length_cons];omega,?_⟩⟩
    refine⟨[_,_,_],⟨y',10,50⟩::(L1.map rowG++L2.map rowG),_,(L1++(d[i].row.key,y',ds++[d[i]])::L2).map rowG,List.Sublist.cons_cons _ (List.Sublist.cons_cons _ (List.Sublist.cons _ (List.Sublist.cons_cons _ (List.nil_sublist _)))),?_,List.Perm.refl _,?_,_,hof' y',?_⟩
    ·exact List.Sublist.cons_cons _ (List.Sublist.cons _ (List.Sublist.refl _))
    ·rw [List.map_append,List.map_cons]
     exact List.perm_middle.symm
    simp only [rB,Nat.reduceEqDiff,reduceCtorEq,g0,g4,g5,g13,g14,wrap_succ hi (Nat.le_trans hd (by decide))]
    have hn':(L1++(d[i].row.key,y',ds++[d[i]])::L2).length=L1.length+1+L2.length:=by simp only [List.length_append,List.length_cons];omega
    refine .inr ⟨b,c,rest,by rw [hn'];exact hc,by rw [hn'];exact hr,m1,m3,?_⟩
    rw [hn',cellsG_mid]
    simp
   ·have hof':=fun y'=>OfI.fresh (y':=y') hi (hl▸hof) hlo hhi
    simp only [↓rA,rB,Nat.reduceAdd,Nat.reduceEqDiff,Nat.reduceLT,Nat.reduceLeDiff,Nat.reduceMul,reduceCtorEq,tbAGm0,gr,g15,h7,m1,Ne.symm m2,e1,e2,e3]
    refine fun y1 y'=>⟨by rw [List.length_append,hX];simp only [List.length_cons];omega,?_⟩
    refine⟨[_,_,_],⟨y',10,50⟩::(L1.map rowG++L2.map rowG),_,(L1++(d[i].row.key,y',[d[i]])::L2).map rowG,List.Sublist.cons_cons _ (List.Sublist.cons_cons _ (List.Sublist.cons _ (List.Sublist.cons_cons _ (List.nil_sublist _)))),?_,List.Perm.refl _,?_,_,hof' y',?_⟩
    ·rw [← List.map_append,← hl,← gr]
     exact List.Sublist.cons_cons _ (List.Sublist.cons _ (List.Sublist.refl _))
    ·rw [List.map_append,List.map_cons]
     exact List.perm_middle.symm
    simp only [rB,Nat.reduceEqDiff,reduceCtorEq,g0,g4,g5,g13,g14,wrap_succ hi (Nat.le_trans hd (by decide))]
    have hn':(L1++(d[i].row.key,y',[d[i]])::L2).length=L1.length+1+L2.length:=by simp only [List.length_append,List.length_cons];omega
    refine .inr ⟨b,c,rest,by rw [hn'];exact hc,by rw [hn'];exact hr,m1,m3,?_⟩
    rw [hn',cellsG_mid]
    simp
 ·have hkeys:l.map (·.1)=keysM d:=by have:=hof.keys;rwa [List.take_of_length_le (Nat.le_refl _)] at this
  have hll:=hof.len
  rcases hbx with⟨rfl,gb⟩ | ⟨ba,c,rest,hc0,hr0,q1,q2,gb⟩
  ·have hof0:ofM s d=⟨s,[]⟩:=by
    unfold ofM grpsM
    rw [← hkeys];rfl
   simp only [↓rA,rB,Nat.reduceAdd,Nat.reduceLeDiff,reduceCtorEq,tbAGm0,gr,gb,g0,g14,g15,Int.ofNat_lt,Nat.lt_irrefl]
   refine fun b9 h9=>?_;replace h9:=newb h9;try simp only [Nb] at h9
   simp only [↓rA,rB,Nat.reduceAdd,Nat.reduceEqDiff,tbAGm0,gb,g5,h9]
   refine EX_for Ty.mixed (by kernel_rfl) 0 (fun i S=>S.boxes=[(b9,.c [vint s,nilS]),(bi,.c [nilS,keyFn]),(b4,.c [vint 0,nilS])]∧S.rows=[]∧S.σ 4=ptr b4∧S.σ 9=ptr b9∧S.σ 45=vint 0∧S.σ 46=vint 0) ⟨0,?_⟩ (fun i S hi _=>absurd hi (Nat.not_lt_zero _)) (fun S ⟨gb,gr,g4,g9,g45,g46⟩=>?_)
   ·simp only [rB,Nat.reduceEqDiff,gr,g4]
    try exact⟨trivial,trivial⟩
   ·simp only [↓rA,rB,Nat.reduceAdd,Nat.reduceEqDiff,tbAGm0,gb,gr,g4,g9,g45,g46,h9,Int.lt_irrefl,Ne.symm nb4]
    rw [hof0]
    exact ret_le (Le.arr0 _)
  ·simp only [↓rA,rB,Nat.reduceAdd,Nat.reduceLeDiff,reduceCtorEq,tbAGm0,gr,gb,g0,g14,g15,Int.ofNat_lt,Nat.lt_irrefl]
   refine fun b9 h9=>?_;replace h9:=newb h9;try simp only [Nb] at h9
   simp only [↓rA,rB,Nat.reduceAdd,Nat.reduceEqDiff,tbAGm0,gb,g5,h9]
   refine EX_nilB (cs':=[vint s,.list (some nilv) 2 []]) (k:=2) (e:=59) [] [_,_,_] (by simp only [rB];try rfl) (.cons (Le.refl _) (.cons (Le.nilOwn 2) .nil)) (by decide) ?_
   refine EX_forS Ty.mixed (by kernel_rfl) l.length (fun j S=>∃ y9,S.boxes=[(b9,.c [vint s,.list (some y9) 2 ((grpsK d ((l.map (·.1)).take j)).map cGrp)]),(bi,.c [.lit (.slice (some ⟨ba,0,none⟩) l.length c),keyFn]),(ba,.c ((l.map cGI).flatten++rest)),(b4,.c [vint 0,nilS])]∧S.rows=[⟨y9,2,59⟩]∧S.σ 4=ptr b4∧S.σ 9=ptr b9∧S.σ 44=.lit (.slice (some ⟨ba,0,none⟩) l.length c)∧S.σ 45=vint l.length∧S.σ 46=vint j) ⟨_,[_],List.Sublist.refl _,List.Sublist.cons_cons _ (List.nil_sublist _),nilv,?_⟩ (fun j S hj ⟨y9,gb,gr,g4,g9,g44,g45,g46⟩=>?_) (fun S ⟨y9,gb,gr,g4,g9,g44,g45,g46⟩=>?_)
   ·simp only [rB,Nat.reduceEqDiff,g4]
    try simp [grpsK]
   ·have hjK:j < (l.map (·.1)).length:=by rw [List.length_map];exact hj
    have htk:=grpsK_take d (l.map (·.1)) j hjK
    have hlen:=grpsK_len d (l.map (·.1)) j
    rw [List.getElem_map] at htk
    have hpart:l[j].2.2=partD d l[j].1:=by have:=hof.part l[j] (List.getElem_mem hj);rwa [List.take_of_length_le (Nat.le_refl _)] at this
    have hpfit:fitDs l[j].2.2:=hpart▸hfit.part _
    simp only [↓rA,rB,Nat.reduceEqDiff,tbAGm0,gb,gr,g44,g45,g46,h9,q1,Int.ofNat_lt,hj]
    have hdl:2≤(((l.map cGI).flatten++rest).drop (j * 2)).length:=by rw [List.length_drop,List.length_append,cellsG_len];omega
    have hdl':l.length≤d.length:=hll
    refine⟨hdl,?_⟩
    rw [cellG_at l rest j hj]
    refine fun b11 h11=>?_;replace h11:=newb h11;try simp only [Nb] at h11
    simp only [↓rA,rB,Nat.reduceAdd,Nat.reduceEqDiff,tbAGm0,gb]
    refine OkF_le (.cons (Le.list _ _ _) .nil) _ (cons_ok l[j].2.2 hpfit) ?_
    have hgo:grpOf d l[j].1=⟨l[j].1,consM l[j].2.2⟩:=by rw [hpart];rfl
    rw [hgo] at htk
    by_cases hx:full ⟨l[j].1,consM l[j].2.2⟩=true
    ·have hx':(0:Int) < ((consM l[j].2.2).length:Int):=by
      have h0:0 < (consM l[j].2.2).length:=of_decide_eq_true hx
      omega
     simp only [↓rA,rB,Nat.reduceAdd,Nat.reduceEqDiff,Nat.reduceLT,Nat.reduceLeDiff,Nat.reduceMul,tbAGm0,gr,g9,h11,hx',List.length_map]
     refine fun y10=>takeRF_2 ?_
     simp only [↓rA,rB,Nat.reduceAdd,Nat.reduceEqDiff,tbAGm0,gr,g9,g46,h11,wrap_succ hj (Nat.le_trans hdl' (Nat.le_trans hd (by decide))),List.length_map]
     refine⟨(by first | omega | (simp;omega)),fun y12=>⟨[_,_,_,_],[_],List.Sublist.cons _ (List.Sublist.refl _),List.Sublist.cons_cons _ (List.nil_sublist _),y12,?_⟩⟩
     simp only [rB,Nat.reduceEqDiff,g4,g9,g44,g45]
     rw [htk,if_pos hx,List.map_append]
     rfl
    ·have hx':¬ (0:Int) < ((consM l[j].2.2).length:Int):=by
      have h0:¬ 0 < (consM l[j].2.2).length:=fun h=>hx (decide_eq_true h)
      omega
     simp only [↓rA,rB,Nat.reduceAdd,Nat.reduceEqDiff,tbAGm0,gr,g46,hx',wrap_succ hj (Nat.le_trans hdl' (Nat.le_trans hd (by decide))),List.length_map]
     refine⟨[_,_,_,_],_,List.Sublist.cons _ (List.Sublist.refl _),List.Sublist.refl _,y9,?_⟩
     simp only [rB,Nat.reduceEqDiff,g4,g9,g44,g45]
     rw [htk,if_neg hx,List.append_nil]
   ·simp only [↓rA,rB,Nat.reduceAdd,Nat.reduceEqDiff,tbAGm0,gb,gr,g4,g9,g45,g46,h9,Ne.symm nb4,Ne.symm q2,Int.ofNat_lt,Nat.lt_irrefl]
    rw [List.take_of_length_le (by rw [List.length_map];exact Nat.le_refl _),hkeys]
    exact ret_le (Le.arr _ _ _)
end Go.Proofs.YtopfanlkbepemaaGreat.Arr
