/- Merged out of my texts LA CA O7 O8 O9 CB OA OB CC CD CE CF LB LS LC LD LE YC LP LT LQ LU E1 YM WI Y1 GI GA GP GS GR GD GJ GT GU GV GE GK GL GF GB GW Q0. -/
import Derived.Test.YtkdgbjhbpbgdeaaGreatDoorKA
import Derived.Test.YtkdgbjhbpbgdeaaGreatDoorKa
import Derived.Test.YtkdgbjhbpbgdeaaGreatDoorKVc
import Derived.Lib.IndexMore
import Derived.Test.YtkdgbjhbpbgdeaaGreatDoorKVa
import Derived.Shelf.Strings.Search3
import Derived.KernelRfl
import Derived.Test.YtkdgbjhbpbgdeaaGreatDoorProg
import Derived.Shelf.SortG.Plain
import Derived.Shelf.SortG.SortNone
import Derived.Test.YtkdgbjhbpbgdeaaGreatDoorKVb
import Derived.Laws.Externs
set_option linter.unusedSimpArgs false
set_option maxRecDepth 100000
set_option linter.defProp false
set_option maxHeartbeats 4000000
set_option linter.unusedVariables false
open Go.Proofs.Tryz
open Go.VL Go.Ar
namespace Go.Lo
structure Fac where
 name:Str
 exp:Int
 deriving DecidableEq
structure Hd where
 kind:Int
 op:Str
 name:Str
 table:Str
 val:Val
 unit:List Fac
 param:Int
 wk:Int
 ws:Int
 deriving DecidableEq
inductive E where
 | mk (h:Hd) (args:List E)
def E.hd:E->Hd
 | .mk h _=>h
def E.args:E->List E
 | .mk _ l=>l
theorem E.ext' {x y:E} (h:x.hd=y.hd) (a:x.args=y.args):x=y:=by cases x;cases y;simp_all [E.hd,E.args]
noncomputable instance:DecidableEq E:=fun a b=>Classical.propDecidable (a=b)
abbrev cFac (f:Fac):List V:=[vstr f.name,vint f.exp]
abbrev qN (l:List Fac):V:=.list none 2 (l.map cFac)
abbrev cH (h:Hd) (a:V):List V:=[vint h.kind,vstr h.op,vstr h.name,vstr h.table,vint h.val.kind,vint h.val.n,vstr h.val.s,qN h.unit,vint h.param,vint h.wk,vint h.ws,a]
mutual
def cE:E->List V
 | .mk h l=>cH h (.list none 12 (cEs l))
def cEs:List E->List (List V)
 | []=>[]
 | x::r=>cE x::cEs r
end
theorem qoi:∀ l:List E,cEs l=l.map cE
 | []=>rfl
 | x::r=>by simp only [cEs,z7,qoi r]
abbrev kI (l:List E):V:=.list none 12 (l.map cE)
theorem wI (h:Hd) (l:List E):cE (.mk h l)=cH h (kI l):=by rw [cE,qoi]
theorem qY (x:E):cE x=cH x.hd (kI x.args):=by cases x;rw [wI];rfl
theorem qJz (x:E):(cE x).length=12:=by rw [qY];rfl
abbrev vE (x:E):V:=.agg (cE x)
theorem E.ind {P:E->Prop} (h:∀ hd l,(∀ x ∈ l,P x)->P (.mk hd l)) (x:E):P x :=
 E.rec (motive_1:=P) (motive_2:=fun l=>∀ x ∈ l,P x) (fun hd l d=>h hd l d) (fun _ a=>by cases a)
  (fun y r j e x a=>by
   rcases xb.1 a with rfl | a
   ·omega
   simp_all) x
mutual
def kY:E->Nat
 | .mk _ l=>1+sizeEs l
def sizeEs:List E->Nat
 | []=>0
 | x::r=>kY x+sizeEs r
end
mutual
def zV:E->Nat
 | .mk _ l=>depthEs l+1
def depthEs:List E->Nat
 | []=>0
 | x::r=>max (zV x) (depthEs r)
end
theorem uO (h:Hd) (l:List E):kY (.mk h l)=1+sizeEs l:=by rfl
theorem vp (h:Hd) (l:List E):zV (.mk h l)=depthEs l+1:=by rfl
theorem qnj {x:E}:∀ {l:List E},x ∈ l->kY x<=sizeEs l
 | y::r,h=>by
  rcases xb.1 h with rfl | h
  ·simp only [sizeEs];omega
  ·have:=qnj h;simp only [sizeEs];omega
theorem uy {x:E}:∀ {l:List E},x ∈ l->zV x<=depthEs l
 | y::r,h=>by
  rcases xb.1 h with rfl | h
  ·simp only [depthEs];omega
  ·have:=uy h;simp only [depthEs];omega
abbrev qH:Str:=⟨#[]⟩
abbrev val0:Val:=⟨0,0,qH⟩
abbrev vb (k:Int):Hd:=⟨k,qH,qH,qH,val0,[],0,0,0⟩
abbrev exp0:E:=.mk (vb 0) []
structure Nd where
 kind:Int
 table:Str
 expr:E
 op:Str
 param:Int
 wk:Int
 ws:Int
 val:Val
 name:Str
 inn:List Int
noncomputable instance:DecidableEq Nd:=fun a b=>Classical.propDecidable (a=b)
abbrev hTT:Hd:={ vb 1 with val:=⟨1,1,qH⟩ }
abbrev tt:E:=.mk hTT []
structure Typ where
 kind:Int
 unit:List Fac
 of:Str
 deriving DecidableEq
structure Fld where
 name:Str
 typ:Typ
 deriving DecidableEq
structure Tab where
 name:Str
 entity:Str
 fields:List Fld
 keep:Int
 deriving DecidableEq
structure Ftr where
 name:Str
 entity:Str
 typ:Typ
 body:E
 version:Int
structure Cat where
 tables:List Tab
 features:List Ftr
 drafts:List Ftr
 past:List Ftr
abbrev KK (f:Fld):List V:=[vstr f.name,vint f.typ.kind,qN f.typ.unit,vstr f.typ.of]
abbrev cTab (t:Tab):List V:=[vstr t.name,vstr t.entity,.list none 4 (t.fields.map KK),vint t.keep]
abbrev cF (f:Ftr) (h:Hd) (a:V):List V:=[vstr f.name,vstr f.entity,vint f.typ.kind,qN f.typ.unit,vstr f.typ.of,vint h.kind,vstr h.op,vstr h.name,vstr h.table,vint h.val.kind,vint h.val.n,vstr h.val.s,qN h.unit,vint h.param,vint h.wk,vint h.ws,a,vint f.version]
def cFtr (f:Ftr):List V:=cF f f.body.hd (kI f.body.args)
theorem qs (f:Ftr):cFtr f=cF f f.body.hd (kI f.body.args):=rfl
abbrev qm (l:List Ftr):V:=.list none 18 (l.map cFtr)
abbrev qR (l:List Tab):V:=.list none 4 (l.map cTab)
abbrev qT (c:Cat):List V:=[qR c.tables,qm c.features,qm c.drafts,qm c.past]
abbrev zO (c:Cat):V:=.agg (qT c)
noncomputable instance:DecidableEq Ftr:=fun a b=>Classical.propDecidable (a=b)
noncomputable instance:DecidableEq Cat:=fun a b=>Classical.propDecidable (a=b)
end Go.Lo
open Go.Lo
namespace Go.Proofs.YtkdgbjhbpbgdeaaGreatDoor
def Jp (n m:Int):Bool:=decide (m < n) || decide (n < -m)
def wordC (c:UInt8):Bool:=!((decide ((c.toNat:Int) < 97) || decide ((122:Int) < c.toNat)) && (decide ((c.toNat:Int) < 48) || decide ((57:Int) < c.toNat)) && !decide ((c.toNat:Int)=95))
def jU (s:Str):Bool:=if s.size=0 then false else if 24 < s.size then false else if ((s.data.toList.getD 0 0).toNat:Int) < 97 then false else if (122:Int) < ((s.data.toList.getD 0 0).toNat:Int) then false else s.data.toList.all wordC
variable {i:Nat}
theorem yH {α:Type} {p:α->Bool} {l:List α} (h:i < l.length):(l.take (i+1)).all p=((l.take i).all p && p l[i]):=by
 rw [zt h,List.all_append];simp
theorem yI {α:Type} {p:α->Bool} {l:List α} (h:i < l.length) (a:p l[i]=false):l.all p=false:=by
 rw [List.all_eq_false];exact⟨l[i],zs h,by simp_all⟩
theorem vK (s:Str) (i:Nat) (h:i < s.size):s.data.toList.getD i 0=s.data.toList[i]'(by simp_all):=by
 simp_all
def qui : List UInt8 := " table feature of keep bool text key int dec if then else default or and not true false null count sum mean min max first last distinct quantile decay all sliding tumbling session where ".toUTF8.data.toList
def qfz (s:Str):Bool:=if s=qH then false else if Lib.contains s.data.toList [32]=true then false else Lib.contains qui (32::(s.data.toList++[32]))
theorem qvh (s:Str):((⟨#[32]⟩:Str)++s).size=1+s.size:=by rw [ByteArray.size_append];rfl
def Zk (i:Nat) (c:UInt8):Bool:=(decide ((97:Int)<=c.toNat) && decide ((c.toNat:Int)<=122)) || (decide (0 < i) && ((decide ((48:Int)<=c.toNat) && decide ((c.toNat:Int)<=57)) || decide ((c.toNat:Int)=95)))
def uq:Nat->List UInt8->Bool
 | _,[]=>true
 | i,c::r=>Zk i c && uq (i+1) r
theorem Qq:∀ (i:Nat) (l m:List UInt8),uq i (l++m)=(uq i l && uq (i+l.length) m)
 | i,[],m=>by rfl
 | i,c::r,m=>by simp only [List.cons_append,uq,Qq (i+1) r m,List.length_cons,qRj,show i+1+r.length=i+(r.length+1) by omega]
theorem Qp {l:List UInt8} (h:i < l.length):uq 0 (l.take (i+1))=(uq 0 (l.take i) && Zk i l[i]):=by
 rw [zt h,Qq,kB,qKt (by omega),qJ0];simp [uq]
theorem Xw {l:List UInt8} (h:i < l.length) (a:Zk i l[i]=false):uq 0 l=false:=by
 rw [<-qBq (i+1) l,Qq,Qp h,a];simp
def zG (s:Str):Bool:=if s=qH then false else if 24 < s.size then false else if qfz s=true then false else uq 0 s.data.toList
def uY (l:List Str) (s:Str):Bool:=l.any fun x=>decide (s=x)
theorem qfq {l:List Str} {s:Str}:uY l s=true↔s ∈ l:=by
 unfold uY;simp
def leS (a b:Str):Bool:=Op.bytesLess a.data.toList b.data.toList || decide (a=b)
def QM:Option Str->List Fac->Int
 | _,[]=>0
 | p,f::r=>if jU f.name=false then 1 else if f.exp=0 then 70 else if Jp f.exp 8=true then 70 else if (p.any fun q=>leS f.name q)=true then 3 else QM (some f.name) r
def kJ (u:List Fac):Int:=if 4 < u.length then 2 else QM none u
def Xg (u:List Fac):Nat->Option Str
 | 0=>none
 | i+1=>(u[i]?).map (·.name)
def xu (low:Int) (c:UInt8):Bool:=if (c.toNat:Int) < low then false else if (126:Int) < c.toNat then false else if (c.toNat:Int)=34 then false else decide (¬ (c.toNat:Int)=92)
def wQ (v:Val):Int :=
 if v.kind < 0 then 1 else if 5 < v.kind then 1 else if ¬ v.kind=4/\¬ v.kind=5/\¬ v.s=qH then 1
 else if ¬ v.kind=2/\¬ v.kind=3/\¬ v.n=0/\(¬ v.kind=1∨¬ v.n=1) then 1
 else if v.n < -1152921504606846976 then 2 else if 1152921504606846976 < v.n then 2
 else if ¬ v.kind=4/\¬ v.kind=5 then 0
 else if v.kind=5 then (if 32 < v.s.size then 2 else if v.s=qH then 3 else if v.s.data.toList.all (xu 33)=true then 0 else 3)
 else if 64 < v.s.size then 2 else if v.s.data.toList.all (xu 32)=true then 0 else 3
abbrev vTy (k:Int) (u:List Fac) (of:Str):V:=.agg [vint k,qN u,vstr of]
def JC (u:List Fac):Bool:=u.all fun f=>zG f.name
def kj (k:Int) (u:List Fac) (of:Str):Int :=
 if k < 1 then 3 else if 5 < k then 3 else if 0 < u.length/\¬ (k=2∨k=3) then 3
 else if k=5 then (if of=qH then 3 else if zG of=false then 3 else if ¬ kJ u=0 then 70 else if JC u=false then 70 else 0)
 else if ¬ of=qH then 3 else if ¬ kJ u=0 then 70 else if JC u=false then 70 else 0
theorem jX {u:List Fac} (h:kJ u=0):u.length<=4:=by
 unfold kJ at h;omega
theorem qm7 (a b:Int):IntKind.i64.wrap (IntKind.i64.wrap a+IntKind.i64.wrap b)=IntKind.i64.wrap (a+b):=by
 simp only [IntKind.wrap_i64];omega
def big:Nat:=1099511627776
inductive uh:E->Prop
 | mk (h:Hd) (l:List E) (hu:h.unit.length<=big) (hl:l.length<=big) (hw:(-9223372036854775808<=h.val.n/\h.val.n < 9223372036854775808)/\-9223372036854775808<=h.param/\h.param < 9223372036854775808) (ha:∀ x ∈ l,uh x):uh (.mk h l)
theorem uh.unit {x:E} (h:uh x):x.hd.unit.length<=big:=by cases h;assumption
theorem uh.len {x:E} (h:uh x):x.args.length<=big:=by cases h;assumption
theorem uh.inw {x:E} (h:uh x):(-9223372036854775808<=x.hd.val.n/\x.hd.val.n < 9223372036854775808)/\-9223372036854775808<=x.hd.param/\x.hd.param < 9223372036854775808:=by cases h;assumption
theorem uh.args {x:E} (h:uh x):∀ y ∈ x.args,uh y:=by cases h;assumption
theorem qc0 (f g:Fac):(f=g)=(f.name=g.name/\f.exp=g.exp):=by cases f;cases g;simp
theorem jc:∀ l m:List E,sizeEs (l++m)=sizeEs l+sizeEs m
 | [],m=>by simp [sizeEs]
 | x::r,m=>by simp only [List.cons_append,sizeEs,jc r m];omega
theorem vP:∀ l m:List E,depthEs (l++m)=max (depthEs l) (depthEs m)
 | [],m=>by rfl
 | x::r,m=>by simp only [List.cons_append,depthEs,vP r m];omega
theorem qla (a b:Hd):(a=b)=(a.kind=b.kind/\a.op=b.op/\a.name=b.name/\a.table=b.table/\(a.val.kind=b.val.kind/\a.val.n=b.val.n/\a.val.s=b.val.s)/\a.unit=b.unit/\a.param=b.param/\a.wk=b.wk/\a.ws=b.ws):=by
 cases a with | mk _ _ _ _ d _ _ _ _=>cases b with | mk _ _ _ _ e _ _ _ _=>cases d;cases e;simp
theorem qut (a b:Val):(decide (a.kind=b.kind) && (decide (a.n=b.n) && decide (a.s=b.s)))=decide (a=b):=by
 cases a;cases b;simp
theorem quk (a b:Hd):(decide (a.wk=b.wk) && decide (a.ws=b.ws))=decide (a.wk=b.wk/\a.ws=b.ws):=by
 simp
abbrev JD:List Str:=[⟨#[99,111,117,110,116]⟩,⟨#[115,117,109]⟩,⟨#[109,101,97,110]⟩,⟨#[109,105,110]⟩,⟨#[109,97,120]⟩,⟨#[102,105,114,115,116]⟩,⟨#[108,97,115,116]⟩,⟨#[100,105,115,116,105,110,99,116]⟩,⟨#[113,117,97,110,116,105,108,101]⟩,⟨#[100,101,99,97,121]⟩]
abbrev unL:List Str:=[⟨#[45]⟩,⟨#[110,111,116]⟩,⟨#[110,117,108,108]⟩]
abbrev qzm:List Str:=[⟨#[43]⟩,⟨#[45]⟩,⟨#[42]⟩,⟨#[47]⟩,⟨#[61,61]⟩,⟨#[33,61]⟩,⟨#[60]⟩,⟨#[60,61]⟩,⟨#[97,110,100]⟩,⟨#[111,114]⟩]
abbrev vy:Str:=⟨#[113,117,97,110,116,105,108,101]⟩
abbrev yM:Str:=⟨#[100,101,99,97,121]⟩
abbrev qb3:Str:=⟨#[99,111,117,110,116]⟩
def VY (op:Str):Int:=if op=vy then 1 else if op=yM then 1 else 0
def hiP (op:Str):Int:=if op=vy then 1000 else if op=yM then 1073741824 else 0
def xx (wk ws:Int):Bool:=if wk < 1 then false else if 4 < wk then false else if ¬ (wk=1↔ws=0) then false else if ws < 0 then false else if 1099511627776 < ws then false else true
def wZ (h:Hd):Bool:=if uY JD h.op=false then false else if zG h.table=false then false else if h.param < VY h.op then false else if hiP h.op < h.param then false else xx h.wk h.ws
def za (h:Hd) (ins:Bool):Bool :=
 if h.kind=1 then (if ¬ wQ h.val=0 then false else if h.val.n < 0 then false else decide (kj h.val.kind h.unit h.name=0))
 else if h.kind=2 then (if ins=true then zG h.name else false)
 else if h.kind=3 then (if ins=true then false else zG h.name)
 else if h.kind=4 then (if ins=true then false else zG h.name)
 else if h.kind=5 then (if ins=true then false else wZ h)
 else if h.kind=6 then uY unL h.op
 else if h.kind=7 then uY qzm h.op
 else if h.kind=8 then true
 else decide (h.kind=9)
def zZ (h:Hd):Hd :=
 if h.kind=1 then { vb 1 with val:=h.val,unit:=h.unit,name:=h.name }
 else if h.kind=2 then { vb 2 with name:=h.name } else if h.kind=3 then { vb 3 with name:=h.name } else if h.kind=4 then { vb 4 with name:=h.name }
 else if h.kind=5 then { vb 5 with op:=h.op,table:=h.table,param:=h.param,wk:=h.wk,ws:=h.ws }
 else if h.kind=6 then { vb 6 with op:=h.op } else if h.kind=7 then { vb 7 with op:=h.op } else vb h.kind
def kD (k:Int):Int:=if k=4 then 1 else if k=5 then 2 else if k=6 then 1 else if k=7 then 2 else if k=8 then 3 else if k=9 then 2 else 0
abbrev Wr:Hd:={ vb 1 with val:=⟨1,1,qH⟩ }
def jo (h:Hd) (l:List E):Bool:=if h.op=qb3 then (if h.kind=5 then (match l with | []=>false | x::_=>decide (x.hd=Wr)) else true) else true
mutual
def zX:E->Bool->Bool
 | .mk h l,ins=>za h ins && decide (h=zZ h) && decide ((l.length:Int)=kD h.kind) && properEs l (ins || decide (h.kind=5)) && jo h l
def properEs:List E->Bool->Bool
 | [],_=>true
 | x::r,ins=>zX x ins && properEs r ins
end
theorem Qn (h:Hd) (l:List E) (ins:Bool):zX (.mk h l) ins=(za h ins && decide (h=zZ h) && decide ((l.length:Int)=kD h.kind) && properEs l (ins || decide (h.kind=5)) && jo h l):=by rfl
theorem jl:∀ (l m:List E) (ins:Bool),properEs (l++m) ins=(properEs l ins && properEs m ins)
 | [],m,ins=>by rfl
 | x::r,m,ins=>by simp only [List.cons_append,properEs,jl r m,qRj]
theorem yY:∀ (l:List E) (ins:Bool),properEs l ins=true↔∀ x ∈ l,zX x ins=true
 | [],ins=>by simp [properEs]
 | x::r,ins=>by simp only [properEs,k7,yY r ins,xb,forall_eq_or_imp]
abbrev cHu (h:Hd) (u a:V):List V:=[vint h.kind,vstr h.op,vstr h.name,vstr h.table,vint h.val.kind,vint h.val.n,vstr h.val.s,u,vint h.param,vint h.wk,vint h.ws,a]
theorem wc {l d:List V} (h:yf l d):Le (.agg l) (.agg d):=by
 intro w I x a;simp only [V.rep] at a ⊢;obtain⟨k,e,j⟩:=a;exact⟨k,e,h.reps j⟩
theorem qLn {h:Hd} {u:V} (hu:Le u (qN h.unit)):Le (.agg (cHu h u nilS)) (.agg (cH h (kI []))) :=
 wc (.c1 (.c1 (.c1 (.c1 (.c1 (.c1 (.c1 (.cons hu (.c1 (.c1 (.c1 (.cons (Le.nil 12) .nil))))))))))))
def wx (x:E):Int:=if 64 < IntKind.i64.wrap (kY x) then 2 else if 12 < zV x then 2 else if zX x false=true then 0 else 3
theorem qNl:uh exp0:=.mk _ _ (by simp) (by simp) (by decide) (fun x a=>by cases a)
theorem qwy (k:Int):kD k<=3:=by
 unfold kD;omega
theorem yX {h:Hd} {l:List E} {ins:Bool} (a:zX (.mk h l) ins=true):za h ins=true/\h=zZ h/\(l.length:Int)=kD h.kind/\(∀ x ∈ l,zX x (ins || decide (h.kind=5))=true)/\jo h l=true:=by
 rw [Qn] at a;simp only [k7,decide_eq_true_eq] at a;exact⟨a.1.1.1.1,a.1.1.1.2,a.1.1.2,(yY l _).1 a.1.2,a.2⟩
theorem qpw (m:Nat) (d:1<=m):∀ l:List E,l.length<=3->(∀ x ∈ l,2 * kY x+1<=m)->2 * (1+sizeEs l)+1<=3 * m
 | [],_,_=>by simp only [sizeEs];omega
 | [a],_,h=>by have:=h a (by simp);simp only [sizeEs];omega
 | [a,b],_,h=>by have:=h a (by simp);have:=h b (by simp);simp only [sizeEs];omega
 | [a,b,c],_,h=>by have:=h a (by simp);have:=h b (by simp);have:=h c (by simp);simp only [sizeEs];omega
 | _::_::_::_::_,h,_=>by simp at h
theorem qe8:∀ (x:E) (ins:Bool),zX x ins=true->2 * kY x+1<=3 ^ zV x:=by
 intro x
 induction x using E.ind with
 | h hd l k =>
 intro ins j;obtain⟨_,_,n,d,_⟩:=yX j;have e:l.length<=3:=by have:=qwy hd.kind;omega
 have:=qpw (3 ^ depthEs l) (Nat.pos_of_ne_zero (by simp)) l e fun x a=>km (k x a _ (d x a)) (qNr (by decide) (uy a));rw [uO,vp,Nat.pow_succ];omega
theorem WU {x:E} (h:wx x=0):kY x<=64/\zV x<=12/\zX x false=true:=by
 unfold wx at h;split at h
 ·cases h
 ·rename_i d;split at h
  ·cases h
  ·rename_i j;split at h
   ·rename_i a;have k:=qe8 x false a;have e:3 ^ zV x<=3 ^ 12:=qNr (by decide) (by omega);rw [show (3:Nat) ^ 12=531441 by decide] at e;rw [qv (by omega) (by omega)] at d;exact⟨by omega,by omega,a⟩
   omega
theorem jf {l d:List V} (h:yf l d):Le (.tup l) (.tup d):=by
 intro w I x a;simp only [V.rep] at a ⊢;obtain⟨k,e,j⟩:=a;exact⟨k,e,h.reps j⟩
theorem Ok.norows' {P f args bs0 Q Q'} (h:Ok P f args bs0 Q) (J:∀ v k rs,Q v k rs->∃ p a d,Le v p/\a.Sublist k/\d.Sublist rs/\Q' p a d):Ok P f args bs0 Q':=by
 intro w I R K u;refine(h w I R K u).mono fun e O ⟨x,v,a,d,j,C,L,F,D,H,y⟩=>?_;obtain⟨N,q,M,G,n,o,z⟩:=J _ _ _ y;exact⟨x,N,q,M,j,C,G O j x L,F,D.sub n o,fun b A=>H b ((qMs (n.map _) (o.filterMap _)).subset A),z⟩
theorem leE {h:Hd} {u a:V} {l:List E} (hu:Le u (qN h.unit)) (d:Le a (kI l)):Le (.agg [vint h.kind,vstr h.op,vstr h.name,vstr h.table,vint h.val.kind,vint h.val.n,vstr h.val.s,u,vint h.param,vint h.wk,vint h.ws,a]) (vE (.mk h l)):=by
 rw [vE,wI];exact wc (.c1 (.c1 (.c1 (.c1 (.c1 (.c1 (.c1 (.cons hu (.c1 (.c1 (.c1 (.cons d .nil))))))))))))
end Go.Proofs.YtkdgbjhbpbgdeaaGreatDoor
namespace Go.Lo
def qqj:List (List UInt8)->List UInt8
 | []=>[]
 | w::r=>w++32::qqj r
theorem qIc {s w:List UInt8} (e:(32:UInt8) ∉ s) (j:(32:UInt8) ∉ w):∀ {a b:List UInt8},s++32::a=w++32::b->s=w:=by
 induction s generalizing w with
 | nil =>
  intro a b h;cases w with
  | nil=>rfl
  | cons c r =>
   simp_all
 | cons c r k =>
  intro a b h;cases w with
  | nil =>
   simp_all
  | cons d t =>
   simp only [List.cons_append,qKi] at h;rw [h.1,k (fun h=>e (z8 _ h)) (fun h=>j (z8 _ h)) h.2]
theorem qan {x:UInt8} {l:List UInt8}:∀ {w r:List UInt8},x ∉ w->(x::l) <:+: w++r->(x::l) <:+: r
 | [],r,_,h=>h
 | c::w,r,hx,h=>by
  rw [qMr,qR4] at h;rcases h with h | h
  ·simp_all
  ·exact qan (fun h=>hx (z8 _ h)) h
theorem qno {s:List UInt8} (d:(32:UInt8) ∉ s):∀ {ws:List (List UInt8)},(∀ w ∈ ws,(32:UInt8) ∉ w)->((32::(s++[32])) <:+: (32::qqj ws)↔s ∈ ws)
 | [],_=>by
  constructor
  ·intro h;have:=h.length_le;simp [qqj] at this
  simp
 | w::ws,hw=>by
  have e:=hw w x6;have k:=qno d (ws:=ws) fun x j=>hw x (z8 _ j);rw [qR4,qqj,xb,<-k];constructor
  ·rintro(h | h)
   ·rw [List.cons_prefix_cons] at h;obtain⟨t,n⟩:=h.2;refine .inl (qIc d e (a:=t) (b:=qqj ws) ?_);simp_all
   ·exact .inr (qan e h)
  ·rintro(rfl | h)
   ·simp
   ·refine .inr (h.trans (List.suffix_append _ _).isInfix)
theorem QB (s sub:List UInt8):Lib.contains s sub=true↔sub <:+: s:=by
 unfold Lib.contains;rw [decide_eq_true_iff];constructor
 ·intro h;rcases Lib.index_spec s sub with⟨d,_⟩ | ⟨i,d,e,j,_⟩
  ·omega
  ·unfold Lib.occAt at j;exact(qRc.1 j).isInfix.trans (List.drop_suffix i s).isInfix
 ·rintro⟨a,b,h⟩;rcases Lib.index_spec s sub with⟨d,e⟩ | ⟨i,d,_⟩
  ·have:=e a.length (by rw [<-h];simp);unfold Lib.occAt at this;rw [<-h,jm,List.drop_left] at this;rw [qRc.2 (List.prefix_append _ _)] at this;cases this
  omega
abbrev kwS:List Str:=[⟨#[116,97,98,108,101]⟩,⟨#[102,101,97,116,117,114,101]⟩,⟨#[111,102]⟩,⟨#[107,101,101,112]⟩,⟨#[98,111,111,108]⟩,⟨#[116,101,120,116]⟩,⟨#[107,101,121]⟩,⟨#[105,110,116]⟩,⟨#[100,101,99]⟩,⟨#[105,102]⟩,⟨#[116,104,101,110]⟩,⟨#[101,108,115,101]⟩,⟨#[100,101,102,97,117,108,116]⟩,⟨#[111,114]⟩,⟨#[97,110,100]⟩,⟨#[110,111,116]⟩,⟨#[116,114,117,101]⟩,⟨#[102,97,108,115,101]⟩,⟨#[110,117,108,108]⟩,⟨#[99,111,117,110,116]⟩,⟨#[115,117,109]⟩,⟨#[109,101,97,110]⟩,⟨#[109,105,110]⟩,⟨#[109,97,120]⟩,⟨#[102,105,114,115,116]⟩,⟨#[108,97,115,116]⟩,⟨#[100,105,115,116,105,110,99,116]⟩,⟨#[113,117,97,110,116,105,108,101]⟩,⟨#[100,101,99,97,121]⟩,⟨#[97,108,108]⟩,⟨#[115,108,105,100,105,110,103]⟩,⟨#[116,117,109,98,108,105,110,103]⟩,⟨#[115,101,115,115,105,111,110]⟩,⟨#[119,104,101,114,101]⟩]
def kwL:List (List UInt8):=kwS.map fun w=>w.data.toList
def kwB (s:Str):Bool:=kwS.any fun w=>decide (s=w)
theorem zj {s:Str}:kwB s=true↔s ∈ kwS:=by
 unfold kwB;simp
theorem qG2 {s:Str} (h:s ∉ kwS):kwB s=false:=by
 cases e:kwB s
 ·rfl
 ·exact absurd (zj.1 e) h
end Go.Lo
namespace Go.Proofs.YtkdgbjhbpbgdeaaGreatDoor
theorem qik:qui=32::qqj kwL:=by exact qD
theorem qG1:∀ w ∈ kwL,(32:UInt8) ∉ w:=by decide
theorem qnf {s t:Str} (h:s.data.toList=t.data.toList):s=t:=by
 cases s;simp_all
theorem qnt {s:Str}:s.data.toList ∈ kwL↔s ∈ kwS:=by
 unfold kwL;rw [x9];exact⟨fun⟨t,h,e⟩=>by rw [<-qnf e];exact h,fun h=>⟨s,h,rfl⟩⟩
theorem qxi (s:Str):qfz s=kwB s:=by
 unfold qfz;split
 ·rename_i h;rw [h];rfl
 ·split
  ·rename_i h;refine(qG2 fun d=>?_).symm;have j:=qG1 _ (qnt.2 d);obtain⟨a,b,e⟩:=(QB _ _).1 h;exact j (by rw [<-e];simp)
  ·rename_i h;have k:(32:UInt8) ∉ s.data.toList:=fun d=>h ((QB _ _).2 (by obtain⟨a,b,e⟩:=qQp d;exact⟨a,b,by simp_all⟩));rw [qOg,QB,qik,qno k qG1,qnt,zj]
theorem qfy (s:Str):zk prog 160 [vstr s] (qq (kwB s)):=by
 refine oE func160 fun F w0 Y=>?_;refine qa ?_;apply qf <;> intro a
 ·refine qa ?_;have e:s=kwS[0]'(by decide):=of_decide_eq_true a;have m:s ∈ kwS:=by rw [e];exact zs _
  exact qc (qQ (zj.2 m).symm)
 refine qa ?_;apply qf <;> intro d
 ·refine qa ?_;have e:s=kwS[1]'(by decide):=of_decide_eq_true d;have m:s ∈ kwS:=by rw [e];exact zs _
  exact qc (qQ (zj.2 m).symm)
 refine qa ?_;apply qf <;> intro y
 ·refine qa ?_;have e:s=kwS[2]'(by decide):=of_decide_eq_true y;have m:s ∈ kwS:=by rw [e];exact zs _
  exact qc (qQ (zj.2 m).symm)
 refine qa ?_;apply qf <;> intro M
 ·refine qa ?_;have e:s=kwS[3]'(by decide):=of_decide_eq_true M;have m:s ∈ kwS:=by rw [e];exact zs _
  exact qc (qQ (zj.2 m).symm)
 refine qa ?_;apply qf <;> intro R
 ·refine qa ?_;have e:s=kwS[4]'(by decide):=of_decide_eq_true R;have m:s ∈ kwS:=by rw [e];exact zs _
  exact qc (qQ (zj.2 m).symm)
 refine qa ?_;apply qf <;> intro S
 ·refine qa ?_;have e:s=kwS[5]'(by decide):=of_decide_eq_true S;have m:s ∈ kwS:=by rw [e];exact zs _
  exact qc (qQ (zj.2 m).symm)
 refine qa ?_;apply qf <;> intro T
 ·refine qa ?_;have e:s=kwS[6]'(by decide):=of_decide_eq_true T;have m:s ∈ kwS:=by rw [e];exact zs _
  exact qc (qQ (zj.2 m).symm)
 refine qa ?_;apply qf <;> intro U
 ·refine qa ?_;have e:s=kwS[7]'(by decide):=of_decide_eq_true U;have m:s ∈ kwS:=by rw [e];exact zs _
  exact qc (qQ (zj.2 m).symm)
 refine qa ?_;apply qf <;> intro W
 ·refine qa ?_;have e:s=kwS[8]'(by decide):=of_decide_eq_true W;have m:s ∈ kwS:=by rw [e];exact zs _
  exact qc (qQ (zj.2 m).symm)
 refine qa ?_;apply qf <;> intro X
 ·refine qa ?_;have e:s=kwS[9]'(by decide):=of_decide_eq_true X;have m:s ∈ kwS:=by rw [e];exact zs _
  exact qc (qQ (zj.2 m).symm)
 refine qa ?_;apply qf <;> intro h
 ·refine qa ?_;have e:s=kwS[10]'(by decide):=of_decide_eq_true h;have m:s ∈ kwS:=by rw [e];exact zs _
  exact qc (qQ (zj.2 m).symm)
 refine qa ?_;apply qf <;> intro j
 ·refine qa ?_;have e:s=kwS[11]'(by decide):=of_decide_eq_true j;have m:s ∈ kwS:=by rw [e];exact zs _
  exact qc (qQ (zj.2 m).symm)
 refine qa ?_;apply qf <;> intro k
 ·refine qa ?_;have e:s=kwS[12]'(by decide):=of_decide_eq_true k;have m:s ∈ kwS:=by rw [e];exact zs _
  exact qc (qQ (zj.2 m).symm)
 refine qa ?_;apply qf <;> intro n
 ·refine qa ?_;have e:s=kwS[13]'(by decide):=of_decide_eq_true n;have m:s ∈ kwS:=by rw [e];exact zs _
  exact qc (qQ (zj.2 m).symm)
 refine qa ?_;apply qf <;> intro o
 ·refine qa ?_;have e:s=kwS[14]'(by decide):=of_decide_eq_true o;have m:s ∈ kwS:=by rw [e];exact zs _
  exact qc (qQ (zj.2 m).symm)
 refine qa ?_;apply qf <;> intro p
 ·refine qa ?_;have e:s=kwS[15]'(by decide):=of_decide_eq_true p;have m:s ∈ kwS:=by rw [e];exact zs _
  exact qc (qQ (zj.2 m).symm)
 refine qa ?_;apply qf <;> intro q
 ·refine qa ?_;have e:s=kwS[16]'(by decide):=of_decide_eq_true q;have m:s ∈ kwS:=by rw [e];exact zs _
  exact qc (qQ (zj.2 m).symm)
 refine qa ?_;apply qf <;> intro u
 ·refine qa ?_;have e:s=kwS[17]'(by decide):=of_decide_eq_true u;have m:s ∈ kwS:=by rw [e];exact zs _
  exact qc (qQ (zj.2 m).symm)
 refine qa ?_;apply qf <;> intro w
 ·refine qa ?_;have e:s=kwS[18]'(by decide):=of_decide_eq_true w;have m:s ∈ kwS:=by rw [e];exact zs _
  exact qc (qQ (zj.2 m).symm)
 refine qa ?_;apply qf <;> intro x
 ·refine qa ?_;have e:s=kwS[19]'(by decide):=of_decide_eq_true x;have m:s ∈ kwS:=by rw [e];exact zs _
  exact qc (qQ (zj.2 m).symm)
 refine qa ?_;apply qf <;> intro z
 ·refine qa ?_;have e:s=kwS[20]'(by decide):=of_decide_eq_true z;have m:s ∈ kwS:=by rw [e];exact zs _
  exact qc (qQ (zj.2 m).symm)
 refine qa ?_;apply qf <;> intro A
 ·refine qa ?_;have e:s=kwS[21]'(by decide):=of_decide_eq_true A;have m:s ∈ kwS:=by rw [e];exact zs _
  exact qc (qQ (zj.2 m).symm)
 refine qa ?_;apply qf <;> intro C
 ·refine qa ?_;have e:s=kwS[22]'(by decide):=of_decide_eq_true C;have m:s ∈ kwS:=by rw [e];exact zs _
  exact qc (qQ (zj.2 m).symm)
 refine qa ?_;apply qf <;> intro D
 ·refine qa ?_;have e:s=kwS[23]'(by decide):=of_decide_eq_true D;have m:s ∈ kwS:=by rw [e];exact zs _
  exact qc (qQ (zj.2 m).symm)
 refine qa ?_;apply qf <;> intro G
 ·refine qa ?_;have e:s=kwS[24]'(by decide):=of_decide_eq_true G;have m:s ∈ kwS:=by rw [e];exact zs _
  exact qc (qQ (zj.2 m).symm)
 refine qa ?_;apply qf <;> intro H
 ·refine qa ?_;have e:s=kwS[25]'(by decide):=of_decide_eq_true H;have m:s ∈ kwS:=by rw [e];exact zs _
  exact qc (qQ (zj.2 m).symm)
 refine qa ?_;apply qf <;> intro I
 ·refine qa ?_;have e:s=kwS[26]'(by decide):=of_decide_eq_true I;have m:s ∈ kwS:=by rw [e];exact zs _
  exact qc (qQ (zj.2 m).symm)
 refine qa ?_;apply qf <;> intro J
 ·refine qa ?_;have e:s=kwS[27]'(by decide):=of_decide_eq_true J;have m:s ∈ kwS:=by rw [e];exact zs _
  exact qc (qQ (zj.2 m).symm)
 refine qa ?_;apply qf <;> intro K
 ·refine qa ?_;have e:s=kwS[28]'(by decide):=of_decide_eq_true K;have m:s ∈ kwS:=by rw [e];exact zs _
  exact qc (qQ (zj.2 m).symm)
 refine qa ?_;apply qf <;> intro L
 ·refine qa ?_;have e:s=kwS[29]'(by decide):=of_decide_eq_true L;have m:s ∈ kwS:=by rw [e];exact zs _
  exact qc (qQ (zj.2 m).symm)
 refine qa ?_;apply qf <;> intro N
 ·refine qa ?_;have e:s=kwS[30]'(by decide):=of_decide_eq_true N;have m:s ∈ kwS:=by rw [e];exact zs _
  exact qc (qQ (zj.2 m).symm)
 refine qa ?_;apply qf <;> intro O
 ·refine qa ?_;have e:s=kwS[31]'(by decide):=of_decide_eq_true O;have m:s ∈ kwS:=by rw [e];exact zs _
  exact qc (qQ (zj.2 m).symm)
 refine qa ?_;apply qf <;> intro P
 ·refine qa ?_;have e:s=kwS[32]'(by decide):=of_decide_eq_true P;have m:s ∈ kwS:=by rw [e];exact zs _
  exact qc (qQ (zj.2 m).symm)
 refine qa ?_;apply qf <;> intro Q
 ·refine qa ?_;have e:s=kwS[33]'(by decide):=of_decide_eq_true Q;have m:s ∈ kwS:=by rw [e];exact zs _
  exact qc (qQ (zj.2 m).symm)
 refine qa ?_;refine qc (qQ (qG2 fun Z=>?_).symm);simp_all
def qcm (c:UInt8):Bool:=decide ((97:Int)<=c.toNat) && decide ((c.toNat:Int)<=122)
def qsm (c:UInt8):Bool:=decide ((48:Int)<=c.toNat) && decide ((c.toNat:Int)<=57)
theorem qai (c:UInt8):zk prog 241 [.lit (.int .u8 c.toNat)] (qq (qcm c)):=by
 refine oE func241 fun F d a=>?_;by_cases e:(97:Int)<=c.toNat
 ·exact qe (h:=by simp [qcm,e])
 ·exact qe (h:=by simp [qcm,e])
theorem qyt (c:UInt8):zk prog 242 [.lit (.int .u8 c.toNat)] (qq (qsm c)):=by
 refine oE func242 fun F d a=>?_;by_cases e:(48:Int)<=c.toNat
 ·exact qe (h:=by simp [qsm,e])
 ·exact qe (h:=by simp [qsm,e])
theorem qfn (i:Nat) (c:UInt8) (a:0 < i):Zk i c=(qcm c || qsm c || decide ((c.toNat:Int)=95)):=by
 simp only [Zk,qcm,qsm,a,decide_true,qOa,Bool.or_assoc]
theorem qj9 (c:UInt8):Zk 0 c=qcm c:=by simp [Zk,qcm]
theorem quj (s:Str) (K:0 < s.size) (P:s.size<=24):Ok prog 159 [.list none 1 (vW s),vint 0] [] fun v J rs=>(∃ k:Nat,v=vint k/\((k:Int)=s.size↔uq 0 s.data.toList=true))/\J=[]/\rs=[]:=by
 have j:s.data.toList.length=s.size:=by simp
 have L:(0:Int) < s.size:=by omega
 have A:0 < s.data.toList.length:=by omega
 have I:=Qp A;have M:=Xw A;rw [qj9] at I M;refine oE func159 fun F o O=>?_;simp only [↓rA,rB,zz,j,L,qI _ _ _ A,tU,simprocAttr];refine qo _ (qai _) ?_;cases N:qcm s.data.toList[0]
 ·refine qa ?_;exact r0 ⟨⟨0,rfl,⟨fun h=>by omega,fun h=>by simp_all⟩⟩,rfl,rfl⟩
 ·refine qa ?_;refine jR Ty.mixed (by rfl) (fun n:Nat=>s.size - n) (fun n S=>1<=n/\n<=s.size/\uq 0 (s.data.toList.take n)=true/\S.boxes=[]/\S.rows=[]/\S.σ 0=.list none 1 (vW s)/\S.σ 1=vint 0/\S.σ 5=vint n) 1 ⟨0,?_⟩ (fun n S ⟨Q,R,H,C,z,q,u,w⟩=>?_)
  ·simp only [rB,simprocAttr];exact⟨K,by rw [I,N];rfl⟩
  ·have o:IntKind.i64.wrap (0+(n:Int))=(n:Int):=by rw [Int.zero_add];exact qv (by omega) (by omega)
   by_cases a:n < s.size
   ·have d:n < s.data.toList.length:=by omega
    have x:=Qp d;have D:=Xw d;rw [qfn _ _ (by omega)] at x D;have T:=qj a;simp only [↓rA,rB,Nat.reduceEqDiff,reduceCtorEq,C,q,u,w,zz,j,zq,a,o,qI _ _ _ d,tU,Nat.reduceShiftRight,Nat.reduceMod];refine qo _ (qai _) ?_;cases p:qcm s.data.toList[n]
    ·simp only [↓rA,rB,Nat.reduceEqDiff,reduceCtorEq,z,q,u,w,zz,j,zq,a,o,qI _ _ _ d,tU,Nat.reduceShiftRight,Nat.reduceMod];refine qo _ (qyt _) ?_;cases y:qsm s.data.toList[n]
     ·simp only [↓rA,rB,Nat.reduceEqDiff,reduceCtorEq,z,q,u,w,zz,j,zq,a,o,qI _ _ _ d,tU,Nat.reduceShiftRight,Nat.reduceMod];apply qf <;> intro G
      ·refine qa ?_;rw [p,y,G] at x;exact⟨n+1,by omega,0,by omega,by omega,by simp_all,rfl⟩
      ·refine qa ?_;rw [p,y,G] at D;exact r0 ⟨⟨n,rfl,⟨fun h=>by omega,fun h=>by simp_all⟩⟩,rfl,rfl⟩
     ·refine qa ?_;rw [p,y] at x;exact⟨n+1,by omega,0,by omega,by omega,by simp_all,rfl⟩
    ·refine qa ?_;rw [p] at x;exact⟨n+1,by omega,0,by omega,by omega,by simp_all,rfl⟩
   ·have e:n=s.size:=by omega
    simp only [↓rA,rU,C,z,q,u,w,j,zq,a,o,simprocAttr];rw [xa (by omega)] at H;exact r0 ⟨⟨n,rfl,⟨fun _=>H,fun _=>by omega⟩⟩,rfl,rfl⟩
theorem zU (s:Str):zk prog 96 [vstr s] (qq (zG s)):=by
 refine oE func96 fun F y u=>?_;by_cases a:s=qH
 ·subst a;exact qe (h:=qQ (by rfl))
 by_cases d:24 < s.size
 ·have n:¬ (s.size:Int)<=24:=by omega
  exact qe (h:=qQ (by rw [zG,if_neg a,if_pos d]))
 have n:(s.size:Int)<=24:=by omega
 have q:0 < s.size:=Nat.pos_of_ne_zero fun h=>a (qnf (by
  simp_all))
 refine qa ?_;refine qr [] [] (zp _) (quj s q (by omega)) ?_;rintro v w x ⟨⟨k,rfl,p⟩,rfl,rfl⟩;have j:=qfy s;rw [<-qxi] at j;by_cases e:(k:Int)=s.size
 ·refine qi _ j ?_;cases o:qfz s
  ·exact qe (h:=qQ (by rw [zG,if_neg a,if_neg d,if_neg (by simp_all),p.1 e]))
  ·exact qe (h:=qQ (by rw [zG,if_neg a,if_neg d,if_pos o]))
 ·simp only [↓rA,rU,e,simprocAttr];refine qc (qQ ?_);rw [zG,if_neg a,if_neg d];simp_all
theorem Yy (s:Str) (C:s.size<=64):zk prog 256 [vstr s,.lit (.int .u8 32)] (qq (s.data.toList.all (xu 32))):=by
 refine oE func256 fun F D A=>?_;refine qa ?_;refine qG Ty.mixed (by rfl) s.size (fun i S=>(s.data.toList.take i).all (xu 32)=true/\S.boxes=[]/\S.rows=[]/\S.σ 0=vstr s/\S.σ 1=.lit (.int .u8 32)/\S.σ 5=vint i) ⟨0,?_⟩ (fun i S d ⟨q,k,n,e,h,j⟩=>?_) (fun S ⟨q,k,n,e,h,j⟩=>?_)
 ·exact qD
 ·have x:i < s.data.toList.length:=by simpa using d
  have y:=yH (p:=xu 32) x;have o:=yI (p:=xu 32) x;rw [<-vK s i d] at y o;generalize w:s.data.toList.getD i 0=c at y o;have z:=qj d;have a:(c.toNat:Int) < 32∨(¬ (c.toNat:Int) < 32/\(126:Int) < c.toNat)∨(¬ (c.toNat:Int) < 32/\¬ (126:Int) < c.toNat/\(c.toNat:Int)=34)∨(¬ (c.toNat:Int) < 32/\¬ (126:Int) < c.toNat/\¬ (c.toNat:Int)=34/\(c.toNat:Int)=92)∨(¬ (c.toNat:Int) < 32/\¬ (126:Int) < c.toNat/\¬ (c.toNat:Int)=34/\¬ (c.toNat:Int)=92):=by omega
  rcases a with a | a | a | a | a <;>
  first
  | (
    have u:xu 32 c=false:=by simp [xu,a]
    simp only [↓rA,rU,k,n,e,h,j,zq,d,w,a,simprocAttr];exact qc (qQ (by rw [o u])))
  | (
    have u:xu 32 c=true:=by simp [xu,a]
    simp only [↓rA,rU,k,n,e,h,j,zq,d,w,a,z,simprocAttr];simp_all)
 ·refine qn ?_;rw [xa (by simp)] at q;exact qc (qQ q.symm)
theorem Yx (s:Str) (C:s.size<=64):zk prog 256 [vstr s,.lit (.int .u8 33)] (qq (s.data.toList.all (xu 33))):=by
 refine oE func256 fun F D A=>?_;refine qa ?_;refine qG Ty.mixed (by rfl) s.size (fun i S=>(s.data.toList.take i).all (xu 33)=true/\S.boxes=[]/\S.rows=[]/\S.σ 0=vstr s/\S.σ 1=.lit (.int .u8 33)/\S.σ 5=vint i) ⟨0,?_⟩ (fun i S d ⟨q,k,n,e,h,j⟩=>?_) (fun S ⟨q,k,n,e,h,j⟩=>?_)
 ·exact qD
 ·have x:i < s.data.toList.length:=by simpa using d
  have y:=yH (p:=xu 33) x;have o:=yI (p:=xu 33) x;rw [<-vK s i d] at y o;generalize w:s.data.toList.getD i 0=c at y o;have z:=qj d;have a:(c.toNat:Int) < 33∨(¬ (c.toNat:Int) < 33/\(126:Int) < c.toNat)∨(¬ (c.toNat:Int) < 33/\¬ (126:Int) < c.toNat/\(c.toNat:Int)=34)∨(¬ (c.toNat:Int) < 33/\¬ (126:Int) < c.toNat/\¬ (c.toNat:Int)=34/\(c.toNat:Int)=92)∨(¬ (c.toNat:Int) < 33/\¬ (126:Int) < c.toNat/\¬ (c.toNat:Int)=34/\¬ (c.toNat:Int)=92):=by omega
  rcases a with a | a | a | a | a <;>
  first
  | (
    have u:xu 33 c=false:=by simp [xu,a]
    simp only [↓rA,rU,k,n,e,h,j,zq,d,w,a,simprocAttr];exact qc (qQ (by rw [o u])))
  | (
    have u:xu 33 c=true:=by simp [xu,a]
    simp only [↓rA,rU,k,n,e,h,j,zq,d,w,a,z,simprocAttr];simp_all)
 ·refine qn ?_;rw [xa (by simp)] at q;exact qc (qQ q.symm)
theorem qBj (s:Str):zk prog 245 [vstr s] (qq (decide (s.size<=64) && s.data.toList.all (xu 32))):=by
 refine oE func245 fun F e d=>?_;by_cases h:s.size<=64
 ·have a:(s.size:Int)<=64:=by omega
  refine qi _ (Yy s h) ?_;exact qe (h:=qQ (by simp [h]))
 ·have a:¬ (s.size:Int)<=64:=by omega
  exact qe (h:=qQ (by simp [h]))
theorem qxc (s:Str):zk prog 187 [vstr s] (qq (!decide (s=qH) && (decide (s.size<=32) && s.data.toList.all (xu 33)))):=by
 refine oE func187 fun F j d=>?_;by_cases e:s=qH
 ·subst e;exact qe (h:=qQ (by simp))
 by_cases h:s.size<=32
 ·have a:(s.size:Int)<=32:=by omega
  refine qa ?_;refine qo _ (Yx s (by omega)) ?_;exact qe (h:=qQ (by simp_all))
 ·have a:¬ (s.size:Int)<=32:=by omega
  exact qe (h:=qQ (by simp [h]))
def qez (n:Int):Bool:=decide (-1152921504606846976<=n) && decide (n<=1152921504606846976)
theorem qk1 (n:Int):zk prog 244 [vint n] (qq (qez n)):=by
 refine oE func244 fun F d a=>?_;by_cases h:(-1152921504606846976:Int)<=n
 ·exact qe (h:=qQ (by simp [qez,h]))
 ·exact qe (h:=qQ (by simp [qez,h]))
def Y0 (v:Val):Bool :=
 if v.kind=0 then decide (v.n=0) && decide (v.s=qH) else if v.kind=1 then (decide (v.n=0) || decide (v.n=1)) && decide (v.s=qH)
 else if v.kind=2∨v.kind=3 then decide (v.s=qH) else if v.kind=4∨v.kind=5 then decide (v.n=0) else false
theorem qr7 (v:Val):zk prog 243 [.agg (qS v)] (qq (Y0 v)):=by
 obtain⟨k,n,s⟩:=v;refine oE func243 fun F z w=>?_;refine qb fun x y=>?_;by_cases a:k=0
 ·subst a;by_cases e:n=0
  ·exact qe (h:=qQ (by rfl))
  ·exact qe (h:=qQ (by simp [Y0,e]))
 by_cases d:k=1
 ·subst d;by_cases e:n=0
  ·exact qe (h:=qQ (by rfl))
  ·by_cases u:n=1
   ·exact qe (h:=qQ (by rfl))
   ·exact qe (h:=qQ (by simp [Y0,e,u]))
 by_cases j:k=2
 ·subst j;exact qe (h:=qQ (by rfl))
 by_cases o:k=3
 ·subst o;exact qe (h:=qQ (by rfl))
 by_cases p:k=4
 ·subst p;exact qe (h:=qQ (by rfl))
 by_cases q:k=5
 ·subst q;exact qe (h:=qQ (by rfl))
 exact qe (h:=qQ (by simp [Y0,a,d,j,o,p,q]))
theorem qHw {v:Val} (h:Y0 v=false):wQ v=1:=by
 unfold Y0 at h;unfold wQ;by_cases a:v.kind=0
 ·rw [if_pos a] at h;rw [if_neg (by omega),if_neg (by omega)];by_cases e:v.s=qH
  ·simp_all
  simp_all
 by_cases d:v.kind=1
 ·rw [if_neg a,if_pos d] at h;rw [if_neg (by omega),if_neg (by omega)];by_cases e:v.s=qH
  ·simp_all
  simp_all
 by_cases j:v.kind=2∨v.kind=3
 ·rw [if_neg a,if_neg d,if_pos j] at h;rw [if_neg (by omega),if_neg (by omega),if_pos ⟨by omega,by omega,of_decide_eq_false h⟩]
 by_cases k:v.kind=4∨v.kind=5
 ·simp_all
 omega
theorem qHv {v:Val} (h:Y0 v=true):wQ v=if qez v.n=false then 2 else if v.kind=4 then (if 64 < v.s.size then 2 else if v.s.data.toList.all (xu 32)=true then 0 else 3)
  else if v.kind=5 then (if 32 < v.s.size then 2 else if v.s=qH then 3 else if v.s.data.toList.all (xu 33)=true then 0 else 3) else 0:=by
 have k:qez v.n=false↔(v.n < -1152921504606846976∨1152921504606846976 < v.n):=by
  unfold qez;rw [Bool.and_eq_false_iff,decide_eq_false_iff_not,decide_eq_false_iff_not];omega
 have j:v.kind=0∨v.kind=1∨v.kind=2∨v.kind=3∨v.kind=4∨v.kind=5:=by
  unfold Y0 at h;by_cases a:v.kind=0
  ·omega
  by_cases b:v.kind=1
  ·omega
  rw [if_neg a,if_neg b] at h;by_cases c:v.kind=2∨v.kind=3
  ·omega
  by_cases d:v.kind=4∨v.kind=5
  ·omega
  rw [if_neg c,if_neg d] at h;cases h
 have o:¬ (¬ v.kind=4/\¬ v.kind=5/\¬ v.s=qH):=by
  rintro⟨a,b,c⟩;unfold Y0 at h;rw [decide_eq_false c] at h;rcases j with e | e | e | e | e | e <;> simp [e] at h a b
 have p:¬ (¬ v.kind=2/\¬ v.kind=3/\¬ v.n=0/\(¬ v.kind=1∨¬ v.n=1)):=by
  rintro⟨a,b,c,d⟩;unfold Y0 at h;rw [decide_eq_false c] at h;rcases j with e | e | e | e | e | e <;> simp [e] at h a b d
  exact d h.1
 unfold wQ;rw [if_neg (by omega),if_neg (by omega),if_neg o,if_neg p];by_cases r:qez v.n=false
 ·rw [if_pos r];rcases k.1 r with r | r
  ·omega
  omega
 ·have n:=fun h=>r (k.2 h);rw [if_neg r,if_neg (fun h=>n (.inl h)),if_neg (fun h=>n (.inr h))];omega
theorem qnc (v:Val):zk prog 162 [.agg (qS v)] (vint (wQ v)):=by
 have d:∀ {a b:Int},a=b->V.lit (.int .i64 a)=vint b:=fun h=>by rw [h]
 have p:=qr7 v;obtain⟨k,n,s⟩:=v;refine oE func162 fun F D x=>?_;refine qb fun y A=>?_;refine qi _ p ?_;cases e:Y0 ⟨k,n,s⟩
 ·exact qe (h:=d (qHw e).symm)
 rw [qHv e];refine qi _ (qk1 n) ?_;cases r:qez n
 ·exact qe
 by_cases u:k=4
 ·subst u;by_cases z:64 < s.size
  ·have j:(64:Int) < s.size:=by omega
   exact qe (h:=d (by omega))
  ·have j:¬ (64:Int) < s.size:=by omega
   simp only [↓rA,rB,j,tU,simprocAttr];refine qo _ (qBj s) ?_;have o:decide (s.size<=64)=true:=decide_eq_true (by omega);cases q:s.data.toList.all (xu 32)
   ·simp only [↓rA,rB,results162,o,simprocAttr];exact qc (d (by omega))
   ·simp only [↓rA,rB,results162,o,tU,simprocAttr];exact qc (d (by omega))
 by_cases w:k=5
 ·subst w;by_cases z:32 < s.size
  ·have j:(32:Int) < s.size:=by omega
   exact qe (h:=d (by omega))
  ·have j:¬ (32:Int) < s.size:=by omega
   simp only [↓rA,rB,j,tU,simprocAttr];refine qo _ (qxc s) ?_;have o:decide (s.size<=32)=true:=decide_eq_true (by omega);by_cases C:s=qH
   ·exact qe (h:=d (by rfl))
   cases q:s.data.toList.all (xu 33)
   ·exact qe (h:=d (by omega))
   ·exact qe (h:=d (by omega))
 exact qe (h:=d (by simp []))
theorem qyc (n:Int):zk prog 304 [vint n] (qq (Jp n 8)):=by
 refine oE func304 fun F d a=>?_;by_cases h:(8:Int) < n
 ·exact qe (h:=qQ (by simp [Jp,h]))
 ·exact qe (h:=qQ (by simp [Jp,h]))
theorem UG (s:Str):zk prog 303 [vstr s] (qq (jU s)):=by
 refine oE func303 fun F R H=>?_;by_cases a:s.size=0
 ·have w:(s.size:Int) < 1:=by omega
  exact qe (h:=qQ (by rw [jU,if_pos a]))
 have w:¬ (s.size:Int) < 1:=by omega
 have J:0 < s.size:=by omega
 have I:(0:Int) < s.size:=by omega
 by_cases d:24 < s.size
 ·have x:(24:Int) < s.size:=by omega
  exact qe (h:=qQ (by rw [jU,if_neg a,if_pos d]))
 have x:¬ (24:Int) < s.size:=by omega
 by_cases e:((s.data.toList.getD 0 0).toNat:Int) < 97
 ·exact qe (h:=qQ (by rw [jU,if_neg a,if_neg d,if_pos e]))
 by_cases k:(122:Int) < (s.data.toList.getD 0 0).toNat
 ·exact qe (h:=qQ (by rw [jU,if_neg a,if_neg d,if_neg e,if_pos k]))
 refine qa ?_;have L:jU s=s.data.toList.all wordC:=by rw [jU,if_neg a,if_neg d,if_neg e,if_neg k]
 refine qG Ty.mixed (by rfl) s.size (fun i S=>(s.data.toList.take i).all wordC=true/\S.boxes=[]/\S.rows=[]/\S.σ 0=vstr s/\S.σ 3=vint i) ⟨0,?_⟩ (fun i S j ⟨o,A,C,y,z⟩=>?_) (fun S ⟨o,A,C,y,z⟩=>?_)
 ·exact qD
 ·have q:i < s.data.toList.length:=by simpa using j
  have u:=yH (p:=wordC) q;have n:=yI (p:=wordC) q;rw [<-vK s i j] at u n;generalize K:s.data.toList.getD i 0=c at u n;have M:=qj j;by_cases N:(97:Int)<=c.toNat <;> by_cases O:(c.toNat:Int)<=122 <;> by_cases P:(48:Int)<=c.toNat <;> by_cases Q:(c.toNat:Int)<=57 <;> by_cases G:(c.toNat:Int)=95 <;>
  first
  | (exact absurd G (by omega))
  | (
    have D:wordC c=true:=by simp [wordC];omega
    refine qn ?_;simp_all)
  | (
    have D:wordC c=false:=by simp [wordC];omega
    refine qn ?_;exact qc (qQ (by simp_all)))
 ·refine qn ?_;rw [xa (by simp)] at o;exact qc (qQ (by simp_all))
theorem uL (u:List Fac):zk prog 247 [qN u] (vint (kJ u)):=by
 have k:∀ {a b:Int},a=b->V.lit (.int .i64 a)=vint b:=fun h=>by rw [h]
 refine oE func247 fun F P N=>?_;by_cases y:4 < u.length
 ·have z:(4:Int) < u.length:=by omega
  exact qe (h:=k (by rw [kJ,if_pos y]))
 have z:¬ (4:Int) < u.length:=by omega
 have hu:kJ u=QM none u:=by rw [kJ,if_neg y]
 simp only [↓rA,rU,z,simprocAttr];refine qG Ty.mixed (by kernel_rfl) u.length (fun i S=>QM (Xg u i) (u.drop i)=kJ u/\S.boxes=[]/\S.rows=[]/\S.σ 0=qN u/\S.σ 3=vint i) ⟨0,?_⟩ (fun i S q ⟨d,C,e,o,p⟩=>?_) (fun S ⟨d,C,e,o,p⟩=>?_)
 ·simp only [rU,simprocAttr];exact hu.symm
 ·have O:=qj q;rw [qGt q,QM] at d;have J:Xg u (i+1)=some u[i].name:=by simp [Xg,q]
  refine qn ?_;refine qo _ (UG _) ?_;cases G:jU u[i].name
  ·rw [if_pos G] at d;simp only [↓rA,rB,e];exact qc (k d)
  rw [if_neg (by simp_all)] at d;by_cases x:u[i].exp=0
  ·rw [if_pos x] at d;simp only [↓rA,rU,e,o,p,x,zq,q,simprocAttr];exact qc (k d)
  rw [if_neg x] at d;refine qn ?_;refine qo _ (qyc _) ?_;cases H:Jp u[i].exp 8
  ·rw [if_neg (by simp_all)] at d;cases i with
   | zero =>
    simp only [↓rA,rB,e,o,p,simprocAttr];exact⟨0,by rw [J];assumption,rfl⟩
   | succ j =>
    have D:j < u.length:=by omega
    have K:Xg u (j+1)=some u[j].name:=by simp [Xg,D]
    rw [K] at d;have I:(0:Int) < ((j+1:Nat):Int):=by omega
    have L:((j+1:Nat):Int) - 1=(j:Int):=by omega
    have M:=qv (n:=(j:Int)) (by omega) (by omega);cases A:leS u[j+1].name u[j].name
    ·have w:=A;unfold leS at w;rw [if_neg (by simp_all)] at d;refine qn ?_;simp_all
    ·have w:=A;unfold leS at w;rw [if_pos (by simp_all)] at d;simp only [↓rA,rU,e,o,p,I,L,M,zq,q,D,w,simprocAttr];exact qc (k d)
  ·rw [if_pos H] at d;simp only [↓rA,rU,e,simprocAttr];exact qc (k d)
 ·simp only [↓rA,rU,C,e,o,p,zq,WR,simprocAttr];rw [qFs (w3 _),QM] at d;exact qc (k d)
theorem j3 (k:Int) (u:List Fac) (of:Str):zk prog 246 [.agg [vint k,qN u,vstr of]] (qq (decide (k=2∨k=3))):=by
 refine oE func246 fun F o a=>?_;refine qb fun d n=>?_;by_cases e:k=2
 ·exact qe (h:=by simp [])
 ·by_cases j:k=3
  ·exact qe (h:=by simp [])
  ·exact qe (h:=by simp [])
theorem X1 (k:Int) (u:List Fac) (of:Str):zk prog 163 [vTy k u of] (vint (kj k u of)):=by
 have y:∀ {a b:Int},a=b->V.lit (.int .i64 a)=vint b:=fun h=>by rw [h]
 refine oE func163 fun F W R=>?_;refine qb fun J T=>?_;by_cases q:k < 1
 ·exact qe (h:=y (by simp [kj,q]))
 by_cases w:5 < k
 ·exact qe (h:=y (by simp [kj,q,w]))
 have go:∀ x:Int,kj k u of=x->((k=5/\zG of=true/\¬ 0 < u.length)∨(¬ k=5/\of=qH/\(k=2∨k=3))∨(¬ k=5/\of=qH/\¬ (k=2∨k=3)/\¬ 0 < u.length))->x=if ¬ kJ u=0 then 70 else if JC u=false then 70 else 0:=by
  rintro x rfl h;rw [kj,if_neg q,if_neg w];rcases h with⟨rfl,d,A⟩ | ⟨j,o,d⟩ | ⟨j,o,d,A⟩
  ·rw [if_neg (fun h=>A h.1),if_pos rfl,if_neg (fun e=>by rw [zG,if_pos e] at d;cases d),if_neg (by simp_all)]
  ·simp_all
  ·simp_all
 by_cases n:(k=5/\zG of=true/\¬ 0 < u.length)∨(¬ k=5/\of=qH/\(k=2∨k=3))∨(¬ k=5/\of=qH/\¬ (k=2∨k=3)/\¬ 0 < u.length)
 ·have z:=go _ rfl n;rw [z];clear go z;have G:(0 < u.length)=((0:Int) < u.length):=by simp
  rw [G] at n;rcases n with c | c | c <;>
  (first
   | (
     simp only [↓rA,rU,q,w,c,simprocAttr];refine qo _ (zU of) ?_;refine qa ?_;refine qo _ (j3 _ _ _) ?_)
   | (
     simp only [↓rA,rU,q,w,c,simprocAttr];refine qo _ (j3 _ _ _) ?_)) <;>
  (
    refine qi _ (uL u) ?_;by_cases C:kJ u=0
    case neg =>
     exact qe (h:=y (by rfl))
    rw [if_neg (fun h=>h C)];have U:=jX C;simp only [↓rA,rB,results163,C,simprocAttr];refine qG Ty.mixed (by rfl) u.length (fun i S=>(u.take i).all (fun f=>zG f.name)=true/\(∃ a b,S.boxes=[(J,.c [a,qN u,b])])/\S.rows=[]/\S.σ 1=ptr J/\S.σ 3=vint i) ⟨0,?_⟩ (fun i S I ⟨H,⟨a,b,O⟩,D,K,L⟩=>?_) (fun S ⟨H,⟨a,b,O⟩,D,K,L⟩=>?_)
    ·refine qB ?_;simp
    ·have Q:=qj I;have z:=yH (p:=fun f:Fac=>zG f.name) I;have P:=yI (p:=fun f:Fac=>zG f.name) I;refine qn ?_;refine qo _ (zU _) ?_;cases e:zG u[i].name
     ·simp only [↓rA,rB,D];exact qc (y (by rw [JC,P e];rfl))
     ·simp only [↓rA,rU,D,K,L,Q,simprocAttr];exact⟨0,by simp_all,a,b,rfl⟩
    ·refine qn ?_;rw [xa (w3 _)] at H;exact qc (y (by rw [JC,H];rfl)))
 ·have G:(0 < u.length)=((0:Int) < u.length):=by simp
  have z:kj k u of=3:=by
   rw [kj,if_neg q,if_neg w];split
   ·rfl
   ·rename_i M;split
    ·rename_i j;split
     ·rfl
     ·split
      ·rfl
      ·rename_i o d;exact absurd (.inl ⟨j,by simpa using d,fun h=>M ⟨h,by omega⟩⟩) n
    ·rename_i j;split
     ·rfl
     ·rename_i o;by_cases d:k=2∨k=3
      ·exact absurd (.inr (.inl ⟨j,qP0.1 o,d⟩)) n
      ·exact absurd (.inr (.inr ⟨j,qP0.1 o,d,fun h=>M ⟨h,d⟩⟩)) n
  rw [z];rw [G] at n;by_cases j:k=5
  ·have N:¬ (k=2∨k=3):=by omega
   refine qi _ (zU of) ?_;cases d:zG of
   ·exact qe
   ·have A:(0:Int) < u.length:=qP0.1 fun h=>n (.inl ⟨j,d,h⟩);subst j;refine qi _ (j3 _ _ _) ?_;exact qe
  ·by_cases o:of=qH
   ·have N:¬ (k=2∨k=3):=fun h=>n (.inr (.inl ⟨j,o,h⟩));have A:(0:Int) < u.length:=qP0.1 fun h=>n (.inr (.inr ⟨j,o,N,h⟩));refine qi _ (j3 _ _ _) ?_;exact qe
   ·exact qe
theorem ju (u v:List Fac) (hu:u.length<=big):zk prog 161 [qN u,qN v] (qq (decide (u=v))):=by
 unfold big at hu;refine oE func161 fun F C z=>?_;by_cases p:¬ u.length=v.length
 ·have q:¬ (u.length:Int)=v.length:=by omega
  exact qe (h:=qQ (decide_eq_false fun e=>p (by rw [e])).symm)
 have q:(u.length:Int)=v.length:=by omega
 have p:u.length=v.length:=by omega
 refine qa ?_;refine qG Ty.mixed (by kernel_rfl) v.length (fun i S=>u.take i=v.take i/\S.boxes=[]/\S.rows=[]/\S.σ 0=qN u/\S.σ 1=qN v/\S.σ 5=vint i) ⟨0,?_⟩ (fun i S d ⟨a,w,x,j,k,n⟩=>?_) (fun S ⟨a,w,x,j,k,n⟩=>?_)
 ·exact qD
 ·have A:=qj d;have o:i < u.length:=by omega
  simp only [↓rA,rB,Nat.reduceAdd,Nat.reduceEqDiff,reduceCtorEq,j,k,n,q,zq,d,zz,qI _ _ _ d,qI _ _ _ o,tU,Nat.reduceShiftRight,Nat.reduceMod];apply qf <;> intro y
  ·refine qa ?_;refine qc (qQ (decide_eq_false fun e=>?_).symm);simp_all
  ·refine qa ?_;refine⟨0,?_⟩;rw [zt d,zt o,a];have:u[i]=v[i]:=by
    rw [qc0];simpa using y
   rw [this]
 ·refine qn ?_;rw [xa (w3 _),xa (by omega)] at a;exact qc (qQ (decide_eq_true a).symm)
theorem qn7 (a b:Hd) (x y:List E) (hu:a.unit.length<=big):zk prog 97 [.agg (cH a (kI x)),.agg (cH b (kI y))] (qq (decide (a=b))):=by
 refine oE func97 fun F H w=>?_;refine qb fun z C=>?_;refine qb fun A D=>?_;by_cases d:a.kind=b.kind
 case neg =>
  exact qe (h:=qQ (decide_eq_false fun e=>d (by rw [e])).symm)
 by_cases j:a.op=b.op
 case neg =>
  exact qe (h:=qQ (decide_eq_false fun e=>j (by rw [e])).symm)
 by_cases k:a.name=b.name
 case neg =>
  exact qe (h:=qQ (decide_eq_false fun e=>k (by rw [e])).symm)
 by_cases n:a.table=b.table
 case neg =>
  exact qe (h:=qQ (decide_eq_false fun e=>n (by rw [e])).symm)
 have v4:=qut a.val b.val;have G:=quk a b;by_cases o:a.val=b.val
 case neg =>
  exact qe (h:=qQ (decide_eq_false fun e=>o (by rw [e])).symm)
 refine qi _ (ju a.unit b.unit hu) ?_;by_cases p:a.unit=b.unit
 case neg =>
  exact qe (h:=qQ (decide_eq_false fun e=>p (by rw [e])).symm)
 by_cases q:a.param=b.param
 case neg =>
  exact qe (h:=qQ (decide_eq_false fun e=>q (by rw [e])).symm)
 by_cases u:a.wk=b.wk/\a.ws=b.ws
 case neg =>
  exact qe (h:=qQ (decide_eq_false fun e=>u (by simp_all)).symm)
 refine qa ?_;exact qc (qQ (decide_eq_true (by rw [qla];simp_all)).symm)
theorem qb2:∀ a:E,uh a->∀ b:E,zk prog 66 [vE a,vE b] (qq (decide (a=b))):=by
 intro x
 induction x using E.ind with
 | h a l N =>
 intro A y;obtain⟨b,m⟩:=y;have hu:=A.unit;have L:=A.len;have H:=A.args;simp only [E.args,E.hd,big] at L H hu;rw [vE,vE,wI,wI];have no:a ≠ b->decide (E.mk a l=E.mk b m)=false:=fun h=>decide_eq_false fun e=>h (by simp_all);have J:l ≠ m->decide (E.mk a l=E.mk b m)=false:=fun h=>decide_eq_false fun e=>h (by simp_all);refine oE func66 fun F R O=>?_;refine qb fun D Q=>?_;refine qb fun G z=>?_;refine qi _ (qn7 a b l m hu) ?_;by_cases d:a=b
 case neg =>
  simp only [↓rA,rU,decide_eq_false d,simprocAttr];exact qc (qQ (no d).symm)
 by_cases K:¬ l.length=m.length
 ·have k:¬ (l.length:Int)=m.length:=by omega
  simp only [↓rA,rU,z,decide_eq_true d,k,simprocAttr];exact qc (qQ (J fun e=>K (by rw [e])).symm)
 have k:(l.length:Int)=m.length:=by omega
 simp only [↓rA,rU,z,decide_eq_true d,k,simprocAttr];refine qG Ty.mixed (by kernel_rfl) m.length (fun i S=>l.take i=m.take i/\S.boxes=[(G,.c (cH b (kI m))),(D,.c (cH a (kI l)))]/\S.rows=[]/\S.σ 2=ptr D/\S.σ 3=ptr G/\S.σ 5=vint i) ⟨0,?_⟩ (fun i S n ⟨C,j,w,p,q,u⟩=>?_) (fun S ⟨C,j,w,p,q,u⟩=>?_)
 ·exact qD
 ·have M:=qj n;have o:i < l.length:=by omega
  simp only [↓rA,rB,Nat.reduceAdd,Nat.reduceEqDiff,j,p,q,u,z,k,zq,n,zz,qI _ _ _ n,qI _ _ _ o,qY,tU,Nat.reduceShiftRight,Nat.reduceMod];have I:=N l[i] (zs o) (H _ (zs o)) m[i];simp only [vE,qY] at I;refine qt _ I.v ?_;by_cases e:l[i]=m[i]
  ·simp only [↓rA,rU,j,w,p,q,u,M,decide_eq_true e,simprocAttr];exact⟨0,by rw [zt n,zt o,C,e],rfl⟩
  ·simp only [↓rA,rB,j,w,decide_eq_false e];refine qc (qQ (J fun P=>e ?_).symm);simp_all
 ·refine qn ?_;rw [xa (w3 _),xa (by omega)] at C;exact qc (qQ (decide_eq_true (by simp_all)).symm)
theorem qvi:∀ x:E,uh x->zk prog 30 [vE x] (vint (IntKind.i64.wrap (kY x))):=by
 intro x
 induction x using E.ind with
 | h hd l A =>
  intro u;have z:=u.len;have p:=u.args;simp only [E.args,big] at z p;rw [vE,wI];refine oE func30 fun F H C=>?_;refine qb fun d D=>?_;refine qa ?_;refine qG Ty.mixed (by rfl) l.length (fun i S=>S.boxes=[(d,.c (cH hd (kI l)))]/\S.rows=[]/\S.σ 1=ptr d/\S.σ 3=vint (IntKind.i64.wrap (1+sizeEs (l.take i)))/\S.σ 4=vint i) ⟨0,?_⟩ (fun i S a ⟨o,y,e,j,k⟩=>?_) (fun S ⟨o,y,e,j,k⟩=>?_)
  ·exact qD
  ·have G:=qj a;have w:=zs a;have q:=A l[i] w (p _ w);rw [vE,qY] at q;simp only [↓rA,rU,o,e,j,k,zq,a,qY,simprocAttr];refine qo _ q ?_;refine qa ?_;refine⟨0,rfl,?_⟩;rw [qm7,zt a,jc];exact congrArg (fun n=>V.lit (.int .i64 (IntKind.i64.wrap n))) (by simp only [sizeEs];omega)
  ·refine qn ?_;refine qc ?_;rw [uO,xa (w3 _)];rfl
theorem qss:∀ x:E,uh x->zV x<=big->zk prog 31 [vE x] (vint (zV x)):=by
 intro x
 induction x using E.ind with
 | h hd l C =>
  intro y u;have A:=y.len;have q:=y.args;simp only [E.args,big] at A q;rw [vp] at u;unfold big at u;rw [vE,wI];refine oE func31 fun F I D=>?_;refine qb fun e G=>?_;refine qa ?_;refine qG Ty.mixed (by rfl) l.length (fun i S=>S.boxes=[(e,.c (cH hd (kI l)))]/\S.rows=[]/\S.σ 1=ptr e/\S.σ 3=vint (depthEs (l.take i))/\S.σ 4=vint i) ⟨0,?_⟩ (fun i S a ⟨p,z,j,k,o⟩=>?_) (fun S ⟨p,z,j,k,o⟩=>?_)
  ·exact qD
  ·have H:=qj a;have d:=zs a;have hd:=uy d;have w:=C l[i] d (q _ d) (by unfold big;omega);rw [vE,qY] at w;simp only [↓rA,rU,p,j,k,o,zq,a,qY,simprocAttr];refine qo _ w ?_;refine qa ?_;refine⟨0,rfl,?_⟩;rw [zt a,vP];exact congrArg (fun n=>V.lit (.int .i64 n)) (by simp only [depthEs];omega)
  ·refine qn ?_;refine qc ?_;rw [vp,xa (w3 _),qv (by omega) (by omega)];rfl
theorem qBi:zk prog 67 [] (vE tt):=by
 refine oE func67 fun F j a=>?_;refine qb fun d e=>?_;refine qa ?_;exact⟨_,[],[],leE (h:=hTT) (l:=[]) (Le.nil 2) (Le.nil 12),zn _,zn _,rfl,rfl,rfl⟩
theorem YC (l:List Str) (s:Str) (u:l.length<=1000000):zk prog 100 [vstr s,jV l] (qq (uY l s)):=by
 refine oE func100 fun F x q=>?_;refine qa ?_;refine qG Ty.mixed (by rfl) l.length (fun i S=>uY (l.take i) s=false/\S.boxes=[]/\S.rows=[]/\S.σ 0=vstr s/\S.σ 1=jV l/\S.σ 5=vint i) ⟨0,?_⟩ (fun i S d ⟨a,o,p,j,k,n⟩=>?_) (fun S ⟨a,o,p,j,k,n⟩=>?_)
 ·exact qD
 ·have w:=qj d;by_cases e:l[i]=s
  ·refine qn ?_;exact qc (qQ (qfq.2 (by rw [<-e];simp)).symm)
  ·refine qn ?_;refine⟨0,?_⟩;have:uY (l.take (i+1)) s=false:=by
    unfold uY at a ⊢;rw [zt d,qQ6,a];simp only [List.any_cons,List.any_nil,qP3,qP4];exact decide_eq_false fun h=>e h.symm
   omega
 ·refine qn ?_;rw [xa (w3 _)] at a;exact qc (qQ a.symm)
theorem qcd:zk prog 101 [] (jV qzm):=by
 refine oE func101 fun F d a=>?_;refine qa ?_;exact fun y=>⟨_,[],[],Le.list _ _ _,zn _,zn _,rfl,rfl,rfl⟩
theorem Uy:zk prog 164 [] (jV JD):=by
 refine oE func164 fun F d a=>?_;refine qa ?_;exact fun y=>⟨_,[],[],Le.list _ _ _,zn _,zn _,rfl,rfl,rfl⟩
theorem leH {b:Hd} {u c:V} {y:List E} (hu:Le u (qN b.unit)) (hc:Le c (kI y)):Le (.agg (cHu b u c)) (.agg (cH b (kI y))) :=
 wc (.c1 (.c1 (.c1 (.c1 (.c1 (.c1 (.c1 (.cons hu (.c1 (.c1 (.c1 (.cons hc .nil))))))))))))
theorem Kz (a b:Hd) (x:List E) (u c:V) (d:a.unit.length<=big) (hu:Le u (qN b.unit)) (hc:Le c (kI [])):zk prog 97 [.agg (cH a (kI x)),.agg (cHu b u c)] (qq (decide (a=b))) :=
 Ok.le (.c1 (.cons (leH hu hc) .nil)) (qn7 a b x [] d)
theorem qo1 (wk ws:Int):zk prog 165 [.agg [vint wk,vint ws]] (qq (xx wk ws)):=by
 refine oE func165 fun F u n=>?_;refine qb fun o p=>?_;by_cases j:wk=1
 ·subst j;by_cases e:ws=0
  ·exact qe (h:=qQ (by rfl))
  ·exact qe (h:=qQ (by simp [xx,e]))
 by_cases a:(1:Int) < wk
 case neg =>
  exact qe (h:=qQ (by rw [xx,if_pos (by omega)]))
 by_cases b:wk<=4
 case neg =>
  exact qe (h:=qQ (by rw [xx,if_neg (by omega),if_pos (by omega)]))
 by_cases c:(1:Int)<=ws
 case neg =>
  refine qa ?_;refine qc (qQ ?_);rw [xx,if_neg (by omega),if_neg (by omega)];split
  ·rfl
  ·rename_i h;have q:¬ ws=0:=fun e=>h fun k=>j (k.2 e);rw [if_pos (by omega)]
 refine qa ?_;refine qc (qQ ?_);rw [xx,if_neg (by omega),if_neg (by omega),if_neg (fun h=>h ⟨fun h=>absurd h j,fun h=>by omega⟩),if_neg (by omega)];by_cases d:ws<=1099511627776
 ·simp_all
 simp_all
theorem qkk (h:Hd) (l:List E) (hu:h.unit.length<=big) (d:h.kind=1):zk prog 98 [.agg (cH h (kI l))] (qq (za h false && decide (h=zZ h))):=by
 have q:zZ h={ vb 1 with val:=h.val,unit:=h.unit,name:=h.name }:=by rw [zZ,if_pos d]
 have p:=qnc h.val;have o:=X1 h.val.kind h.unit h.name;have n:=Kz h { vb 1 with val:=h.val,unit:=h.unit,name:=h.name } l (qN h.unit) nilS hu (Le.refl _) (Le.nil 12);rw [q,za,if_pos d];refine oE func98 fun F z u=>?_;refine qb fun w y=>?_;refine qi _ p ?_;by_cases e:wQ h.val=0
 case neg =>
  exact qe (h:=qQ (by simp []))
 by_cases j:h.val.n < 0
 ·exact qe (h:=qQ (by simp []))
 refine qb fun x k=>?_;refine qi _ o ?_;by_cases a:kj h.val.kind h.unit h.name=0
 case neg =>
  simp only [↓rA,rU,a,simprocAttr];exact qc (qQ (by simp []))
 simp only [↓rA,rU,k,a,simprocAttr];refine qo _ n ?_;simp only [↓rA,rU,a,simprocAttr];exact qc (qQ (by simp [e,j]))
theorem qwk (h:Hd):wZ h=(uY JD h.op && zG h.table && decide (VY h.op<=h.param) && decide (h.param<=hiP h.op) && xx h.wk h.ws):=by
 unfold wZ;cases uY JD h.op
 ·rfl
 cases zG h.table
 ·rfl
 simp only [Bool.true_eq_false,if_false,qOa];by_cases a:h.param < VY h.op
 ·rw [if_pos a,decide_eq_false (by omega)];rfl
 rw [if_neg a,decide_eq_true (show VY h.op<=h.param by omega)];by_cases b:hiP h.op < h.param
 ·rw [if_pos b,decide_eq_false (by omega)];rfl
 simp_all
theorem qz8 (h:Hd) (l:List E) (hu:h.unit.length<=big) (x:h.kind=5):zk prog 99 [.agg (cH h (kI l))] (qq (wZ h && decide (h=zZ h))):=by
 have y:zZ h={ vb 5 with op:=h.op,table:=h.table,param:=h.param,wk:=h.wk,ws:=h.ws }:=by simp [zZ,x]
 have w:=Kz h { vb 5 with op:=h.op,table:=h.table,param:=h.param,wk:=h.wk,ws:=h.ws } l nilS nilS hu (Le.nil 2) (Le.nil 12);rw [y];refine oE func99 fun F M A=>?_;refine qb fun C I=>?_;have u:(decide (h.op=vy)=true/\decide (h.op=yM)=false/\hiP h.op=1000/\VY h.op=1)∨(decide (h.op=vy)=false/\decide (h.op=yM)=true/\hiP h.op=1073741824/\VY h.op=1)∨(decide (h.op=vy)=false/\decide (h.op=yM)=false/\hiP h.op=0/\VY h.op=0):=by
  by_cases a:h.op=vy
  ·exact .inl ⟨decide_eq_true a,decide_eq_false (by simp_all),by rw [hiP,if_pos a],by rw [VY,if_pos a]⟩
  by_cases d:h.op=yM
  ·exact .inr (.inl ⟨decide_eq_false a,decide_eq_true d,by rw [hiP,if_neg a,if_pos d],by rw [VY,if_neg a,if_pos d]⟩)
  ·exact .inr (.inr ⟨decide_eq_false a,decide_eq_false d,by rw [hiP,if_neg a,if_neg d],by rw [VY,if_neg a,if_neg d]⟩)
 rw [qwk];have J:min (1000:Int) 1=1:=by decide
 have K:min (1073741824:Int) 1=1:=by decide
 have L:min (0:Int) 1=0:=by decide
 rcases u with⟨p,q,j,k⟩ | ⟨p,q,j,k⟩ | ⟨p,q,j,k⟩ <;>
 (
   rw [j,k];refine qa ?_;refine qt _ Uy.v ?_;refine qa ?_;refine qt _ (YC JD h.op (by decide)).v ?_;cases D:uY JD h.op
   ·exact qe (h:=qQ rfl)
   refine qa ?_;refine qt _ (zU h.table).v ?_;cases G:zG h.table
   ·exact qe (h:=qQ rfl)
   refine qa ?_;refine qt _ (qo1 h.wk h.ws).v ?_;cases H:xx h.wk h.ws
   ·exact qe (h:=qQ (by simp))
   by_cases e:hiP h.op < h.param
   ·have z:decide (h.param<=hiP h.op)=false:=decide_eq_false (by omega);rw [j] at e z;simp only [↓rA,rU,e,simprocAttr];exact qc (qQ (by rw [z];simp))
   have z:decide (h.param<=hiP h.op)=true:=decide_eq_true (by omega);by_cases n:h.param < VY h.op
   ·have o:decide (VY h.op<=h.param)=false:=decide_eq_false (by omega);rw [j] at e;rw [k] at n o;simp only [↓rA,rU,e,n,simprocAttr];exact qc (qQ (by rw [o];simp))
   have o:decide (VY h.op<=h.param)=true:=decide_eq_true (by omega);rw [j] at e z;rw [k] at n o;simp only [↓rA,rB,yo,e,n,tU,simprocAttr];refine qo _ w ?_;refine qa ?_;exact qc (qQ (by simp_all)))
theorem qwm (h:Hd) (l:List E) (ins:Bool) (hu:h.unit.length<=big):zk prog 65 [.agg (cH h (kI l)),qq ins] (.tup [vint (kD h.kind),qq (za h ins && decide (h=zZ h))]):=by
 have w:∀ {n m:Int} {a b:Bool},n=m->a=b->V.tup [V.lit (.int .i64 n),V.lit (.bool a)]=.tup [vint m,qq b]:=fun h T=>by rw [h,T]
 have L:=Kz h { vb h.kind with name:=h.name } l nilS nilS hu (Le.nil 2) (Le.nil 12);have M:=Kz h { vb h.kind with op:=h.op } l nilS nilS hu (Le.nil 2) (Le.nil 12);have W:=qkk h l hu;have U:=qz8 h l hu;obtain⟨k,op,d,o,p,un,j,q,u⟩:=h;generalize z:decide ((⟨k,op,d,o,p,un,j,q,u⟩:Hd)={ vb k with name:=d })=N at L;generalize x:decide ((⟨k,op,d,o,p,un,j,q,u⟩:Hd)={ vb k with op:=op })=O at M;refine oE func65 fun F w0 X=>?_;refine qb fun K h2=>?_;simp only [↓zu,↓qJ,↓zx,↓zA,zw,qu,xY,List.toList_toArray,results65];refine xe (fun S=>S.boxes=[(K,.c (cH ⟨k,op,d,o,p,un,j,q,u⟩ (kI l)))]/\S.rows=[]/\S.σ 1=qq ins/\S.σ 2=ptr K/\S.σ 6=qq (zG d && N)) ?_ ?_
 ·refine qi _ (zU d) ?_;cases Y:zG d
  ·exact kK
  ·refine qi _ L ?_;exact kK
   done
 rintro S ⟨gb,gr,Z,g2,g6⟩;refine qi _ M ?_;by_cases P:k=1
 ·subst P;refine qi _ (W rfl) ?_;exact qe (h:=w rfl rfl)
 by_cases Q:k=2
 ·subst Q;refine qa ?_;cases ins
  ·exact qe (h:=w rfl (by rfl))
  ·refine qa ?_;exact qc (w rfl (by rw [<-z];rfl))
 by_cases R:k=3
 ·subst R;cases ins
  ·refine qa ?_;exact qc (w rfl (by rw [<-z];rfl))
  ·exact qe (h:=w rfl (by rfl))
 by_cases C:k=4
 ·subst C;cases ins
  ·refine qa ?_;exact qc (w rfl (by rw [<-z];rfl))
  ·exact qe (h:=w rfl (by rfl))
 by_cases D:k=5
 ·subst D;cases ins
  ·refine qi _ (U rfl) ?_;exact qe (h:=w rfl (by rfl))
  ·exact qe (h:=w rfl (by rfl))
 by_cases G:k=6
 ·subst G;cases O
  ·refine qa ?_;exact qc (w rfl (by rw [show decide ((⟨6,op,d,o,p,un,j,q,u⟩:Hd)=zZ ⟨6,op,d,o,p,un,j,q,u⟩)=false from x];simp))
  ·refine qa ?_;refine fun y=>qo _ (Ok.le (.c1 (.cons (Le.list _ _ _) .nil)) (YC unL op (by decide))) ?_;refine qa ?_;exact qc (w rfl (by rw [show decide ((⟨6,op,d,o,p,un,j,q,u⟩:Hd)=zZ ⟨6,op,d,o,p,un,j,q,u⟩)=true from x];simp [za]))
 by_cases H:k=7
 ·subst H;cases O
  ·refine qa ?_;exact qc (w rfl (by rw [show decide ((⟨7,op,d,o,p,un,j,q,u⟩:Hd)=zZ ⟨7,op,d,o,p,un,j,q,u⟩)=false from x];simp))
  ·refine qa ?_;refine qt _ qcd.v ?_;refine qa ?_;refine qt _ (YC qzm op (by decide)).v ?_;refine qa ?_;exact qc (w rfl (by rw [show decide ((⟨7,op,d,o,p,un,j,q,u⟩:Hd)=zZ ⟨7,op,d,o,p,un,j,q,u⟩)=true from x];simp [za]))
 have bare:∀ k:Int,(k=8∨k=9)->(decide ((⟨k,op,d,o,p,un,j,q,u⟩:Hd)={ vb k with op:=op }) && decide (op=qH))=(za ⟨k,op,d,o,p,un,j,q,u⟩ ins && decide ((⟨k,op,d,o,p,un,j,q,u⟩:Hd)=zZ ⟨k,op,d,o,p,un,j,q,u⟩)):=by
  rintro k (rfl | rfl)
  ·rw [show za ⟨8,op,d,o,p,un,j,q,u⟩ ins=true from rfl,show zZ ⟨8,op,d,o,p,un,j,q,u⟩=vb 8 from rfl,qOa];by_cases e:op=qH
   ·simp_all
   simp_all
  ·rw [show za ⟨9,op,d,o,p,un,j,q,u⟩ ins=true from rfl,show zZ ⟨9,op,d,o,p,un,j,q,u⟩=vb 9 from rfl,qOa];by_cases e:op=qH
   ·simp_all
   simp_all
 by_cases I:k=8
 ·subst I;have A:=bare 8 (.inl rfl);rw [x] at A;cases O
  ·exact qe (h:=w rfl (by simp_all))
  ·exact qe (h:=w rfl (by simp_all))
 by_cases J:k=9
 ·subst J;have A:=bare 9 (.inr rfl);rw [x] at A;cases O
  ·exact qe (h:=w rfl (by simp_all))
  ·exact qe (h:=w rfl (by simp_all))
 exact qe (h:=w (by simp [kD,C,D,G,H,I,J]) (by simp [za,P,Q,R,C,D,G,H,I,J]))
theorem qe7 {a:E} {ins:Bool} (d:zX a ins=true):decide (a=tt)=decide (a.hd=Wr):=by
 by_cases e:a.hd=Wr
 ·rw [decide_eq_true e];refine decide_eq_true ?_;obtain⟨h,l⟩:=a;simp only [E.hd] at e;subst e;obtain⟨_,_,j,_,_⟩:=yX d;have:(l.length:Int)=0:=j;have:l=[]:=qMy.1 (by omega);rw [this]
 ·rw [decide_eq_false e];exact decide_eq_false fun h=>e (by rw [h];rfl)
theorem Xf {l:List E} {i:Nat} {ins:Bool} (h:i < l.length):properEs (l.take (i+1)) ins=(properEs (l.take i) ins && zX l[i] ins):=by
 rw [zt h,jl];simp [properEs]
theorem Ud {l:List E} {i:Nat} {ins:Bool} (h:i < l.length) (a:zX l[i] ins=false):properEs l ins=false:=by
 rw [<-qBq (i+1) l,jl,Xf h,a];simp
theorem qDp:∀ x:E,∀ ins:Bool,uh x->zk prog 32 [vE x,qq ins] (qq (zX x ins)):=by
 intro x
 induction x using E.ind with
 | h hd l Q =>
 intro ins I;have L:=I.len;have hu:=I.unit;have A:=I.args;simp only [E.args,E.hd] at L hu A;unfold big at L;rw [vE,wI,Qn];refine oE func32 fun F W T=>?_;refine qb fun J U=>?_;refine qi _ (qwm hd l ins hu) ?_;cases e:(za hd ins && decide (hd=zZ hd))
 ·exact qe (h:=qQ (by simp))
 by_cases K:(l.length:Int)=kD hd.kind
 case neg =>
  exact qe (h:=qQ (by simp []))
 refine qa ?_;refine qG Ty.mixed (by kernel_rfl) l.length (fun i S=>properEs (l.take i) (ins || decide (hd.kind=5))=true/\S.boxes=[(J,.c (cH hd (kI l)))]/\S.rows=[]/\S.σ 1=qq ins/\S.σ 2=ptr J/\S.σ 5=vint l.length/\S.σ 7=vint i) ⟨0,?_⟩ (fun i S w ⟨j,d,p,z,k,n,o⟩=>?_) (fun S ⟨j,d,p,z,k,n,o⟩=>?_)
 ·refine qB ?_;rfl
 ·have M:=qj w;have N:=zs w;have u:=Xf (ins:=ins || decide (hd.kind=5)) w;have D:=Ud (ins:=ins || decide (hd.kind=5)) w;have C:=Q l[i] N (ins || decide (hd.kind=5)) (A _ N);rw [vE,qY] at C;cases ins
  ·simp only [qP4] at C u D j ⊢;simp only [↓rA,rU,d,z,k,n,o,zq,w,qY,simprocAttr];refine qt _ C.v ?_;cases q:zX l[i] (decide (hd.kind=5))
   ·simp only [↓rA,rB,d,p];exact qc (qQ (by rw [D q];simp))
   ·simp only [↓rA,rU,d,p,z,k,n,o,M,simprocAttr];exact⟨0,by rw [u,j,q];rfl,rfl⟩
  ·simp only [Bool.true_or] at C u D j ⊢;simp only [↓rA,rU,d,z,k,n,o,zq,w,qY,simprocAttr];refine qt _ C.v ?_;cases q:zX l[i] true
   ·simp only [↓rA,rB,d,p];exact qc (qQ (by rw [D q];simp))
   ·simp only [↓rA,rU,d,p,z,k,n,o,M,simprocAttr];exact⟨0,by rw [u,j,q];rfl,rfl⟩
 ·rw [xa (w3 _)] at j;rw [j];simp only [qOa];by_cases y:hd.kind=5
  case neg =>
   simp only [↓rA,rU,d,p,k,n,o,zq,WR,y,simprocAttr];exact qc (qQ (by unfold jo;simp [y]))
  by_cases H:hd.op=qb3
  case neg =>
   simp only [↓rA,rU,d,p,k,n,o,zq,WR,y,H,simprocAttr];exact qc (qQ (by unfold jo;rw [if_neg H]))
  have R:l.length=2:=by
   rw [y] at K;have:(l.length:Int)=2:=K;omega
  match l,R,j,A with
  | [a,c],_,j,A =>
  have P:zX a (ins || decide (hd.kind=5))=true:=yY _ _ |>.1 j a x6
  have G:=qb2 a (A a x6) tt;rw [qe7 P] at G;have u:=qBi;rw [vE,qY] at G;rw [vE,wI] at u;have O:jo hd [a,c]=decide (a.hd=Wr):=by unfold jo;rw [if_pos H,if_pos y]
  rw [O];rw [vE,wI] at G;simp only [↓rA,rB,Int.reduceToNat,Nat.reduceAdd,Nat.reduceEqDiff,d,k,n,o,zq,WR,y,H,qY a,tU,Nat.reduceShiftRight,Nat.reduceMod];refine qt _ u.v ?_;simp only [↓rA,rB,tU,simprocAttr];refine qt _ G.v ?_;exact qe
theorem UW (x:E) (k:uh x) (hb:zV x<=big):zk prog 13 [vE x] (vint (wx x)):=by
 have e:∀ {a b:Int},a=b->V.lit (.int .i64 a)=vint b:=fun h=>by rw [h]
 have o:=qvi x k;have hd:=qss x k hb;have n:=qDp x false k;rw [vE,qY] at o hd n ⊢;refine oE func13 fun F z u=>?_;refine qb fun w y=>?_;refine qi _ o ?_;by_cases d:64 < IntKind.i64.wrap (kY x:Int)
 ·exact qe (h:=e (by rw [wx,if_pos d]))
 refine qi _ hd ?_;by_cases j:12 < zV x
 ·have p:(12:Int) < zV x:=by omega
  exact qe (h:=e (by rw [wx,if_neg d,if_pos j]))
 have p:¬ (12:Int) < zV x:=by omega
 refine qi _ n ?_;cases q:zX x false
 ·exact qe (h:=e (by rw [wx,if_neg d,if_neg j,if_neg (by simp_all)]))
 ·exact qe (h:=e (by rw [wx,if_neg d,if_neg j,if_pos q]))
end Go.Proofs.YtkdgbjhbpbgdeaaGreatDoor
namespace Go.Lo
abbrev w8 (t:Typ):V:=.agg [vint t.kind,qN t.unit,vstr t.of]
abbrev typ0:Typ:=⟨0,[],qH⟩
abbrev tab0:Tab:=⟨qH,qH,[],0⟩
abbrev ftr0:Ftr:=⟨qH,qH,typ0,exp0,0⟩
structure Chg where
 kind:Int
 table:Tab
 feature:Ftr
 name:Str
noncomputable instance:DecidableEq Chg:=fun a b=>Classical.propDecidable (a=b)
abbrev yR (c:Chg):List V:=vint c.kind::(cTab c.table++(cFtr c.feature++[vstr c.name]))
end Go.Lo
namespace Go.Proofs.YtkdgbjhbpbgdeaaGreatDoor
def xK (t:Typ):Prop:=t.unit.length<=big
def vf (t:Tab):Prop:=t.fields.length<=big/\∀ f ∈ t.fields,xK f.typ
def QK (f:Ftr):Prop:=xK f.typ/\uh f.body
theorem WV (u v:List Fac) (hu:u.length<=big):zk prog 307 [qN u,qN v] (qq (decide (u=v))):=by
 unfold big at hu;refine oE func307 fun F C z=>?_;by_cases p:¬ u.length=v.length
 ·have q:¬ (u.length:Int)=v.length:=by omega
  exact qe (h:=qQ (decide_eq_false fun e=>p (by rw [e])).symm)
 have q:(u.length:Int)=v.length:=by omega
 have p:u.length=v.length:=by omega
 refine qa ?_;refine qG Ty.mixed (by kernel_rfl) v.length (fun i S=>u.take i=v.take i/\S.boxes=[]/\S.rows=[]/\S.σ 0=qN u/\S.σ 1=qN v/\S.σ 5=vint i) ⟨0,?_⟩ (fun i S d ⟨a,w,x,j,k,n⟩=>?_) (fun S ⟨a,w,x,j,k,n⟩=>?_)
 ·exact qD
 ·have A:=qj d;have o:i < u.length:=by omega
  simp only [↓rA,rB,Nat.reduceAdd,Nat.reduceEqDiff,reduceCtorEq,j,k,n,q,zq,d,zz,qI _ _ _ d,qI _ _ _ o,tU,Nat.reduceShiftRight,Nat.reduceMod];apply qf <;> intro y
  ·refine qa ?_;refine qc (qQ (decide_eq_false fun e=>?_).symm);simp_all
  ·refine qa ?_;refine⟨0,?_⟩;rw [zt d,zt o,a];have:u[i]=v[i]:=by
    rw [qc0];simpa using y
   rw [this]
 ·refine qn ?_;rw [xa (w3 _),xa (by omega)] at a;exact qc (qQ (decide_eq_true a).symm)
theorem WW (a b:Typ) (x:xK a):zk prog 254 [w8 a,w8 b] (qq (decide (a=b))):=by
 obtain⟨k,u,f⟩:=a;obtain⟨j,n,d⟩:=b;have no:∀ {p:Prop},¬ p->((⟨k,u,f⟩:Typ)=⟨j,n,d⟩->p)->decide ((⟨k,u,f⟩:Typ)=⟨j,n,d⟩)=false:=fun h w=>decide_eq_false fun e=>h (w e);refine oE func254 fun F G y=>?_;refine qb fun z C=>?_;refine qb fun A D=>?_;by_cases o:k=j
 case neg =>
  exact qe (h:=qQ (no o fun e=>by simp_all).symm)
 subst o;by_cases q:f=d
 case neg =>
  exact qe (h:=qQ (no q fun e=>by simp_all).symm)
 subst q;refine qi _ (WV u n x) ?_;exact qe (h:=qQ (by simp))
theorem V7:∀ a:E,uh a->∀ b:E,zk prog 255 [vE a,vE b] (qq (decide (a=b))):=by
 intro x
 induction x using E.ind with
 | h a l Y =>
 intro A y;obtain⟨b,m⟩:=y;have hu:=A.unit;have W:=A.len;have M:=A.args;simp only [E.args,E.hd,big] at W M hu;rw [vE,vE,wI,wI];have no:∀ {p:Prop},¬ p->(a=b->p)->decide (E.mk a l=E.mk b m)=false:=fun h R=>decide_eq_false fun e=>h (R (by simp_all));have P:l ≠ m->decide (E.mk a l=E.mk b m)=false:=fun h=>decide_eq_false fun e=>h (by simp_all);refine oE func255 fun F w0 Z=>?_;refine qb fun D h1=>?_;refine qb fun G T=>?_;have v4:=qut a.val b.val;have v6:=quk a b;by_cases H:a.kind=b.kind
 case neg =>
  exact qe (h:=qQ (no H fun e=>by rw [e]).symm)
 by_cases I:a.op=b.op
 case neg =>
  exact qe (h:=qQ (no I fun e=>by rw [e]).symm)
 by_cases J:a.name=b.name
 case neg =>
  exact qe (h:=qQ (no J fun e=>by rw [e]).symm)
 by_cases K:a.table=b.table
 case neg =>
  exact qe (h:=qQ (no K fun e=>by rw [e]).symm)
 by_cases Q:a.val=b.val
 case neg =>
  exact qe (h:=qQ (no Q fun e=>by rw [e]).symm)
 by_cases L:a.param=b.param
 case neg =>
  exact qe (h:=qQ (no L fun e=>by rw [e]).symm)
 by_cases n:a.wk=b.wk/\a.ws=b.ws
 case neg =>
  exact qe (h:=qQ (no n fun e=>by simp_all).symm)
 by_cases U:¬ l.length=m.length
 ·have O:¬ (l.length:Int)=m.length:=by omega
  exact qe (h:=qQ (P fun e=>U (by rw [e])).symm)
 have O:(l.length:Int)=m.length:=by omega
 refine qi _ (WV a.unit b.unit hu) ?_;by_cases o:a.unit=b.unit
 case neg =>
  exact qe (h:=qQ (no o fun e=>by rw [e]).symm)
 have eh:a=b:=by rw [qla];exact⟨H,I,J,K,by simp_all,o,L,n.1,n.2⟩
 simp only [↓rA,rB,results255,decide_eq_true o,simprocAttr];refine qG Ty.mixed (by kernel_rfl) m.length (fun i S=>l.take i=m.take i/\S.boxes=[(G,.c (cH b (kI m))),(D,.c (cH a (kI l)))]/\S.rows=[]/\S.σ 2=ptr D/\S.σ 3=ptr G/\S.σ 5=vint i) ⟨0,?_⟩ (fun i S j ⟨C,d,z,q,u,w⟩=>?_) (fun S ⟨C,d,z,q,u,w⟩=>?_)
 ·exact qD
 ·have X:=qj j;have k:i < l.length:=by omega
  simp only [↓rA,rB,Nat.reduceAdd,Nat.reduceEqDiff,d,q,u,w,T,O,zq,j,zz,qI _ _ _ j,qI _ _ _ k,qY,tU,Nat.reduceShiftRight,Nat.reduceMod];have N:=Y l[i] (zs k) (M _ (zs k)) m[i];simp only [vE,qY] at N;refine qt _ N.v ?_;by_cases e:l[i]=m[i]
  ·simp only [↓rA,rU,d,z,q,u,w,X,decide_eq_true e,simprocAttr];exact⟨0,by rw [zt j,zt k,C,e],rfl⟩
  ·simp only [↓rA,rB,d,z,decide_eq_false e];refine qc (qQ (P fun e'=>e ?_).symm);simp_all
 ·refine qn ?_;rw [xa (w3 _),xa (by omega)] at C;exact qc (qQ (decide_eq_true (by simp_all)).symm)
theorem X7 (a b:Tab) (X:vf a):zk prog 185 [.agg (cTab a),.agg (cTab b)] (qq (decide (a=b))):=by
 obtain⟨n,d,l,k⟩:=a;obtain⟨A,u,m,z⟩:=b;obtain⟨O,Y⟩:=X;have O:l.length<=1099511627776:=O;have no:∀ {p:Prop},¬ p->((⟨n,d,l,k⟩:Tab)=⟨A,u,m,z⟩->p)->decide ((⟨n,d,l,k⟩:Tab)=⟨A,u,m,z⟩)=false:=fun h R=>decide_eq_false fun e=>h (R e);refine oE func185 fun F w0 Z=>?_;refine qb fun C h1=>?_;refine qb fun D T=>?_;by_cases G:n=A
 case neg =>
  exact qe (h:=qQ (no G fun e=>by simp_all).symm)
 subst G;by_cases H:d=u
 case neg =>
  exact qe (h:=qQ (no H fun e=>by simp_all).symm)
 subst H;by_cases I:k=z
 case neg =>
  exact qe (h:=qQ (no I fun e=>by simp_all).symm)
 subst I;by_cases W:l.length=m.length
 case neg =>
  have N:¬ (l.length:Int)=m.length:=by omega
  exact qe (h:=qQ (no W fun e=>by simp_all).symm)
 have N:(l.length:Int)=m.length:=by omega
 refine qa ?_;refine qG Ty.mixed (by kernel_rfl) m.length (fun i S=>l.take i=m.take i/\S.boxes=[(D,.c (cTab ⟨n,d,m,k⟩)),(C,.c (cTab ⟨n,d,l,k⟩))]/\S.rows=[]/\S.σ 2=ptr C/\S.σ 3=ptr D/\S.σ 5=vint i) ⟨0,?_⟩ (fun i S j ⟨o,M,Q,J,K,L⟩=>?_) (fun S ⟨o,M,Q,J,K,L⟩=>?_)
 ·exact qD
 ·have aa:=qj j;have w:i < l.length:=by omega
  have U:=WW l[i].typ m[i].typ (Y _ (zs w));have stop:¬ l[i]=m[i]->decide ((⟨n,d,l,k⟩:Tab)=⟨n,d,m,k⟩)=false:=fun h=>no h fun e=>by
   simp_all
  simp only [↓rA,rB,Nat.reduceAdd,Nat.reduceEqDiff,M,J,K,L,T,N,zq,j,zz,qI _ _ _ j,qI _ _ _ w,tU,Nat.reduceShiftRight,Nat.reduceMod];refine qt _ U.v ?_;by_cases e:l[i].typ=m[i].typ
  case neg =>
   exact qe (h:=qQ (stop fun h=>e (by rw [h])).symm)
  by_cases q:l[i].name=m[i].name
  case neg =>
   refine qn ?_;exact qc (qQ (stop fun h=>q (by rw [h])).symm)
  refine qn ?_;have P:l[i]=m[i]:=by
   generalize l[i]=x at *;generalize m[i]=y at *;cases x;cases y;simp only at e q;rw [e,q]
  exact⟨0,by rw [zt j,zt w,o,P],rfl⟩
 ·refine qn ?_;rw [xa (w3 _),xa (by omega)] at o;exact qc (qQ (decide_eq_true (by rw [o])).symm)
theorem Ze (a b:Ftr) (q:QK a):zk prog 186 [.agg (cFtr a),.agg (cFtr b)] (qq (decide (a=b))):=by
 have w:=WW a.typ b.typ q.1;have u:=V7 a.body q.2 b.body;simp only [vE,qY] at u;simp only [qs];refine oE func186 fun F C x=>?_;refine qb fun y A=>?_;refine qb fun z o=>?_;refine qi _ w ?_;refine qi _ u ?_;by_cases d:a.typ=b.typ
 case neg =>
  exact qe (h:=qQ (decide_eq_false fun e=>d (by rw [e])).symm)
 by_cases j:a.body=b.body
 case neg =>
  exact qe (h:=qQ (decide_eq_false fun e=>j (by rw [e])).symm)
 by_cases k:a.name=b.name
 case neg =>
  simp only [↓rA,rU,o,decide_eq_true d,decide_eq_true j,k,simprocAttr];exact qc (qQ (decide_eq_false fun e=>k (by rw [e])).symm)
 by_cases n:a.entity=b.entity
 case neg =>
  simp only [↓rA,rU,o,decide_eq_true d,decide_eq_true j,k,n,simprocAttr];exact qc (qQ (decide_eq_false fun e=>n (by rw [e])).symm)
 by_cases p:a.version=b.version
 case neg =>
  simp only [↓rA,rU,o,decide_eq_true d,decide_eq_true j,k,n,p,simprocAttr];exact qc (qQ (decide_eq_false fun e=>p (by rw [e])).symm)
 simp only [↓rA,rU,o,decide_eq_true d,decide_eq_true j,k,n,p,simprocAttr];refine qc (qQ (decide_eq_true ?_).symm);cases a;simp_all
end Go.Proofs.YtkdgbjhbpbgdeaaGreatDoor
namespace Go.Lo
structure Fct where
 src:Str
 seq:Int
 kind:Int
 ref:Int
 table:Str
 key:Str
 event:Int
 fields:List Val
 deriving DecidableEq
structure Ers where
 kind:Int
 entity:Str
 key:Str
 src:Str
 seq:Int
 deriving DecidableEq
structure yg where
 no:Int
 tick:Int
 kind:Int
 fact:Fct
 erasure:Ers
 change:Chg
abbrev KN (f:Fct):List V:=[vstr f.src,vint f.seq,vint f.kind,vint f.ref,vstr f.table,vstr f.key,vint f.event,.list none 3 (f.fields.map qS)]
abbrev Up (e:Ers):List V:=[vint e.kind,vstr e.entity,vstr e.key,vstr e.src,vint e.seq]
abbrev cG (c:Chg) (h:Hd) (a:V):List V:=vint c.kind::vstr c.table.name::vstr c.table.entity::.list none 4 (c.table.fields.map KK)::vint c.table.keep::(cF c.feature h a++[vstr c.name])
def yn (c:Chg):List V:=cG c c.feature.body.hd (kI c.feature.body.args)
theorem wJ (c:Chg):yn c=cG c c.feature.body.hd (kI c.feature.body.args):=rfl
def XJ (e:yg):List V:=vint e.no::vint e.tick::vint e.kind::(KN e.fact++(Up e.erasure++yn e.change))
end Go.Lo
namespace Go.Proofs.YtkdgbjhbpbgdeaaGreatDoor
abbrev OkB (P:Program) (f:FuncId) (e:List V):Prop:=Ok P f e [] fun v a d=>(∃ b:Bool,v=qq b)/\a=[]/\d=[]
abbrev OkI (P:Program) (f:FuncId) (e:List V):Prop:=Ok P f e [] fun v a d=>(∃ n:Int,v=vint n)/\a=[]/\d=[]
theorem qxj (s:Str) (p:s.size<=1099511627776):OkB prog 117 [vstr s]:=by
 refine oE func117 fun F q o=>?_;refine qa ?_;refine qG Ty.mixed (by kernel_rfl) s.size (fun i S=>S.boxes=[]/\S.rows=[]/\S.σ 0=vstr s/\S.σ 3=vint i) ⟨0,?_⟩ (fun i S k ⟨h,j,d,e⟩=>?_) (fun S ⟨h,j,d,e⟩=>?_)
 ·exact qA
  try exact rfl
 ·have n:=qj k;refine qn ?_;generalize s.data.toList.getD i 0=c
  repeat' (first
   | exact r0 ⟨⟨_,rfl⟩,rfl,rfl⟩
   | exact⟨0,rfl⟩
   | exact⟨0,trivial⟩
   | (refine qE (fun a=>?_) (fun a=>?_) <;> simp only [↓rA,rB,yo,qGs,Int.reduceEq,Int.reduceLE,Int.reduceLT,Int.reduceToNat,Nat.reduceAdd,Nat.reduceEqDiff,Nat.reduceLT,Nat.reduceLeDiff,Nat.reduceMul,Nat.reduceSub,reduceCtorEq,results117,h,j,d,e,zq,k,n,a,tU,Nat.reduceShiftRight,Nat.reduceMod])
   | (refine zm (fun a=>?_) (fun a=>?_) <;> refine qn ?_)
   | (refine qf (fun a=>?_) (fun a=>?_) <;> refine qa ?_))
 ·refine qn ?_
  repeat' (first
   | exact r0 ⟨⟨_,rfl⟩,rfl,rfl⟩
   | (refine qE (fun a=>?_) (fun a=>?_) <;> refine qa ?_))
theorem qqt (f:Fct):OkB prog 112 [.agg (KN f)]:=by
 refine oE func112 fun F j d=>?_;refine qb fun e h=>?_;refine qa ?_
 repeat' (first
  | exact r0 ⟨⟨_,rfl⟩,rfl,rfl⟩
  | (refine qE (fun a=>?_) (fun a=>?_) <;> refine qa ?_))
theorem qlq (e:Ers) (d:e.key.size<=1099511627776):OkB prog 81 [.agg (Up e)]:=by
 refine oE func81 fun F q h=>?_;refine qb fun j o=>?_;by_cases n:e.kind=1
 ·refine qi _ (zU e.entity) ?_;refine qW (qxj e.key d) ?_;rintro v k p ⟨⟨b,rfl⟩,rfl,rfl⟩;cases zG e.entity <;> cases b <;> refine qa ?_ <;>
  repeat' (exact⟨_,[],[],Le.refl _,zn _,zn _,⟨_,rfl⟩,rfl,rfl⟩)
 refine qi _ (zU e.src) ?_;cases zG e.src <;> refine qa ?_ <;>
 repeat' (first
  | exact r0 ⟨⟨_,rfl⟩,rfl,rfl⟩
  | (refine qE (fun a=>?_) (fun a=>?_) <;> refine qa ?_))
theorem qko:Le (.agg [vstr qH,vstr qH,nilS,vint 0]) (.agg (cTab tab0)):=wc (.c1 (.c1 (.cons (Le.nil 4) (.c1 .nil))))
abbrev zFt:List V:=[vstr qH,vstr qH,vint 0,nilS,vstr qH,vint 0,vstr qH,vstr qH,vstr qH,vint 0,vint 0,vstr qH,nilS,vint 0,vint 0,vint 0,nilS,vint 0]
theorem qw7:Le (.agg zFt) (.agg (cFtr ftr0)) :=
 wc (.c1 (.c1 (.c1 (.cons (Le.nil 2) (.c1 (.c1 (.c1 (.c1 (.c1 (.c1 (.c1 (.c1 (.cons (Le.nil 2) (.c1 (.c1 (.c1 (.cons (Le.nil 12) (.c1 .nil))))))))))))))))))
def qia (c:Chg):Prop:=vf c.table/\QK c.feature
theorem qfi (c:Chg) (a:qia c):OkB prog 113 [.agg (yn c)]:=by
 have h:=Ok.le (.c1 (.cons qko .nil)) (X7 c.table tab0 a.1);have d:=Ok.le (.c1 (.cons qw7 .nil)) (Ze c.feature ftr0 a.2);simp only [qs] at d;simp only [wJ];refine oE func113 fun F o j=>?_;refine qb fun k n=>?_;refine qi _ h ?_;refine qi _ d ?_;generalize decide (c.table=tab0)=p;generalize decide (c.feature=ftr0)=q;cases p <;> cases q <;> refine qa ?_ <;>
 repeat' (first
  | exact r0 ⟨⟨_,rfl⟩,rfl,rfl⟩
  | (refine qE (fun e=>?_) (fun e=>?_) <;> refine qa ?_))
theorem qr5 (e:yg) (n:qia e.change):OkB prog 78 [.agg (XJ e)]:=by
 have h:=qqt e.fact;have a:=qfi e.change n;simp only [XJ,wJ] at a ⊢;refine oE func78 fun F y u=>?_;refine qb fun w x=>?_;refine qW h ?_;rintro v d o ⟨⟨p,rfl⟩,rfl,rfl⟩;refine qW a ?_;rintro v d o ⟨⟨q,rfl⟩,rfl,rfl⟩;refine qa ?_;rcases(by omega:e.kind=1∨e.kind=2∨e.kind=3∨(¬ e.kind=1/\¬ e.kind=2/\¬ e.kind=3)) with k | k | k | k <;> cases p <;> cases q <;> refine qa ?_ <;>
 repeat' (first
  | (refine qE (fun j=>?_) (fun j=>?_) <;> refine qa ?_)
  | exact⟨_,[],[],Le.refl _,zn _,zn _,⟨_,rfl⟩,rfl,rfl⟩)
def wd (s:Str):Bool:=!decide (s=qH) && (decide (s.size<=32) && s.data.toList.all (xu 33))
def xz (f:Fct):Bool :=
 zG f.src && (decide (1<=f.seq) && decide (f.seq<=1099511627776)) &&
 (if f.kind=1 then decide (f.ref=0) else if f.kind=2∨f.kind=3 then decide (1<=f.ref) && decide (f.ref < f.seq) else false) &&
 (if f.kind=3 then decide (f.table=qH) && (decide (f.key=qH) && (decide (f.event=0) && decide (f.fields.length=0))) else wd f.key && (decide (0<=f.event) && decide (f.event<=1099511627776)))
theorem qr4 (f:Fct):zk prog 114 [.agg (KN f)] (qq (xz f)):=by
 obtain⟨src,seq,kind,ref,table,key,event,fields⟩:=f;refine oE func114 fun F C w=>?_;refine qb fun x A=>?_;refine qi _ (zU src) ?_;cases d:zG src
 ·exact qe (h:=qQ (by simp [xz,d]))
 by_cases y:seq < 1
 ·exact qe (h:=qQ (by simp [xz,show ¬ 1<=seq by omega]))
 by_cases z:1099511627776 < seq
 ·exact qe (h:=qQ (by simp [xz,show ¬ seq<=1099511627776 by omega]))
 have j:1<=seq:=by omega
 have k:seq<=1099511627776:=by omega
 have n:=qxc key;rcases(by omega:kind=1∨kind=2∨kind=3∨(¬ kind=1/\¬ kind=2/\¬ kind=3)) with rfl | rfl | rfl | q
 ·by_cases e:ref=0
  case neg =>
   exact qe (h:=qQ (by simp [xz,e]))
  refine qi _ n ?_;have a:xz ⟨src,seq,1,ref,table,key,event,fields⟩=(wd key && (decide (0<=event) && decide (event<=1099511627776))):=by simp [xz,d,j,k,e]
  rw [a];unfold wd;generalize (!decide (key=qH) && (decide (key.size<=32) && key.data.toList.all (xu 33)))=b;cases b
  ·exact qe
  by_cases p:0<=event
  case neg =>
   exact qe (h:=qQ (by simp []))
  exact qe (h:=qQ (by simp []))
 ·by_cases e:ref < 1
  ·exact qe (h:=qQ (by simp [xz,show ¬ 1<=ref by omega]))
  by_cases o:seq<=ref
  ·exact qe (h:=qQ (by simp [xz,show ¬ ref < seq by omega]))
  refine qi _ n ?_;have a:xz ⟨src,seq,2,ref,table,key,event,fields⟩=(wd key && (decide (0<=event) && decide (event<=1099511627776))):=by simp [xz,d,j,k,show 1<=ref by omega,show ref < seq by omega]
  rw [a];unfold wd;generalize (!decide (key=qH) && (decide (key.size<=32) && key.data.toList.all (xu 33)))=b;cases b
  ·exact qe
  by_cases p:0<=event
  case neg =>
   exact qe (h:=qQ (by simp []))
  exact qe (h:=qQ (by simp []))
 ·by_cases e:ref < 1
  ·exact qe (h:=qQ (by simp [xz,show ¬ 1<=ref by omega]))
  by_cases o:seq<=ref
  ·exact qe (h:=qQ (by simp [xz,show ¬ ref < seq by omega]))
  have a:xz ⟨src,seq,3,ref,table,key,event,fields⟩=(decide (table=qH) && (decide (key=qH) && (decide (event=0) && decide (fields.length=0)))):=by simp [xz,d,j,k,show 1<=ref by omega,show ref < seq by omega]
  rw [a];by_cases t1:table=qH
  case neg =>
   exact qe (h:=qQ (by simp []))
  by_cases t2:key=qH
  case neg =>
   exact qe (h:=qQ (by simp []))
  by_cases t3:event=0
  case neg =>
   exact qe (h:=qQ (by simp []))
  by_cases t4:fields.length=0
  case neg =>
   have u:¬ (fields.length:Int)=0:=by omega
   exact qe (h:=qQ (by simp [t4]))
  have u:(fields.length:Int)=0:=by omega
  exact qe (h:=qQ (by simp [t4]))
 ·exact qe (h:=qQ (by simp [xz,q]))
theorem j6 (l:List Ftr) (s:Str) (u:l.length<=1000000):Ok prog 257 [qm l,vstr s,vint 0] [] fun v j rs=>(∃ k:Int,v=vint k/\(k=-1∨0<=k/\k < l.length))/\j=[]/\rs=[]:=by
 refine oE func257 fun F x p=>?_;refine qa ?_;refine qG Ty.mixed (by rfl) l.length (fun i S=>S.boxes=[]/\S.rows=[]/\S.σ 0=qm l/\S.σ 1=vstr s/\S.σ 7=vint i) ⟨0,?_⟩ (fun i S h ⟨n,o,a,d,e⟩=>?_) (fun S ⟨n,o,a,d,e⟩=>?_)
 ·exact qD
 ·have w:=qj h;simp only [↓rA,rU,a,d,e,zq,h,qs,simprocAttr];apply qf <;> intro q
  ·refine qa ?_;exact r0 ⟨⟨i,rfl,.inr ⟨by omega,by omega⟩⟩,rfl,rfl⟩
  ·refine qa ?_;simp
 ·refine qn ?_;exact r0 ⟨⟨-1,rfl,.inl rfl⟩,rfl,rfl⟩
theorem qrf (l:List Ftr) (s:Str) (x:l.length<=1000000):Ok prog 261 [qm l,vstr s] [] fun v n rs=>(∃ k:Int,v=vint k/\(k=-1∨0<=k/\k < l.length))/\n=[]/\rs=[]:=by
 refine oE func261 fun F z u=>?_;refine qa ?_;refine qG Ty.mixed (by rfl) l.length (fun i S=>S.boxes=[]/\S.rows=[]/\S.σ 0=qm l/\S.σ 1=vstr s/\S.σ 6=vint i/\∃ k:Int,S.σ 5=vint k/\(k=-1∨0<=k/\k < l.length)) ⟨0,?_⟩ (fun i S h ⟨p,q,a,d,e,k,o,j⟩=>?_) (fun S ⟨p,q,a,d,e,k,o,j⟩=>?_)
 ·refine qB ?_;simp
 ·have y:=qj h;simp only [↓rA,rU,a,d,e,zq,h,qs,simprocAttr];apply qf <;> intro w
  ·refine qa ?_;simp_all
  ·refine qa ?_;simp_all
 ·refine qn ?_;exact r0 ⟨⟨k,rfl,j⟩,rfl,rfl⟩
theorem vq (l:List Ftr) (k:Nat) (a:k < l.length) (n:l.length<=1000000):zk prog 260 [qm l,vint k] (qm (l.take k++l.drop (k+1))):=by
 have o:=qj a;have j:(k:Int)<=l.length:=by omega
 refine oE func260 fun F p d=>?_;refine qa ?_;refine jS.l ?_;simp only [↓rA,rB,results260,tU,simprocAttr];intro q;refine qB ?_;have e:(List.take k (l.map cFtr)).length=k:=by rw [kB,zz];omega
 have h:(List.drop (k+1) (l.map cFtr)).length=l.length - (k+1):=by rw [qA8,zz]
 refine⟨by omega,by omega,fun u=>⟨by omega,by omega,fun w=>⟨_,[],[],?_,zn _,zn _,rfl,rfl,rfl⟩⟩⟩;rw [qm,k8,qOt,qO1];exact Le.list _ _ _
def Wn (l:List Ftr) (s:Str):Nat:=(l.takeWhile fun g=>leS g.name s).length
theorem qDa (l:List Ftr) (s:Str):Wn l s<=l.length:=by
 unfold Wn;exact(List.takeWhile_prefix _).length_le
theorem qDb {l:List Ftr} {s:Str} {i:Nat} (h:i<=Wn l s) (a:i < l.length):(leS l[i].name s=true↔i < Wn l s):=by
 induction l generalizing i with
 | nil=>simp at a
 | cons x r d =>
  unfold Wn at h ⊢;rw [List.takeWhile_cons] at h ⊢;cases e:leS x.name s
  ·simp_all
  ·rw [e] at h;simp only [if_true,List.length_cons] at h ⊢;cases i with
   | zero=>simp [e]
   | succ i =>
    have:=d (i:=i) (by unfold Wn;omega) (by simp_all);unfold Wn at this;simp_all
theorem yA (l:List Ftr) (f:Ftr) (O:l.length<=1000000):zk prog 259 [qm l,.agg (cFtr f)] (qm (l.take (Wn l f.name)++(f::l.drop (Wn l f.name)))):=by
 simp only [qs];refine Ok.of_exM [(5,4)] Ty.mixed func259 rfl (by simp) (by rfl) fun F R L=>?_;refine qb fun o N=>?_;refine qa ?_;refine jR Ty.mixed (by kernel_rfl) (fun i:Nat=>l.length - i) (fun i S=>i<=Wn l f.name/\S.boxes=[(o,.c (cF f f.body.hd (kI f.body.args)))]/\S.rows=[]/\S.σ 0=qm l/\S.σ 3=ptr o/\S.σ 5=vint i) 0 ⟨0,?_⟩ (fun i S ⟨A,a,M,q,u,y⟩=>?_)
 ·exact qA
 ·have P:=qDa l f.name;by_cases d:i < l.length
  case neg =>
   have e:Wn l f.name=i:=by omega
   rw [e];have C:(i:Int)<=l.length:=by omega
   refine qn ?_;refine jS.l ?_
   try refine qa ?_
   intro D;have k:(List.take i (l.map cFtr)).length=i:=by rw [kB,zz];omega
   have n:(List.drop i (l.map cFtr)).length=l.length - i:=by rw [qA8,zz]
   refine⟨by omega,by omega,fun G H=>xf ?_⟩;refine qa ?_;refine⟨by omega,fun J=>⟨by omega,yt ?_⟩⟩;simp only [↓rA,rU,a,k,n,zr,simprocAttr];refine⟨by omega,fun K=>⟨_,[],[],?_,zn _,zn _,rfl,rfl,rfl⟩⟩;rw [qm,k8,z7,qOt,qO1,qs f];refine fun w I x j=>?_;have:=Le.list _ _ _ w I x j;simp_all
  ·have Q:=qj d;have p:=qDb A d;unfold leS at p;simp only [↓rA,rU,a,q,u,y,zq,d,qs l[i],simprocAttr];apply qf <;> intro z
   ·refine qa ?_;have:=p.1 z;exact⟨i+1,by omega,0,by omega,rfl,rfl⟩
   ·have e:Wn l f.name=i:=by
     have:¬ i < Wn l f.name:=fun h=>by simp_all
     omega
    rw [e];have C:(i:Int)<=l.length:=by omega
    refine qa ?_;refine jS.l ?_
    try refine qa ?_
    intro D;have k:(List.take i (l.map cFtr)).length=i:=by rw [kB,zz];omega
    have n:(List.drop i (l.map cFtr)).length=l.length - i:=by rw [qA8,zz]
    refine⟨by omega,by omega,fun G H=>xf ?_⟩;refine qa ?_;refine⟨by omega,fun J=>⟨by omega,yt ?_⟩⟩;simp only [↓rA,rU,a,k,n,zr,simprocAttr];refine⟨by omega,fun K=>⟨_,[],[],?_,zn _,zn _,rfl,rfl,rfl⟩⟩;rw [qm,k8,z7,qOt,qO1,qs f];refine fun w I x j=>?_;have:=Le.list _ _ _ w I x j;simp_all
abbrev Qf (P:Program) (f:FuncId) (e:List V):Prop:=Ok P f e [] fun v a d=>(∃ (t:Typ) (n:Int),v=.tup [w8 t,vint n]/\xK t)/\a=[]/\d=[]
theorem wE (k:Int) (u:V) (a:List Fac) (o:Str) (n:Int) (X:Bx) (Y:List Row) (hu:Le u (qN a)) (h:a.length<=big) :
  ∃ v d e,Le (.tup [.agg [vint k,u,vstr o],vint n]) v/\d.Sublist X/\e.Sublist Y/\(∃ (t:Typ) (n:Int),v=.tup [w8 t,vint n]/\xK t)/\d=[]/\e=[] :=
 ⟨_,[],[],jf (.cons (wc (.c1 (.cons hu (.c1 .nil)))) (.c1 .nil)),zn _,zn _,⟨⟨k,a,o⟩,n,rfl,h⟩,rfl,rfl⟩
theorem xX (k:Int) (o:Str) (n:Int) (X:Bx) (Y:List Row) :
  ∃ v a d,Le (.tup [.agg [vint k,nilS,vstr o],vint n]) v/\a.Sublist X/\d.Sublist Y/\(∃ (t:Typ) (n:Int),v=.tup [w8 t,vint n]/\xK t)/\a=[]/\d=[] :=
 wE k nilS [] o n X Y (Le.nil 2) (by simp)
theorem kF (n:Int) (X:Bx) (Y:List Row):∃ v a d,Le (vint n) v/\a.Sublist X/\d.Sublist Y/\(∃ n:Int,v=vint n)/\a=[]/\d=[] :=
 ⟨_,[],[],Le.refl _,zn _,zn _,⟨n,rfl⟩,rfl,rfl⟩
theorem qde (a b:Typ) (e:xK a):OkI prog 264 [w8 a,w8 b]:=by
 refine oE func264 fun F p h=>?_;refine qb fun j n=>?_;refine qb fun k o=>?_;refine qa ?_
 repeat' (first
  | (refine qf (fun d=>?_) (fun d=>?_) <;> ((try refine qa ?_)))
  | (refine zm (fun d=>?_) (fun d=>?_) <;> ((try refine qa ?_)))
  | (refine qo _ (ju _ _ e) ?_;try refine qa ?_)
  | exact kF _ _ _)
theorem yj (a b:Typ) (e:xK a):OkB prog 386 [w8 a,w8 b]:=by
 refine oE func386 fun F p h=>?_;refine qb fun j n=>?_;refine qb fun k o=>?_;refine qa ?_
 repeat' (first
  | (refine qf (fun d=>?_) (fun d=>?_) <;> ((try refine qa ?_)))
  | (refine qE (fun d=>?_) (fun d=>?_) <;> ((try refine qa ?_)))
  | (refine qo _ (ju _ _ e) ?_;try simp only [↓rA,rU,simprocAttr])
  | exact⟨_,[],[],Le.refl _,zn _,zn _,⟨_,rfl⟩,rfl,rfl⟩)
theorem qjr (x:E) (a c:Typ) (n:xK a):Qf prog 374 [vE x,w8 a,w8 c]:=by
 simp only [vE,qY];refine oE func374 fun F C o=>?_;refine qb fun u A=>?_;refine qb fun w h=>?_;refine qb fun y j=>?_;refine qb fun z k=>?_;refine qa ?_;by_cases e:c.kind=1
 case neg =>
  refine qa ?_;exact xX _ _ _ _ _
 refine qa ?_;intro D;refine qo _ (Ok.le (.c1 (.cons (Le.list _ _ _) .nil)) (YC [⟨#[115,117,109]⟩,⟨#[109,101,97,110]⟩,⟨#[113,117,97,110,116,105,108,101]⟩,⟨#[100,101,99,97,121]⟩] x.hd.op (by decide))) ?_;refine qa ?_;intro G;refine qo _ (Ok.le (.c1 (.cons (Le.list _ _ _) .nil)) (YC [⟨#[109,105,110]⟩,⟨#[109,97,120]⟩] x.hd.op (by decide))) ?_;refine qa ?_;generalize uY [⟨#[115,117,109]⟩,⟨#[109,101,97,110]⟩,⟨#[113,117,97,110,116,105,108,101]⟩,⟨#[100,101,99,97,121]⟩] x.hd.op=p;generalize uY [⟨#[109,105,110]⟩,⟨#[109,97,120]⟩] x.hd.op=q
 repeat' (first
  | (refine qf (fun d=>?_) (fun d=>?_) <;> ((try refine qa ?_)))
  | (refine qE (fun d=>?_) (fun d=>?_) <;> (first | (subst d;try simp only [↓rA,rU,h,j,k,simprocAttr]) | (try refine qa ?_)))
  | (refine zm (fun d=>?_) (fun d=>?_) <;> ((try simp only [↓rA,rU,h,j,k,d,simprocAttr])))
  | (refine qo _ (j3 _ _ _) ?_;try simp only [↓rA,rU,simprocAttr])
  | exact xX _ _ _ _ _
  | exact wE _ _ _ _ _ _ _ (Le.refl _) n)
abbrev vSc (c:Cat) (e:Str) (t:Tab):V:=.agg (qT c++(vstr e::cTab t))
structure zD (n:Nat) (c:Cat):Prop where
 lt:c.tables.length<=n
 lf:c.features.length<=n
 ld:c.drafts.length<=n
 lp:c.past.length<=n
 ft:∀ t ∈ c.tables,vf t
 ff:∀ f ∈ c.features,QK f/\zV f.body<=big
 fd:∀ f ∈ c.drafts,QK f/\zV f.body<=big
 fp:∀ f ∈ c.past,QK f/\zV f.body<=big
 sf:∀ f ∈ c.features,kY f.body<=1000000
 sd:∀ f ∈ c.drafts,kY f.body<=1000000
 sp:∀ f ∈ c.past,kY f.body<=1000000
theorem qlm (c:Cat) (e:Str) (t:Tab) (n:Str) (x:vf t):Qf prog 372 [vSc c e t,vstr n]:=by
 obtain⟨w,hu⟩:=x;unfold big at w;refine oE func372 fun F H z=>?_;refine qb fun a A=>?_;refine qb fun d C=>?_;refine qa ?_;refine qG Ty.mixed (by rfl) t.fields.length (fun i S=>S.boxes=[(d,.c [vint 0,nilS,vstr qH]),(a,.c (qT c++(vstr e::cTab t)))]/\S.rows=[]/\S.σ 1=vstr n/\S.σ 2=ptr a/\S.σ 4=ptr d/\S.σ 6=vint i) ⟨0,?_⟩ (fun i S h ⟨q,u,j,k,o,p⟩=>?_) (fun S ⟨q,u,j,k,o,p⟩=>?_)
 ·exact qD
 ·have G:=qj h;have y:=hu _ (zs h);refine qn ?_;apply qf <;> intro D
  ·refine qn ?_;exact wE _ _ _ _ _ _ _ (Le.refl _) y
  ·refine qa ?_;exact⟨0,rfl⟩
 ·refine qn ?_;exact xX _ _ _ _ _
theorem yz (k:Int) (u:List Fac) (of:Str):zk prog 277 [.agg [vint k,qN u,vstr of]] (qq (decide (k=2∨k=3))):=by
 refine oE func277 fun F o a=>?_;refine qb fun d n=>?_;by_cases e:k=2
 ·exact qe (h:=by simp [])
 ·by_cases j:k=3
  ·exact qe (h:=by simp [])
  ·exact qe (h:=by simp [])
theorem YB (n m:Int) (k:0<=m/\m<=1000):zk prog 317 [vint n,vint m] (qq (Jp n m)):=by
 refine oE func317 fun F o j=>?_;have e:=qv (n:=-m) (by omega) (by omega);by_cases a:m < n
 ·exact qe (h:=by simp [Jp,a])
 ·by_cases d:n < -m
  ·exact qe (h:=by simp [Jp,d,e])
  ·exact qe (h:=by simp [Jp,a,d,e])
theorem qm8 (s:Str):zk prog 316 [vstr s] (qq (jU s)):=by
 refine oE func316 fun F T M=>?_;by_cases a:s.size=0
 ·have I:(s.size:Int)=0:=by omega
  exact qe (h:=by rw [jU,if_pos a])
 have I:¬ (s.size:Int)=0:=by omega
 have O:0 < s.size:=by omega
 have N:(0:Int) < s.size:=by omega
 by_cases d:24 < s.size
 ·have J:(24:Int) < s.size:=by omega
  exact qe (h:=by rw [jU,if_neg a,if_pos d])
 have J:¬ (24:Int) < s.size:=by omega
 by_cases e:((s.data.toList.getD 0 0).toNat:Int) < 97
 ·exact qe (h:=by rw [jU,if_neg a,if_neg d,if_pos e])
 by_cases k:(122:Int) < (s.data.toList.getD 0 0).toNat
 ·exact qe (h:=by rw [jU,if_neg a,if_neg d,if_neg e,if_pos k])
 refine qa ?_;have Q:jU s=s.data.toList.all wordC:=by rw [jU,if_neg a,if_neg d,if_neg e,if_neg k]
 refine qG Ty.mixed (by rfl) s.size (fun i S=>(s.data.toList.take i).all wordC=true/\S.boxes=[]/\S.rows=[]/\S.σ 0=vstr s/\S.σ 24=vint s.size/\S.σ 25=vint i) ⟨0,?_⟩ (fun i S j ⟨x,q,u,K,n,o⟩=>?_) (fun S ⟨x,q,u,K,n,o⟩=>?_)
 ·exact qA
 ·have y:i < s.data.toList.length:=by simpa using j
  have z:=yH (p:=wordC) y;have w:=yI (p:=wordC) y;rw [<-vK s i j] at z w;generalize P:s.data.toList.getD i 0=c at z w;have R:=qj j;by_cases A:(c.toNat:Int) < 97 <;> by_cases C:(122:Int) < c.toNat <;> by_cases D:(c.toNat:Int) < 48 <;> by_cases G:(57:Int) < c.toNat <;> by_cases H:(c.toNat:Int)=95 <;>
  first
  | (
    have L:wordC c=true:=by simp [wordC,A,C,D,G,H]
    refine qn ?_;simp_all)
  | (
    have L:wordC c=false:=by simp [wordC,A,C,D,G,H]
    refine qn ?_;exact qc (by simp_all))
 ·simp only [↓rA,rB,q,u,n,o,zq,WR];rw [xa (by simp)] at x;exact qc (by simp_all)
end Go.Proofs.YtkdgbjhbpbgdeaaGreatDoor
namespace Go.Proofs
open Go.Shelf
def Tryz.lays144_ren:Go.Shelf.Ren:=⟨fun | 144=>315 | 143=>349 | 219=>378 | 217=>389 | 225=>390 | 224=>391 | 267=>392 | 266=>398 | 314=>399 | n=>n,fun | 9=>9 | 4=>4 | 3=>3 | 5=>5 | 46=>174 | 146=>394 | 51=>203 | n=>n,fun | 1=>0 | n=>n⟩
theorem Tryz.lays144:Go.Proofs.Lays.n144 Tryz.prog Tryz.lays144_ren:={
 mixed:=by rfl
 f143:=ly Tryz.func349
 f144:=ly Tryz.func315
 f217:=ly Tryz.func389
 f219:=ly Tryz.func378
 f224:=ly Tryz.func391
 f225:=ly Tryz.func390
 f266:=ly Tryz.func398
 f267:=ly Tryz.func392
 f314:=ly Tryz.func399
 t3:=Tryz.underlying3
 a3:=Tryz.isAgg3
 z3:=Tryz.sizeOf3
 v3:=Tryz.zeroValue3
 t4:=Tryz.underlying4
 a4:=Tryz.isAgg4
 z4:=Tryz.sizeOf4
 v4:=Tryz.zeroValue4
 t5:=Tryz.underlying5
 a5:=Tryz.isAgg5
 z5:=Tryz.sizeOf5
 v5:=Tryz.zeroValue5
 t9:=Tryz.underlying9
 a9:=Tryz.isAgg9
 z9:=Tryz.sizeOf9
 v9:=Tryz.zeroValue9
 t46:=Tryz.underlying174
 a46:=Tryz.isAgg174
 z46:=Tryz.sizeOf174
 v46:=Tryz.zeroValue174
 t51:=Tryz.underlying203
 a51:=Tryz.isAgg203
 z51:=Tryz.sizeOf203
 v51:=Tryz.zeroValue203
 t146:=Tryz.underlying394
 a146:=Tryz.isAgg394
 z146:=Tryz.sizeOf394
 v146:=Tryz.zeroValue394
 g1:=by kernel_rfl }
end Go.Proofs
namespace Go.Proofs.YtkdgbjhbpbgdeaaGreatDoor
open Go.Shelf
theorem Jf (s sub:Str) (j:s.size < 4294967281):zk prog 315 [vstr s,vstr sub] (qq (Lib.contains s.data.toList sub.data.toList)):=by
 intro w I k h a;have:k=[.string s,.string sub]:=qcc h;subst this;obtain⟨m,d,_⟩:=a.glob.2 0 (by decide);refine(Any.strings_Contains Tryz.lays144 s sub m w j d).mono ?_;rintro e o ⟨rfl,rfl⟩;exact⟨_,_,[],[],I,rfl,by rfl,qV.refl _ _ _,a,fun b n=>by exact qD,rfl,rfl,rfl⟩
theorem qkp (s:Str) (j:s.size<=24):zk prog 276 [vstr s] (qq (qfz s)):=by
 refine oE func276 fun F o d=>?_;by_cases a:s=qH
 ·subst a;exact qe (h:=by rfl)
 have k:((⟨#[32]⟩:Str)).size+s.size<=9223372036854775807:=by rw [show ((⟨#[32]⟩:Str)).size=1 from rfl];omega
 have n:((⟨#[32]⟩:Str)++s).size+((⟨#[32]⟩:Str)).size<=9223372036854775807:=by rw [qvh,show ((⟨#[32]⟩:Str)).size=1 from rfl];omega
 refine qa ?_;refine qo _ (Jf s ⟨#[32]⟩ (by omega)) ?_;cases e:Lib.contains s.data.toList (⟨#[32]⟩:Str).data.toList
 ·refine qa ?_;refine qo _ (Jf _ _ (by decide)) ?_;refine qa ?_;refine qc ?_;rw [qfz,if_neg a,if_neg (by simp_all)];congr 2
 ·refine qa ?_;refine qc ?_;rw [qfz,if_neg a,if_pos (by omega)]
theorem wW (s:Str):zk prog 207 [vstr s] (qq (zG s)):=by
 refine oE func207 fun F K G=>?_;by_cases d:s=qH
 ·subst d;exact qe (h:=by rfl)
 by_cases e:24 < s.size
 ·have z:(24:Int) < s.size:=by omega
  exact qe (h:=by rw [zG,if_neg d,if_pos e])
 have z:¬ (24:Int) < s.size:=by omega
 refine qa ?_;refine qo _ (qkp s (by omega)) ?_;cases A:qfz s
 ·refine qa ?_;have I:zG s=uq 0 s.data.toList:=by rw [zG,if_neg d,if_neg e,if_neg (by simp_all)]
  refine qG Ty.mixed (by rfl) s.size (fun i S=>uq 0 (s.data.toList.take i)=true/\S.boxes=[]/\S.rows=[]/\S.σ 0=vstr s/\S.σ 17=vint s.size/\S.σ 18=vint i) ⟨0,?_⟩ (fun i S j ⟨u,o,p,C,k,n⟩=>?_) (fun S ⟨u,o,p,C,k,n⟩=>?_)
  ·exact qD
  ·have x:i < s.data.toList.length:=by simpa using j
   have y:=Qp x;have q:=Xw x;rw [<-vK s i j] at y q;generalize H:s.data.toList.getD i 0=c at y q;have J:=qj j;have a:((97:Int)<=c.toNat/\(c.toNat:Int)<=122)∨(¬ (97:Int)<=c.toNat/\¬ (0:Int) < i)∨(((97:Int)<=c.toNat/\¬ (c.toNat:Int)<=122)/\¬ (0:Int) < i)∨(¬ (97:Int)<=c.toNat/\(0:Int) < i/\¬ (48:Int)<=c.toNat/\¬ (c.toNat:Int)=95) ∨
     (¬ (97:Int)<=c.toNat/\(0:Int) < i/\(48:Int)<=c.toNat/\(c.toNat:Int)<=57)∨(¬ (97:Int)<=c.toNat/\(0:Int) < i/\(48:Int)<=c.toNat/\¬ (c.toNat:Int)<=57/\(c.toNat:Int)=95)∨(¬ (97:Int)<=c.toNat/\(0:Int) < i/\(48:Int)<=c.toNat/\¬ (c.toNat:Int)<=57/\¬ (c.toNat:Int)=95) ∨
     ((97:Int)<=c.toNat/\¬ (c.toNat:Int)<=122/\(0:Int) < i/\(48:Int)<=c.toNat/\¬ (c.toNat:Int)<=57/\¬ (c.toNat:Int)=95):=by omega
   have w:(0 < i)=((0:Int) < i):=by simp
   rcases a with a | a | a | a | a | a | a | a <;>
   first
   | (
     have D:Zk i c=true:=by simp only [Zk,w,a];rfl
     refine qn ?_;simp_all)
   | (
     have D:Zk i c=false:=by simp only [Zk,w,a];rfl
     refine qn ?_;exact qc (by simp_all))
  ·simp only [↓rA,rB,o,p,k,n,zq,WR];rw [xa (by simp)] at u;exact qc (by simp_all)
 ·exact qe (h:=by rw [zG,if_neg d,if_neg e,if_pos A])
theorem qro (l:List Str) (s:Str) (A:l.length<=1000000):Ok prog 350 [jV l,vstr s] [] fun v n rs=>(∃ k:Int,v=vint k/\(0<=k↔s ∈ l))/\n=[]/\rs=[]:=by
 refine oE func350 fun F D z=>?_;simp only [↓rA,rB,results350,tU,simprocAttr];refine qG Ty.mixed (by rfl) l.length (fun i S=>(∀ x ∈ l.take i,s ≠ x)/\S.boxes=[]/\S.rows=[]/\S.σ 0=jV l/\S.σ 1=vstr s/\S.σ 7=vint l.length/\S.σ 8=vint i) ⟨0,?_⟩ (fun i S j ⟨d,w,y,o,p,q,u⟩=>?_) (fun S ⟨d,w,y,o,p,q,u⟩=>?_)
 ·refine qB ?_;simp
 ·have C:=qj j;by_cases e:s=l[i]
  ·refine qn ?_;exact r0 ⟨⟨i,rfl,by simp⟩,rfl,rfl⟩
  ·refine qn ?_;refine⟨0,fun x a=>?_⟩;rw [zt j] at a;rcases z6.1 a with a | a
   ·simp_all
   simp_all
 ·refine qn ?_;rw [xa (w3 _)] at d;exact r0 ⟨⟨-1,rfl,by simp;exact fun h=>d s h rfl⟩,rfl,rfl⟩
theorem jO (l:List Str) (s:Str) (a:l.length<=1000000):zk prog 320 [jV l,vstr s] (qq (uY l s)):=by
 refine oE func320 fun F n d=>?_;refine qa ?_;refine qr [] [] (zp _) (qro l s a) ?_;rintro v e j ⟨⟨k,rfl,h⟩,rfl,rfl⟩;refine qa ?_;refine qc (congrArg (fun b=>V.lit (.bool b)) ?_);rw [qOg,decide_eq_true_eq,qfq];omega
theorem yr (u:List Fac):zk prog 278 [qN u] (vint (kJ u)):=by
 refine oE func278 fun F R O=>?_;by_cases x:4 < u.length
 ·have D:(4:Int) < u.length:=by omega
  exact qe (h:=by rw [kJ,if_pos x])
 have D:¬ (4:Int) < u.length:=by omega
 have hu:kJ u=QM none u:=by rw [kJ,if_neg x]
 refine qa ?_;refine qG Ty.mixed (by kernel_rfl) u.length (fun i S=>QM (Xg u i) (u.drop i)=kJ u/\S.boxes=[]/\S.rows=[]/\S.σ 0=qN u/\S.σ 8=qN u/\S.σ 9=vint u.length/\S.σ 10=vint i) ⟨0,?_⟩ (fun i S w ⟨a,A,d,p,q,o,k⟩=>?_) (fun S ⟨a,A,d,p,q,o,k⟩=>?_)
 ·simp only [rU,simprocAttr];exact hu.symm
 ·have M:=qj w;rw [qGt w,QM] at a;have J:Xg u (i+1)=some u[i].name:=by simp [Xg,w]
  refine qn ?_;refine qX fun P Q=>?_;refine qi _ (qm8 _) ?_;cases G:jU u[i].name
  ·rw [if_pos G] at a;simp only [↓rA,rB,d];exact qc (by simp_all)
  rw [if_neg (by simp_all)] at a;by_cases y:u[i].exp=0
  ·rw [if_pos y] at a;exact qe (h:=by simp_all)
  rw [if_neg y] at a;refine qa ?_;refine qo _ (YB _ 8 (by omega)) ?_;cases H:Jp u[i].exp 8
  ·rw [if_neg (by simp_all)] at a;cases i with
   | zero =>
    simp only [↓rA,rB,d,p,q,o,k,simprocAttr];exact⟨1,by rw [J];assumption,rfl,rfl⟩
   | succ j =>
    have C:j < u.length:=by omega
    have K:Xg u (j+1)=some u[j].name:=by simp [Xg,C]
    rw [K] at a;have I:(0:Int) < ((j+1:Nat):Int):=by omega
    have L:((j+1:Nat):Int) - 1=(j:Int):=by omega
    have N:=qv (n:=(j:Int)) (by omega) (by omega);cases z:leS u[j+1].name u[j].name
    ·have e:=z;unfold leS at e;rw [if_neg (by simp_all)] at a;simp only [↓rA,rU,d,p,q,o,k,M,I,L,N,zq,C,e,simprocAttr];exact⟨1,by simp_all,rfl⟩
    ·have e:=z;unfold leS at e;rw [if_pos (by simp_all)] at a;refine qn ?_;exact qc (by simp_all)
  ·rw [if_pos H] at a;exact qe (h:=by simp_all)
 ·simp only [↓rA,rB,A,d,o,k,zq,WR];rw [qFs (w3 _),QM] at a;exact qc (by simp_all)
theorem qBe (v:Val):zk prog 319 [.agg (qS v)] (vint (wQ v)):=by
 obtain⟨k,n,s⟩:=v;refine oE func319 fun F w0 Y=>?_;refine qb fun M Z=>?_;have d:∀ {a b:Int},a=b->V.lit (.int .i64 a)=vint b:=fun h=>by rw [h]
 rcases(by omega:k < 0∨5 < k∨k=0∨k=1∨k=2∨k=3∨k=4∨k=5) with e | e | rfl | rfl | rfl | rfl | rfl | rfl
 ·have T:¬ k=2:=by omega
  have U:¬ k=3:=by omega
  have W:¬ k=4:=by omega
  have X:¬ k=5:=by omega
  exact qe (h:=d (by simp [wQ,e]))
 ·have Q:¬ k < 0:=by omega
  have T:¬ k=2:=by omega
  have U:¬ k=3:=by omega
  have W:¬ k=4:=by omega
  have X:¬ k=5:=by omega
  exact qe (h:=d (by simp [wQ,e,Q]))
 ·by_cases o:s=qH
  ·subst o;by_cases q:n=0
   ·subst q;exact qe (h:=d (by rfl))
   ·exact qe (h:=d (by simp [wQ,q]))
  ·exact qe (h:=d (by simp [wQ,o]))
 ·by_cases o:s=qH
  ·subst o;by_cases q:n=0
   ·subst q;exact qe (h:=d (by rfl))
   ·by_cases x:n=1
    ·subst x;exact qe (h:=d (by rfl))
    ·exact qe (h:=d (by simp [wQ,q,x]))
  ·exact qe (h:=d (by simp [wQ,o]))
 ·by_cases o:s=qH
  ·subst o;by_cases q:n < -1152921504606846976
   ·exact qe (h:=d (by simp [wQ,q]))
   by_cases x:1152921504606846976 < n
   ·exact qe (h:=d (by simp [wQ,q,x]))
   exact qe (h:=d (by simp [wQ,q,x]))
  ·exact qe (h:=d (by simp [wQ,o]))
 ·by_cases o:s=qH
  ·subst o;by_cases q:n < -1152921504606846976
   ·exact qe (h:=d (by simp [wQ,q]))
   by_cases x:1152921504606846976 < n
   ·exact qe (h:=d (by simp [wQ,q,x]))
   exact qe (h:=d (by simp [wQ,q,x]))
  ·exact qe (h:=d (by simp [wQ,o]))
 ·by_cases D:n=0
  ·subst D;by_cases o:64 < s.size
   ·have N:(64:Int) < s.size:=by omega
    exact qe (h:=d (by simp [wQ,o]))
   have N:¬ (64:Int) < s.size:=by omega
   have R:wQ ⟨4,0,s⟩=if s.data.toList.all (xu 32)=true then 0 else 3:=by simp [wQ,o]
   refine qa ?_;refine qG Ty.mixed (by rfl) s.size (fun i S=>(s.data.toList.take i).all (xu 32)=true/\S.boxes=[(M,.c [vint 4,vint 0,vstr s])]/\S.rows=[]/\S.σ 1=ptr M/\S.σ 6=.lit (.int .u8 32)/\S.σ 88=vint s.size/\S.σ 89=vint i) ⟨0,?_⟩ (fun i S w ⟨J,A,C,G,H,y,z⟩=>?_) (fun S ⟨J,A,C,G,H,y,z⟩=>?_)
   ·exact qA
   ·have K:i < s.data.toList.length:=by simpa using w
    have L:=yH (p:=xu 32) K;have I:=yI (p:=xu 32) K;rw [<-vK s i w] at L I;generalize O:s.data.toList.getD i 0=c at L I;have P:=qj w;have j:(c.toNat:Int) < 32∨(¬ (c.toNat:Int) < 32/\(126:Int) < c.toNat)∨(¬ (c.toNat:Int) < 32/\¬ (126:Int) < c.toNat/\(c.toNat:Int)=34)∨(¬ (c.toNat:Int) < 32/\¬ (126:Int) < c.toNat/\¬ (c.toNat:Int)=34/\(c.toNat:Int)=92)∨(¬ (c.toNat:Int) < 32/\¬ (126:Int) < c.toNat/\¬ (c.toNat:Int)=34/\¬ (c.toNat:Int)=92):=by omega
    rcases j with j | j | j | j | j
    ·have u:xu 32 c=false:=by simp [xu,j]
     refine qn ?_;exact qc (d (by simp_all))
    ·have u:xu 32 c=false:=by simp [xu,j]
     refine qn ?_;exact qc (d (by simp_all))
    ·have u:xu 32 c=false:=by simp [xu,j]
     refine qn ?_;exact qc (d (by simp_all))
    ·have u:xu 32 c=false:=by simp [xu,j]
     refine qn ?_;exact qc (d (by simp_all))
    ·have u:xu 32 c=true:=by simp [xu,j]
     simp only [↓rA,rU,A,C,G,H,y,z,zq,w,O,j,P,simprocAttr];exact⟨0,by simp_all,rfl⟩
   ·simp only [↓rA,rB,A,C,y,z,zq,WR];rw [xa (by simp)] at J;exact qc (d (by simp_all))
  ·exact qe (h:=d (by simp [wQ,D]))
 ·by_cases D:n=0
  ·subst D;by_cases o:32 < s.size
   ·have N:(32:Int) < s.size:=by omega
    exact qe (h:=d (by simp [wQ,o]))
   have N:¬ (32:Int) < s.size:=by omega
   by_cases q:s=qH
   ·subst q;exact qe (h:=d (by rfl))
   have R:wQ ⟨5,0,s⟩=if s.data.toList.all (xu 33)=true then 0 else 3:=by simp [wQ,o,q]
   refine qa ?_;refine qG Ty.mixed (by rfl) s.size (fun i S=>(s.data.toList.take i).all (xu 33)=true/\S.boxes=[(M,.c [vint 5,vint 0,vstr s])]/\S.rows=[]/\S.σ 1=ptr M/\S.σ 6=.lit (.int .u8 33)/\S.σ 88=vint s.size/\S.σ 89=vint i) ⟨0,?_⟩ (fun i S w ⟨J,A,C,G,H,y,z⟩=>?_) (fun S ⟨J,A,C,G,H,y,z⟩=>?_)
   ·exact qA
   ·have K:i < s.data.toList.length:=by simpa using w
    have L:=yH (p:=xu 33) K;have I:=yI (p:=xu 33) K;rw [<-vK s i w] at L I;generalize O:s.data.toList.getD i 0=c at L I;have P:=qj w;have j:(c.toNat:Int) < 33∨(¬ (c.toNat:Int) < 33/\(126:Int) < c.toNat)∨(¬ (c.toNat:Int) < 33/\¬ (126:Int) < c.toNat/\(c.toNat:Int)=34)∨(¬ (c.toNat:Int) < 33/\¬ (126:Int) < c.toNat/\¬ (c.toNat:Int)=34/\(c.toNat:Int)=92)∨(¬ (c.toNat:Int) < 33/\¬ (126:Int) < c.toNat/\¬ (c.toNat:Int)=34/\¬ (c.toNat:Int)=92):=by omega
    rcases j with j | j | j | j | j
    ·have u:xu 33 c=false:=by simp [xu,j]
     refine qn ?_;exact qc (d (by simp_all))
    ·have u:xu 33 c=false:=by simp [xu,j]
     refine qn ?_;exact qc (d (by simp_all))
    ·have u:xu 33 c=false:=by simp [xu,j]
     refine qn ?_;exact qc (d (by simp_all))
    ·have u:xu 33 c=false:=by simp [xu,j]
     refine qn ?_;exact qc (d (by simp_all))
    ·have u:xu 33 c=true:=by simp [xu,j]
     simp only [↓rA,rU,A,C,G,H,y,z,zq,w,O,j,P,simprocAttr];exact⟨0,by simp_all,rfl⟩
   ·simp only [↓rA,rB,A,C,y,z,zq,WR];rw [xa (by simp)] at J;exact qc (d (by simp_all))
  ·exact qe (h:=d (by simp [wQ,D]))
theorem qj4 (f:Fac):zk prog 280 [.agg (cFac f)] (qq (!zG f.name)):=by
 refine oE func280 fun F h a=>?_;refine qb fun d e=>?_;refine qi _ (wW f.name) ?_;exact qe
abbrev fnT:V:=.lit (.func (.func 280) #[] #[])
theorem qrp (u:List Fac) (A:u.length<=1000000):Ok prog 318 [qN u,fnT] [] fun v h rs=>(∃ k:Int,v=vint k/\decide (0<=k)=!JC u)/\h=[]/\rs=[]:=by
 refine oE func318 fun F G z=>?_;simp only [↓rA,rB,results318,tU,simprocAttr];refine qG Ty.mixed (by rfl) u.length (fun i S=>(u.take i).all (fun f=>zG f.name)=true/\S.boxes=[]/\S.rows=[]/\S.σ 0=qN u/\S.σ 1=fnT/\S.σ 7=vint u.length/\S.σ 8=vint i) ⟨0,?_⟩ (fun i S d ⟨a,w,x,j,n,o,q⟩=>?_) (fun S ⟨a,w,x,j,n,o,q⟩=>?_)
 ·exact qA
 ·have D:=qj d;have C:=yH (p:=fun f:Fac=>zG f.name) d;have y:=yI (p:=fun f:Fac=>zG f.name) d;refine qn ?_;refine qo _ (qj4 u[i]) ?_;cases e:zG u[i].name
  ·refine qa ?_;exact r0 ⟨⟨i,rfl,by rw [JC,y e];simp⟩,rfl,rfl⟩
  ·refine qa ?_;simp_all
 ·refine qn ?_;rw [xa (w3 _)] at a;exact r0 ⟨⟨-1,rfl,by rw [JC,a];rfl⟩,rfl,rfl⟩
theorem QC (u:List Fac) (d:u.length<=1000000):zk prog 279 [qN u,fnT] (qq (!JC u)):=by
 refine oE func279 fun F n e=>?_;refine qa ?_;refine qr [] [] (zp _) (qrp u d) ?_;rintro v h j ⟨⟨k,rfl,a⟩,rfl,rfl⟩;simp only [↓rA,rU,simprocAttr];exact qc (by rw [a])
theorem X2 (k:Int) (u:List Fac) (of:Str):zk prog 210 [vTy k u of] (vint (kj k u of)):=by
 have d:∀ {a b:Int},a=b->V.lit (.int .i64 a)=vint b:=fun h=>by rw [h]
 refine oE func210 fun F G A=>?_;refine qb fun C D=>?_;by_cases j:k < 1
 ·exact qe (h:=d (by simp [kj,j]))
 by_cases p:5 < k
 ·exact qe (h:=d (by simp [kj,j,p]))
 by_cases q:0 < u.length
 ·have z:(0:Int) < u.length:=by omega
  refine qi _ (yz k u of) ?_;by_cases n:k=2∨k=3
  ·have x:¬ k=5:=by omega
   by_cases o:of=qH
   ·subst o;refine qi _ (yr u) ?_;by_cases e:kJ u=0
    ·refine qa ?_;refine qo _ (QC u (by have:=jX e;omega)) ?_;cases w:JC u
     ·exact qe (h:=d (by simp [kj,j,p,n,x,e,w]))
     ·exact qe (h:=d (by simp [kj,j,p,n,x,e,w]))
    ·exact qe (h:=d (by simp [kj,j,p,n,x,e]))
   ·exact qe (h:=d (by simp [kj,j,p,n,x,o]))
  ·exact qe (h:=d (by simp [kj,j,p,q,n]))
 ·have z:¬ (0:Int) < u.length:=by omega
  by_cases n:k=5
  ·subst n;by_cases o:of=qH
   ·subst o;exact qe (h:=d (by simp [kj,q]))
   ·refine qi _ (wW of) ?_;cases e:zG of
    ·exact qe (h:=d (by simp [kj,q,o,e]))
    ·refine qi _ (yr u) ?_;by_cases w:kJ u=0
     ·refine qa ?_;refine qo _ (QC u (by omega)) ?_;cases y:JC u
      ·exact qe (h:=d (by simp [kj,q,o,e,w,y]))
      ·exact qe (h:=d (by simp [kj,q,o,e,w,y]))
     ·exact qe (h:=d (by simp [kj,q,o,e,w]))
  ·by_cases o:of=qH
   ·subst o;refine qi _ (yr u) ?_;by_cases e:kJ u=0
    ·refine qa ?_;refine qo _ (QC u (by omega)) ?_;cases w:JC u
     ·exact qe (h:=d (by simp [kj,j,p,q,n,e,w]))
     ·exact qe (h:=d (by simp [kj,j,p,q,n,e,w]))
    ·exact qe (h:=d (by simp [kj,j,p,q,n,e]))
   ·exact qe (h:=d (by simp [kj,j,p,q,n,o]))
theorem qax (u v:List Fac) (hu:u.length<=big):zk prog 327 [qN u,qN v] (qq (decide (u=v))):=by
 unfold big at hu;refine oE func327 fun F D A=>?_;by_cases j:¬ u.length=v.length
 ·have z:¬ (u.length:Int)=v.length:=by omega
  exact qe (h:=qQ (decide_eq_false fun e=>j (by rw [e])).symm)
 have z:(u.length:Int)=v.length:=by omega
 have j:u.length=v.length:=by omega
 refine qa ?_;refine qG Ty.mixed (by kernel_rfl) v.length (fun i S=>u.take i=v.take i/\S.boxes=[]/\S.rows=[]/\S.σ 0=qN u/\S.σ 1=qN v/\S.σ 12=vint v.length/\S.σ 13=vint i) ⟨0,?_⟩ (fun i S d ⟨a,q,w,k,n,o,p⟩=>?_) (fun S ⟨a,q,w,k,n,o,p⟩=>?_)
 ·exact qD
 ·have C:=qj d;have y:i < u.length:=by omega
  refine qn ?_;apply qf <;> intro x
  ·refine qa ?_;refine qc (qQ (decide_eq_false fun e=>?_).symm);simp_all
  ·refine qa ?_;refine⟨0,?_⟩;rw [zt d,zt y,a];have:u[i]=v[i]:=by
    rw [qc0];simpa using x
   rw [this]
 ·refine qn ?_;rw [xa (w3 _),xa (by omega)] at a;exact qc (qQ (decide_eq_true a).symm)
theorem qBz:∀ x:E,uh x->zk prog 281 [vE x] (vint (IntKind.i64.wrap (kY x))):=by
 intro x
 induction x using E.ind with
 | h hd l D =>
  intro w;have C:=w.len;have q:=w.args;simp only [E.args,big] at C q;rw [vE,wI];refine oE func281 fun F L G=>?_;refine qb fun d I=>?_;simp only [↓rA,rB,results281,tU,simprocAttr];refine qG Ty.mixed (by rfl) l.length (fun i S=>S.boxes=[(d,.c (cH hd (kI l)))]/\S.rows=[]/\S.σ 1=ptr d/\S.σ 2=vint (IntKind.i64.wrap (1+sizeEs (l.take i)))/\S.σ 6=kI l/\S.σ 7=vint l.length/\S.σ 8=vint i) ⟨0,?_⟩ (fun i S a ⟨o,p,z,A,e,j,k⟩=>?_) (fun S ⟨o,p,z,A,e,j,k⟩=>?_)
  ·refine qB ?_;rfl
  ·have K:=qj a;have y:=zs a;simp only [↓rA,rU,o,p,e,j,k,zq,a,qY,simprocAttr];refine qX fun H J=>?_;refine qa ?_;have u:=D l[i] y (q _ y);rw [vE,qY] at u;refine qo _ u ?_;refine qa ?_;refine⟨1,rfl,?_⟩;rw [qm7,zt a,jc];exact congrArg (fun n=>V.lit (.int .i64 (IntKind.i64.wrap n))) (by simp only [sizeEs];omega)
  ·refine qn ?_;refine qc ?_;rw [uO,xa (w3 _)];rfl
theorem qyz:∀ x:E,uh x->zV x<=big->zk prog 282 [vE x] (vint (zV x)):=by
 intro x
 induction x using E.ind with
 | h hd l G =>
  intro z w;have D:=z.len;have u:=z.args;simp only [E.args,big] at D u;rw [vp] at w;unfold big at w;rw [vE,wI];refine oE func282 fun F M H=>?_;refine qb fun e J=>?_;simp only [↓rA,rB,results282,tU,simprocAttr];refine qG Ty.mixed (by rfl) l.length (fun i S=>S.boxes=[(e,.c (cH hd (kI l)))]/\S.rows=[]/\S.σ 1=ptr e/\S.σ 2=vint (depthEs (l.take i))/\S.σ 6=kI l/\S.σ 7=vint l.length/\S.σ 8=vint i) ⟨0,?_⟩ (fun i S a ⟨p,q,A,C,j,k,o⟩=>?_) (fun S ⟨p,q,A,C,j,k,o⟩=>?_)
  ·refine qB ?_;rfl
  ·have L:=qj a;have d:=zs a;simp only [↓rA,rU,p,q,j,k,o,zq,a,qY,simprocAttr];refine qX fun I K=>?_;refine qa ?_;have hd:=uy d;have y:=G l[i] d (u _ d) (by unfold big;omega);rw [vE,qY] at y;refine qo _ y ?_;refine qa ?_;refine⟨1,rfl,?_⟩;rw [zt a,vP];exact congrArg (fun n=>V.lit (.int .i64 n)) (by simp only [depthEs];omega)
  ·refine qn ?_;refine qc ?_;rw [vp,xa (w3 _),qv (by omega) (by omega)];rfl
theorem qon (a b:Hd) (x y:List E) (hu:a.unit.length<=big):zk prog 321 [.agg (cH a (kI x)),.agg (cH b (kI y))] (qq (decide (a=b))):=by
 refine oE func321 fun F H w=>?_;refine qb fun z C=>?_;refine qb fun A D=>?_;by_cases d:a.kind=b.kind
 case neg =>
  exact qe (h:=qQ (decide_eq_false fun e=>d (by rw [e])).symm)
 by_cases j:a.op=b.op
 case neg =>
  exact qe (h:=qQ (decide_eq_false fun e=>j (by rw [e])).symm)
 by_cases k:a.name=b.name
 case neg =>
  exact qe (h:=qQ (decide_eq_false fun e=>k (by rw [e])).symm)
 by_cases n:a.table=b.table
 case neg =>
  exact qe (h:=qQ (decide_eq_false fun e=>n (by rw [e])).symm)
 have v4:=qut a.val b.val;have G:=quk a b;by_cases o:a.val=b.val
 case neg =>
  exact qe (h:=qQ (decide_eq_false fun e=>o (by rw [e])).symm)
 refine qi _ (qax a.unit b.unit hu) ?_;by_cases p:a.unit=b.unit
 case neg =>
  exact qe (h:=qQ (decide_eq_false fun e=>p (by rw [e])).symm)
 by_cases q:a.param=b.param
 case neg =>
  exact qe (h:=qQ (decide_eq_false fun e=>q (by rw [e])).symm)
 by_cases u:a.wk=b.wk/\a.ws=b.ws
 case neg =>
  exact qe (h:=qQ (decide_eq_false fun e=>u (by simp_all)).symm)
 refine qa ?_;exact qc (qQ (decide_eq_true (by rw [qla];simp_all)).symm)
theorem XZ (u v:List Fac) (hu:u.length<=big):zk prog 286 [qN u,qN v] (qq (decide (u=v))):=by
 refine oE func286 fun F d a=>?_;refine qi _ (qax u v hu) ?_;exact qe
theorem qI4:Le (.agg [vint 0,nilS,vstr qH]) (w8 typ0):=wc (.c1 (.cons (Le.nil 2) (.c1 .nil)))
theorem kr (e:Int):zk prog 284 [vint e] (.tup [w8 typ0,vint e]):=by
 refine oE func284 fun F j a=>?_;refine qb fun d h=>?_;refine qa ?_;exact⟨_,[],[],jf (.cons qI4 (.c1 .nil)),zn _,zn _,rfl,rfl,rfl⟩
def ul (a b:Typ):Typ × Int:=if a.kind=b.kind/\a.of=b.of then (if a.unit=b.unit then (a,0) else (typ0,70)) else (typ0,5)
theorem qb1 (a b:Typ) (p:xK a):zk prog 213 [w8 a,w8 b] (.tup [w8 (ul a b).1,vint (ul a b).2]):=by
 have d:=XZ a.unit b.unit p;refine oE func213 fun F y q=>?_;refine qb fun u k=>?_;refine qb fun w n=>?_;refine qb fun x o=>?_;have e:=aI k (aI n o);by_cases h:a.kind=b.kind
 case neg =>
  rw [show ul a b=(typ0,5) by unfold ul;simp_all];refine qi _ (kr 5) ?_;exact qe
 by_cases j:a.of=b.of
 case neg =>
  rw [show ul a b=(typ0,5) by unfold ul;simp_all];refine qi _ (kr 5) ?_;exact qe
 by_cases hu:a.unit=b.unit
 case neg =>
  rw [show ul a b=(typ0,70) by unfold ul;simp_all];rw [decide_eq_false hu] at d;refine qi _ d ?_;refine qi _ (kr 70) ?_;exact qe
 rw [show ul a b=(a,0) by unfold ul;simp_all];rw [decide_eq_true hu] at d;simp only [↓rA,rU,e,h,j,simprocAttr];refine qo _ d ?_;simp only [↓rA,rU,e,h,j,simprocAttr];exact qc (by simp_all)
end Go.Proofs.YtkdgbjhbpbgdeaaGreatDoor
namespace Go.Lo
def vI (l:List Str) (s:Str):List Str:=if memS' l s=true then l else l++[s]
where memS' (l:List Str) (s:Str):Bool:=l.any fun x=>decide (x=s)
mutual
def qls:E->List Str × List Str->List Str × List Str
 | .mk h l,p=>dirEs l (if h.kind=3 then (vI p.1 h.name,p.2) else if h.kind=4 then (vI p.1 h.name,p.2) else if h.kind=5 then (p.1,vI p.2 h.table) else p)
def dirEs:List E->List Str × List Str->List Str × List Str
 | [],p=>p
 | x::r,p=>dirEs r (qls x p)
end
theorem qEy (h:Hd) (l:List E) (p:List Str × List Str):qls (.mk h l) p=dirEs l (if h.kind=3 then (vI p.1 h.name,p.2) else if h.kind=4 then (vI p.1 h.name,p.2) else if h.kind=5 then (p.1,vI p.2 h.table) else p):=by rfl
theorem KI:∀ (l m:List E) (p:List Str × List Str),dirEs (l++m) p=dirEs m (dirEs l p)
 | [],m,p=>rfl
 | x::r,m,p=>by simp only [List.cons_append,dirEs,KI r m]
def Qz:Nat->List Str->List Ent
 | _,[]=>[]
 | i,s::r=>(i,.string s,qq true)::Qz (i+1) r
theorem Zu:∀ (i:Nat) (l:List Str) (s:Str),Qz i (l++[s])=Qz i l++[(i+l.length,.string s,qq true)]
 | i,[],s=>rfl
 | i,x::r,s=>by simp only [List.cons_append,Qz,Zu (i+1) r s,List.length_cons,show i+1+r.length=i+(r.length+1) by omega]
abbrev mS (l:List Str):B:=.m ([.s],false) (Qz 0 l) l.length
theorem ZT:∀ (i:Nat) (l:List Str) (s:Str),findM (Qz i l) (.string s)=if vI.memS' l s=true then some (qq true) else none
 | i,[],s=>rfl
 | i,x::r,s=>by
  have a:=ZT (i+1) r s;have d:uG (.string s) (.string x)=decide (x=s):=by
   simp only [uG,Value.cells];simp [kQ,veq,eq_comm]
  unfold findM at a ⊢;simp only [Qz,List.find?_cons,d,vI.memS',List.any_cons] at a ⊢;by_cases e:x=s
  ·simp [e]
  ·simp only [decide_eq_false e,qP4];exact a
theorem Ko:∀ (i:Nat) (l:List Str) (s:Str),Z2 (.string s) (qq true) (Qz i l)=Qz i l
 | i,[],s=>rfl
 | i,x::r,s=>by
  have a:=Ko (i+1) r s;simp only [Qz,Z2,a];simp
end Go.Lo
namespace Go.Proofs.YtkdgbjhbpbgdeaaGreatDoor
theorem qsk:∀ (x:E),uh x->∀ (p:List Str × List Str) (a d:Nat) (hb:a ≠ d/\d ≠ a),Ok prog 287 [vE x,.lit (.map (some a)),.lit (.map (some d))] [(a,mS p.1),(d,mS p.2)] fun v M rs=>v=.tup []/\M=[(a,mS (qls x p).1),(d,mS (qls x p).2)]/\rs=[]:=by
 intro x
 induction x using E.ind with
 | h hd l W =>
 intro Q p a d hb;have U:=Q.len;have O:=Q.args;simp only [E.args,big] at U O;rw [vE,wI,qEy];generalize n:(if hd.kind=3 then (vI p.1 hd.name,p.2) else if hd.kind=4 then (vI p.1 hd.name,p.2) else if hd.kind=5 then (p.1,vI p.2 hd.table) else p)=q;refine oE func287 fun F w0 X=>?_;refine qb fun y J=>?_;simp only [↓zu,↓wh,↓qJ,↓zx,↓qdt,↓QI,↓Zn,↓jh,↓Wk,qu,kM,jx,ky,ub,kO,jA,zP,uo,Xs,qdh,Wg,qNk,List.toList_toArray,Nat.add_zero,results287,tU,Nat.reduceShiftRight,Nat.reduceMod];refine xe (fun S=>S.boxes=[(y,.c (cH hd (kI l))),(a,mS q.1),(d,mS q.2)]/\S.rows=[]/\S.σ 1=.lit (.map (some a))/\S.σ 2=.lit (.map (some d))/\S.σ 3=ptr y) ?_ ?_
 ·have K:∀ (k:Str) (m:List Str),findM (Qz 0 m) (.string k)=none->mS (vI m k)=.m ([.s],false) (Qz 0 m++[(m.length,.string k,qq true)]) (m.length+1):=fun k m h=>by
   rw [ZT] at h;have:vI.memS' m k=false:=by
    cases e:vI.memS' m k
    ·rfl
    ·simp_all
   unfold mS vI;rw [if_neg (by simp_all),Zu,qJ0,zr];rfl
  have L:∀ (k:Str) (m:List Str) (v:V),findM (Qz 0 m) (.string k)=some v->vI m k=m:=fun k m v h=>by
   rw [ZT] at h;unfold vI;simp_all
  by_cases z:hd.kind=3
  ·rw [if_pos z] at n;subst n;cases j:findM (Qz 0 p.1) (.string hd.name) with
   | none =>
    rw [K _ _ j];exact kK
   | some v =>
    rw [L _ _ _ j];simp only [↓rA,rU,J,z,j,Ko,simprocAttr]
  rw [if_neg z] at n;by_cases A:hd.kind=4
  ·rw [if_pos A] at n;subst n;cases j:findM (Qz 0 p.1) (.string hd.name) with
   | none =>
    rw [K _ _ j];exact kK
   | some v =>
    rw [L _ _ _ j];simp only [↓rA,rU,J,A,j,Ko,simprocAttr]
  rw [if_neg A] at n;by_cases C:hd.kind=5
  ·rw [if_pos C] at n;subst n;cases j:findM (Qz 0 p.2) (.string hd.table) with
   | none =>
    rw [K _ _ j];exact kK
   | some v =>
    rw [L _ _ _ j];simp only [↓rA,rU,J,hb,C,j,Ko,simprocAttr]
  rw [if_neg C] at n;subst n;exact kK
 ·rintro S ⟨o,u,D,G,T⟩;simp only [↓rA,rB,o,T,tU,Nat.reduceShiftRight,Nat.reduceMod];refine qG Ty.mixed (by rfl) l.length (fun i S=>S.boxes=[(y,.c (cH hd (kI l))),(a,mS (dirEs (l.take i) q).1),(d,mS (dirEs (l.take i) q).2)]/\S.rows=[]/\S.σ 1=.lit (.map (some a))/\S.σ 2=.lit (.map (some d))/\S.σ 22=kI l/\S.σ 23=vint l.length/\S.σ 24=vint i) ⟨0,?_⟩ (fun i S w ⟨o,u,D,G,N,H,I⟩=>?_) (fun S ⟨o,u,D,G,N,H,I⟩=>?_)
  ·simp only [rU,o,u,D,G,dirEs,simprocAttr]
  ·have aa:=qj w;have R:=zs w;simp only [↓rA,rU,o,u,N,H,I,zq,w,qY,simprocAttr];refine qX fun Y h7=>?_;refine qa ?_;have P:=W l[i] R (O _ R) (dirEs (l.take i) q) a d hb;rw [vE,qY] at P;refine qr _ [] (qKy (wl _).symm) (Ok.frame [_,_] P) ?_;rintro v M rs ⟨Z,rfl,_,rfl,rfl,rfl⟩;refine qa ?_;refine⟨1,?_⟩;rw [zt w,KI];rfl
  ·rw [xa (w3 _)] at o;simp only [↓rA,rB,o,u,H,I,zq,WR];exact⟨_,[_,_],[],Le.refl _,List.Sublist.cons _ (zc _),zn _,rfl,rfl,rfl⟩
def xl (l:List Ftr) (s:Str):Option Ftr:=l.find? fun f=>decide (f.name=s)
theorem qx8 (f:Ftr) (s:Str) (b:Nat):Ok prog 175 [.agg (cFtr f),ptr b] [(b,.c [vstr s])] fun v a rs=>v=qq (decide (f.name=s))/\a=[(b,.c [vstr s])]/\rs=[]:=by
 simp only [qs];refine oE func175 fun F k d=>?_;refine qb fun h j=>?_;by_cases e:f.name=s
 ·refine qa ?_;exact⟨_,[_],[],Le.refl _,List.Sublist.cons _ (zc _),zn _,rfl,rfl,rfl⟩
 ·refine qa ?_;exact⟨_,[_],[],Le.refl _,List.Sublist.cons _ (zc _),zn _,rfl,rfl,rfl⟩
abbrev fnF (b:Nat):V:=.lit (.func (.func 175) #[] #[.pointer (some ⟨b,0,none⟩)])
theorem qrq (l:List Ftr) (s:Str) (b:Nat) (y:l.length<=big):Ok prog 174 [qm l,fnF b] [(b,.c [vstr s])] fun v j rs=>j=[(b,.c [vstr s])]/\rs=[] /\
  ((xl l s=none/\v=vint (-1))∨∃ i,∃ h:i < l.length,xl l s=some l[i]/\v=vint i):=by
 unfold big at y;refine oE func174 fun F C z=>?_;simp only [↓rA,rB,results174,tU,simprocAttr];refine qG Ty.mixed (by rfl) l.length (fun i S=>xl (l.take i) s=none/\S.boxes=[(b,.c [vstr s])]/\S.rows=[]/\S.σ 0=qm l/\S.σ 1=fnF b/\S.σ 7=vint l.length/\S.σ 8=vint i) ⟨0,?_⟩ (fun i S d ⟨a,q,u,k,n,o,p⟩=>?_) (fun S ⟨a,q,u,k,n,o,p⟩=>?_)
 ·refine qB ?_;rfl
 ·have A:=qj d;have x:xl l s=(xl (l.take i) s).or (xl (l.drop i) s):=by
   unfold xl
   conv=>lhs;rw [<-qBq i l]
   rw [qO7]
  simp only [↓rA,rU,q,k,n,o,p,zq,d,qs,simprocAttr];have w:=qx8 l[i] s b;rw [qs] at w;refine qr _ [] (zp _) w ?_;rintro v j rs ⟨rfl,rfl,rfl⟩;by_cases e:l[i].name=s
  ·simp only [↓rA,rU,u,decide_eq_true e,simprocAttr];exact⟨_,_,[],Le.refl _,zc _,zn _,rfl,rfl,.inr ⟨i,d,by rw [x,a,qGt d];simp only [Option.none_or,xl,List.find?_cons,decide_eq_true e],rfl⟩⟩
  ·refine qa ?_;refine⟨0,?_,rfl⟩;have:xl (l.take (i+1)) s=(xl (l.take i) s).or (xl [l[i]] s):=by
    unfold xl;rw [zt d,qO7]
   rw [this,a];simp [xl,e]
 ·refine qn ?_;rw [xa (w3 _)] at a;exact⟨_,_,[],Le.refl _,zc _,zn _,rfl,rfl,.inl ⟨a,rfl⟩⟩
abbrev qS0:Ftr:=⟨qH,qH,⟨0,[],qH⟩,exp0,0⟩
abbrev J4 (o:Option Ftr):V:=match o with | some f=>.tup [.agg (cFtr f),qq true] | none=>.tup [.agg (cFtr qS0),qq false]
theorem qDv (l:List Ftr) (s:Str) (a:l.length<=big):zk prog 109 [qm l,vstr s] (J4 (xl l s)):=by
 have k:=a;unfold big at k;refine oE func109 fun F y p=>?_;refine qb fun d w=>?_;refine qb fun q h=>?_;refine qa ?_;refine qr [_] [_] (List.Perm.swap _ _ _) (qrq l s d a) ?_;rintro v u x ⟨rfl,rfl,⟨n,rfl⟩ | ⟨i,j,o,rfl⟩⟩
 ·rw [n];refine qa ?_;exact⟨_,[],[],jf (.cons (wc (.c1 (.c1 (.c1 (.cons (Le.nil 2) (.c1 (.c1 (.c1 (.c1 (.c1 (.c1 (.c1 (.c1 (.cons (Le.nil 2) (.c1 (.c1 (.c1 (.cons (Le.nil 12) (.c1 .nil))))))))))))))))))) (.c1 .nil)),zn _,zn _,rfl,rfl,rfl⟩
 ·rw [o];have e:(0:Int)<=(i:Int):=by omega
  simp only [↓rA,rU,h,e,zq,j,qs,simprocAttr];exact r0 ⟨rfl,rfl,rfl⟩
theorem Y6 (c:Cat) (s:Str) (a:c.features.length<=big):zk prog 75 [zO c,vstr s] (J4 (xl c.features s)):=by
 have d:=qDv c.features s a;refine oE func75 fun F o e=>?_;refine qb fun h k=>?_;refine qb fun j n=>?_;refine qi _ d ?_;cases xl c.features s with
 | none =>
  simp only [J4,qs];exact qe
 | some f =>
  simp only [J4,qs];exact qe
end Go.Proofs.YtkdgbjhbpbgdeaaGreatDoor
namespace Go.Proofs
open Go.Shelf
def Tryz.sortS_ren:Go.Shelf.Ren:=⟨fun | 54=>291 | 64=>88 | 65=>329 | 78=>144 | 79=>145 | 80=>360 | 81=>361 | 82=>362 | 83=>363 | 84=>364 | 85=>365 | 61=>366 | 86=>367 | 87=>368 | 93=>382 | 89=>219 | 90=>220 | 94=>383 | 95=>384 | 69=>184 | 97=>395 | n=>n,fun | 25=>56 | 26=>9 | 3=>3 | 51=>174 | 0=>0 | 67=>203 | 69=>205 | 4=>4 | 61=>197 | 60=>196 | 44=>139 | 5=>5 | 9=>9 | 75=>272 | 79=>276 | 83=>329 | 84=>330 | n=>n,fun | n=>n⟩
theorem Tryz.sortS:Go.Proofs.SlLaysN.n54 Tryz.prog Tryz.sortS_ren:={
 mixed:=by rfl
 f54:=⟨Tryz.f291.name,by decide,ly Tryz.func291⟩
 f61:=⟨Tryz.f366.name,by decide,ly Tryz.func366⟩
 f64:=ly Tryz.func88
 f65:=⟨Tryz.f329.name,by decide,ly Tryz.func329⟩
 f69:=⟨Tryz.f184.name,by decide,ly Tryz.func184⟩
 f78:=ly Tryz.func144
 f79:=ly Tryz.func145
 f80:=⟨Tryz.f360.name,by decide,ly Tryz.func360⟩
 f81:=⟨Tryz.f361.name,by decide,ly Tryz.func361⟩
 f82:=⟨Tryz.f362.name,by decide,ly Tryz.func362⟩
 f83:=⟨Tryz.f363.name,by decide,ly Tryz.func363⟩
 f84:=⟨Tryz.f364.name,by decide,ly Tryz.func364⟩
 f85:=⟨Tryz.f365.name,by decide,ly Tryz.func365⟩
 f86:=⟨Tryz.f367.name,by decide,ly Tryz.func367⟩
 f87:=⟨Tryz.f368.name,by decide,ly Tryz.func368⟩
 f89:=ly Tryz.func219
 f90:=ly Tryz.func220
 f93:=⟨Tryz.f382.name,by decide,ly Tryz.func382⟩
 f94:=⟨Tryz.f383.name,by decide,ly Tryz.func383⟩
 f95:=⟨Tryz.f384.name,by decide,ly Tryz.func384⟩
 f97:=⟨Tryz.f395.name,by decide,ly Tryz.func395⟩
 t0:=Tryz.underlying0
 a0:=Tryz.isAgg0
 z0:=Tryz.sizeOf0
 v0:=Tryz.zeroValue0
 t3:=Tryz.underlying3
 a3:=Tryz.isAgg3
 z3:=Tryz.sizeOf3
 v3:=Tryz.zeroValue3
 t4:=Tryz.underlying4
 a4:=Tryz.isAgg4
 z4:=Tryz.sizeOf4
 v4:=Tryz.zeroValue4
 t5:=Tryz.underlying5
 a5:=Tryz.isAgg5
 z5:=Tryz.sizeOf5
 v5:=Tryz.zeroValue5
 t9:=Tryz.underlying9
 a9:=Tryz.isAgg9
 z9:=Tryz.sizeOf9
 v9:=Tryz.zeroValue9
 t25:=Tryz.underlying56
 a25:=Tryz.isAgg56
 z25:=Tryz.sizeOf56
 v25:=Tryz.zeroValue56
 t26:=Tryz.underlying9
 a26:=Tryz.isAgg9
 z26:=Tryz.sizeOf9
 v26:=Tryz.zeroValue9
 t44:=Tryz.underlying139
 a44:=Tryz.isAgg139
 z44:=Tryz.sizeOf139
 v44:=Tryz.zeroValue139
 t51:=Tryz.underlying174
 a51:=Tryz.isAgg174
 z51:=Tryz.sizeOf174
 v51:=Tryz.zeroValue174
 t60:=Tryz.underlying196
 a60:=Tryz.isAgg196
 z60:=Tryz.sizeOf196
 v60:=Tryz.zeroValue196
 t61:=Tryz.underlying197
 a61:=Tryz.isAgg197
 z61:=Tryz.sizeOf197
 v61:=Tryz.zeroValue197
 t67:=Tryz.underlying203
 a67:=Tryz.isAgg203
 z67:=Tryz.sizeOf203
 v67:=Tryz.zeroValue203
 t69:=Tryz.underlying205
 a69:=Tryz.isAgg205
 z69:=Tryz.sizeOf205
 v69:=Tryz.zeroValue205
 t75:=Tryz.underlying272
 a75:=Tryz.isAgg272
 z75:=Tryz.sizeOf272
 v75:=Tryz.zeroValue272
 t79:=Tryz.underlying276
 a79:=Tryz.isAgg276
 z79:=Tryz.sizeOf276
 v79:=Tryz.zeroValue276
 t83:=Tryz.underlying329
 a83:=Tryz.isAgg329
 z83:=Tryz.sizeOf329
 v83:=Tryz.zeroValue329
 t84:=Tryz.underlying330
 a84:=Tryz.isAgg330
 z84:=Tryz.sizeOf330
 v84:=Tryz.zeroValue330 }
end Go.Proofs
namespace Go.VL
open Go.RowKit Go.Sort Go.Shelf Go.Lib Go.Proofs
theorem Ok.sortStrNil {P:Program} {a:Ren} (L:SlLaysN.n54 P a) (cap:Nat):zk P (a.f 54) [.lit (.slice none 0 cap)] (.tup []):=by
 intro w I n j d;obtain rfl:n=[.slice none 0 cap]:=qcc j;refine(AnyG.slices_Sort_string_none L none cap w).mono fun e o ⟨h,k⟩=>?_;subst k;exact⟨_,.tup [],[],[],I,h,by simp only [V.rep];exact⟨#[],rfl,by simp [V.reps]⟩,qV.refl _ _ _,d,by simp [qL],rfl,rfl,rfl⟩
end Go.VL
namespace Go.Proofs.YtkdgbjhbpbgdeaaGreatDoor
theorem Yj:zk prog 291 [nilS] (.tup []):=Ok.sortStrNil Tryz.sortS 0
abbrev mp (b:Nat):V:=.lit (.map (some b))
abbrev fnK (a:Nat):V:=.lit (.func (.func 330) #[] #[.pointer (some ⟨a,0,none⟩)])
end Go.Proofs.YtkdgbjhbpbgdeaaGreatDoor
namespace Go.Lo
section
variable {α β δ γ:Type} [DecidableEq α]
abbrev qP (kV:α->Value) (cV:β->V) (g:List (Nat × α × β)):List Ent:=g.map fun p=>(p.1,kV p.2.1,cV p.2.2)
def zy (g:List (Nat × α × β)) (a:α):Option (Nat × α × β):=g.find? fun p=>decide (a=p.2.1)
def ko (a:α) (v:β):List (Nat × α × β)->List (Nat × α × β)
 | []=>[]
 | p::g=>if a=p.2.1 then (p.1,p.2.1,v)::g else p::ko a v g
variable {kV:α->Value} {cV:β->V}
theorem Zt (d:∀ a b,uG (kV a) (kV b)=decide (a=b)) (a:α):∀ g:List (Nat × α × β),QW (qP kV cV g) (kV a)=(zy g a).map fun p=>(p.1,kV p.2.1,cV p.2.2)
 | []=>rfl
 | p::g=>by
  have e:=Zt d a g;simp only [QW,zy] at e ⊢;simp only [qP,z7,List.find?_cons,d];cases decide (a=p.2.1)
  ·omega
  ·rfl
theorem zb (d:∀ a b,uG (kV a) (kV b)=decide (a=b)) (a:α) (g:List (Nat × α × β)):findM (qP kV cV g) (kV a)=(zy g a).map fun p=>cV p.2.2:=by
 have:=Zt (cV:=cV) d a g;unfold QW at this;unfold findM;rw [this,Option.map_map];rfl
theorem xI (d:∀ a b,uG (kV a) (kV b)=decide (a=b)) (a:α) (v:β):∀ g:List (Nat × α × β),Z2 (kV a) (cV v) (qP kV cV g)=qP kV cV (ko a v g)
 | []=>rfl
 | p::g=>by
  have e:=xI d a v g;simp only [qP,z7,Z2,ko,d,decide_eq_true_eq] at e ⊢;by_cases h:a=p.2.1
  ·simp_all
  simp_all
variable {g:List (Nat × α × β)} {p:Nat × α × β}
theorem xh {a:α} (h:zy g a=some p):p ∈ g/\a=p.2.1:=⟨qOc h,by simpa using List.find?_some h⟩
theorem vn {a:α} (h:zy g a=none):∀ p ∈ g,¬ a=p.2.1:=fun p d=>by
 have:=List.find?_eq_none.1 h p d;simp_all
theorem Wu (a:α) (v:β) (b:α):∀ g:List (Nat × α × β),zy (ko a v g) b=(zy g b).map fun p=>if p.2.1=a then (p.1,p.2.1,v) else p
 | []=>rfl
 | p::g=>by
  have j:=Wu a v b g;unfold zy at j ⊢;unfold ko;by_cases e:a=p.2.1
  ·rw [if_pos e];simp only [List.find?_cons];by_cases d:b=p.2.1
   ·simp_all
   ·simp only [d,decide_false];cases h:g.find? fun p=>decide (b=p.2.1) with
    | none=>rfl
    | some q =>
     have k:b=q.2.1:=by simpa using List.find?_some h
     simp_all
  ·rw [if_neg e];simp only [List.find?_cons];by_cases d:b=p.2.1
   ·simp [d,qKh e]
   simp_all
theorem ut (b:α):zy (g++[p]) b=match zy g b with | some q=>some q | none=>if b=p.2.1 then some p else none:=by
 unfold zy;rw [qO7];cases g.find? fun p=>decide (b=p.2.1) with
 | none=>simp
 | some q=>simp
theorem Kp (a:α) (v:β):∀ g:List (Nat × α × β),(ko a v g).length=g.length
 | []=>rfl
 | p::g=>by
  have:=Kp a v g;unfold ko;split <;> simp [this]
theorem uX {a:α} {v:β}:∀ {g:List (Nat × α × β)} {q:Nat × α × β},q ∈ ko a v g->∃ p ∈ g,q.1=p.1/\q.2.1=p.2.1/\(q=p∨q.2.2=v)
 | [],_,h=>by cases h
 | p::g,q,h=>by
  unfold ko at h;split at h
  ·rcases xb.1 h with rfl | h
   ·simp
   ·exact⟨q,z8 _ h,rfl,rfl,.inl rfl⟩
  ·rcases xb.1 h with rfl | h
   ·simp
   ·obtain⟨j,d,e⟩:=uX h;exact⟨j,z8 _ d,e⟩
abbrev zT (g:List (Nat × α × β)):Prop:=g.Pairwise fun p q=>p.1 < q.1/\¬ p.2.1=q.2.1
theorem Xx {a:α} {v:β}:∀ {g:List (Nat × α × β)},zT g->zT (ko a v g)
 | [],h=>h
 | p::g,h=>by
  have hc:=vt.1 h;unfold ko;split
  ·exact vt.2 ⟨fun q d=>hc.1 q d,hc.2⟩
  ·refine vt.2 ⟨fun q d=>?_,Xx hc.2⟩;obtain⟨j,e,k,n,_⟩:=uX d;have:=hc.1 j e;simp_all
structure kd (pr:β->δ) (f:α->Option δ) (g:List (Nat × α × β)) (cl:Nat):Prop where
 lt:∀ p ∈ g,p.1 < cl
 apart:zT g
 val:∀ a,(zy g a).map (fun p=>pr p.2.2)=f a
def Z0 (f:α->Option δ) (a:α) (v:δ):α->Option δ:=fun b=>if b=a then some v else f b
variable {pr:β->δ} {f:α->Option δ}
theorem kd.nil:kd (α:=α) pr (fun _=>none) [] 0:=⟨by simp,List.Pairwise.nil,fun _=>rfl⟩
theorem kd.new {cl:Nat} (h:kd pr f g cl) {a:α} (k:zy g a=none) (v:β):kd pr (Z0 f a (pr v)) (g++[(cl,a,v)]) (cl+1) where
 lt p d:=by
  rcases z6.1 d with d | d
  ·exact qOf (h.lt p d)
  simp_all
 apart:=by
  refine qMl.2 ⟨h.apart,by simp,fun p d q j=>?_⟩;rw [kl] at j;subst j;exact⟨h.lt p d,fun e=>vn k p d e.symm⟩
 val b:=by
  rw [ut];unfold Z0;have o:=h.val b;by_cases e:b=a
  ·simp_all
  ·rw [if_neg e];cases n:zy g b with
   | none=>simp_all
   | some q=>simp_all
theorem kd.old {cl:Nat} (h:kd pr f g cl) {a:α} (d:zy g a=some p) (v:β):kd pr (Z0 f a (pr v)) (ko a v g) cl where
 lt q hq:=by
  obtain⟨w,o,k,_⟩:=uX hq;rw [k];exact h.lt w o
 apart:=Xx h.apart
 val b:=by
  rw [Wu];unfold Z0;have u:=h.val b;by_cases e:b=a
  ·subst e;rw [d,if_pos rfl];simp [(xh d).2]
  ·rw [if_neg e,<-u];cases n:zy g b with
   | none=>rfl
   | some q =>
    have:¬ q.2.1=a:=fun j=>e ((xh n).2.trans j);simp_all
def xP (g:List (Nat × α × β)) (seen:List Nat):List (Nat × α × β):=g.filter fun p=>!seen.contains p.1
omit [DecidableEq α] in
theorem qU (seen:List Nat):Ks (qP kV cV g) seen=qP kV cV (xP g seen):=by
 simp only [Ks,qP,xP,List.filter_map];rfl
omit [DecidableEq α] in
theorem Xz {seen:List Nat} {p:Nat × α × β}:∀ {g:List (Nat × α × β)},zT g->p ∈ xP g seen->(xP g seen).Perm (p::xP g (seen++[p.1]))
 | [],_,h=>by cases h
 | q::g,hp,h=>by
  have hc:=vt.1 hp;have d:=Xz (seen:=seen) (p:=p) hc.2;unfold xP at h d ⊢;rw [J0] at h ⊢;cases a:seen.contains q.1
  ·simp only [a,qMw,if_true] at h ⊢;rcases xb.1 h with rfl | h
   ·have e:(seen++[p.1]).contains p.1=true:=by simp
    rw [J0];simp only [e,qL3,kA,if_false];refine List.Perm.cons _ ?_;rw [show g.filter (fun q=>!(seen++[p.1]).contains q.1)=g.filter (fun q=>!seen.contains q.1) from qN6 fun q j=>by
     have:=(hc.1 q j).1;simp [show ¬ q.1=p.1 by omega]]
   ·have n:q.1 < p.1:=(hc.1 p (qA6.1 h).1).1;have k:¬ q.1 ∈ seen:=by simpa using a
    have e:(seen++[p.1]).contains q.1=false:=by simp [k,show ¬ q.1=p.1 by omega]
    rw [J0];simp only [e,qMw,if_true];exact(List.Perm.cons q (d h)).trans (List.Perm.swap p q _)
  simp_all
omit [DecidableEq α] in
theorem xW {seen:List Nat} (a:zT g) (d:p ∈ xP g seen):(xP g (seen++[p.1])).length < (xP g seen).length:=by
 have:=(Xz a d).length_eq;simp_all
def ve (h:α × β->Option γ) (g:List (Nat × α × β)) (seen:List Nat) (a:List γ):Prop:=(a++(xP g seen).filterMap fun p=>h p.2).Perm (g.filterMap fun p=>h p.2)
variable {h:α × β->Option γ}
omit [DecidableEq α] in
theorem ve.start (g:List (Nat × α × β)):ve h g [] []:=by
 have:xP g []=g:=qLv.2 (by simp);unfold ve;simp_all
omit [DecidableEq α] in
theorem ve.step {seen:List Nat} {d:List γ} (j:ve h g seen d) (k:zT g) (n:p ∈ xP g seen):ve h g (seen++[p.1]) (d++(h p.2).toList):=by
 unfold ve at j ⊢;refine List.Perm.trans ?_ j;have a:=(Xz k n).filterMap fun p=>h p.2;rw [List.filterMap_cons] at a;rw [jm];refine qN9 d ?_;cases e:h p.2 with
 | none=>rw [e] at a;simpa using a.symm
 | some r=>rw [e] at a;simpa using a.symm
omit [DecidableEq α] in
theorem ve.len {seen:List Nat} {a:List γ} (d:ve h g seen a):a.length<=g.length:=by
 have:=d.length_eq;have e:=qRl (fun p:Nat × α × β=>h p.2) g;rw [zr] at this;omega
omit [DecidableEq α] in
theorem ve.done {seen:List Nat} {a:List γ} (d:ve h g seen a) (e:xP g seen=[]):a.Perm (g.filterMap fun p=>h p.2):=by
 unfold ve at d;simp_all
end
abbrev u4 (i:FID):Value:=.agg [.string i.src,.int .i64 i.seq].toArray
abbrev Jt (s:Str):Value:=.string s
abbrev kSS (p:Str × Str):Value:=.agg [.string p.1,.string p.2].toArray
theorem jn (a b:FID):uG (u4 a) (u4 b)=decide (a=b):=by
 obtain⟨d,e⟩:=a;obtain⟨h,j⟩:=b;simp only [uG,Value.cells,kQ,veq,FID.mk.injEq];simp
theorem kW (a b:Str):uG (Jt a) (Jt b)=decide (a=b):=by
 simp only [uG,Value.cells,kQ,veq,qM9]
theorem YP (a b:Str × Str):uG (kSS a) (kSS b)=decide (a=b):=by
 obtain⟨d,e⟩:=a;obtain⟨h,j⟩:=b;simp only [uG,Value.cells,kQ,veq,qQl];simp
abbrev mp (b:Nat):V:=.lit (.map (some b))
abbrev mG {a:Type} (cV:a->V) (g:List (Nat × Str × a)) (cl:Nat):B:=.m ([.s],false) (qP Jt cV g) cl
abbrev xA {a:Type} (g:List (Nat × Str × a)):List Str:=g.map fun p=>p.2.1
abbrev vT:Unit->V:=fun _=>qq true
end Go.Lo
namespace Go.VL
open Go.RowKit Go.Sort Go.Shelf Go.Lib Go.Proofs
abbrev vS (s:ByteArray):V:=.lit (.string s)
def w9 (a:List ByteArray):List ByteArray:=((a.map (·.data.toList)).mergeSort fun x y=>decide (x<=y)).map fun l=>⟨l.toArray⟩
theorem jJ (a:List ByteArray):(w9 a).length=a.length:=by
 unfold w9;simp
theorem K0 (a:List ByteArray):(w9 a).Perm a:=by
 have h:=(qQh (a.map (·.data.toList)) fun x y=>decide (x<=y)).map fun l=>(⟨l.toArray⟩:ByteArray);rw [qN5] at h;exact h.trans (qKy (List.map_id' _))
theorem qag (w:World) (I:Cells):∀ ls:List Value,V.reps w I (ls.map .lit) ls
 | []=>by simp [V.reps]
 | l::ls=>by
  simp only [z7,V.reps,V.rep];exact⟨trivial,qag w I ls⟩
theorem Ok.sortStr {P:Program} {ρ:Ren} (L:SlLaysN.n54 P ρ) (a:List ByteArray) (rest:List V) (b cap:Nat) (hn:a.length<=100000000) :
  Ok P (ρ.f 54) [.lit (.slice (some ⟨b,0,none⟩) a.length cap)] [(b,.c (a.map vS++rest))] fun v bs rs=>v=.tup []/\bs=[(b,.c ((w9 a).map vS++rest))]/\rs=[]:=by
 intro w I xs hr H;obtain rfl:xs=[.slice (some ⟨b,0,none⟩) a.length cap]:=qcc hr;obtain⟨arr,te,J,q2,q3,Z⟩:=H.bx _ (kl.2 rfl);have T:b < w.heap.size:=(vx.1 J).1;obtain⟨O,R⟩:=Ys q3;rw [zz] at O R;have Q:=X9 (ls:=a.map Value.string) (by rw [qN5];exact O);have ag:a.length<=arr.toList.length:=by
  have:=congrArg List.length Q;rw [kB,zz] at this;omega
 have he:∀ k:ByteArray,encStr k.data.toList=.string k:=fun k=>by
  rfl
 have U:∀ j (z:j < a.length),arr[j]? = some (.string a[j]):=fun j z=>by
  have:(arr.toList.take a.length)[j]? = (a.map Value.string)[j]? := by rw [Q]
  rw [qLd,if_pos z,qPx,yb z] at this;simp_all
 have ab:Holds encStr w b 0 (a.map (·.data.toList)).toArray:=by
  intro j z;have ad:j < a.length:=by simpa using z
  have h:=U j ad;rw [getElem!_pos _ j z];constructor
  ·simp only [World.cell?, J,qJ0];simp_all
  ·have ah:=(vx.1 h).1;simp [World.frozen?, J]
 have X:=AnyG.slices_Sort_string L b 0 cap (a.map (·.data.toList)) w ab T (by rw [zz];omega);rw [zz] at X;refine X.mono fun e C ⟨ac,n,os,A⟩=>?_;obtain⟨D,K⟩:∃ D,D=(a.map (·.data.toList)).mergeSort fun x y=>decide (x<=y):=⟨_,rfl⟩;have aa:D.length=a.length:=by rw [K,List.length_mergeSort,zz]
 have hS:w9 a=D.map fun l=>⟨l.toArray⟩:=by rw [K];rfl
 rw [<-K] at A;have S:(putCells encStr 0 D.toArray arr).toList=(w9 a).map Value.string++arr.toList.drop a.length:=by
  apply qO8;intro t;rw [qOr];unfold putCells;rw [Array.getElem?_mapIdx,hS,qN5];by_cases ht:t < a.length
  ·rw [qOw (by simp_all),U t ht,qPx,yb (by omega)];simp_all
  ·rw [qPq (by simp_all),zz,aa,qOm,show a.length+(t - a.length)=t by omega,<-qOr];cases arr.toList[t]? with
   | none=>rfl
   | some y =>
    rw [qA4,if_neg (by simp_all)]
 have W:∀ d,d < w.heap.size->C.heap[d]? = (w.heap.modify b (onCells (putCells encStr 0 D.toArray)))[d]? := fun d u=>by
  rw [A];unfold grow putRow mapBlock Go.Sort.ahead;simp only [];rw [qN8 (by simp_all)]
 have M:∀ d,d < w.heap.size->d ≠ b->C.heap[d]? = w.heap[d]? := fun d u G=>by
  rw [W d u,qPb,if_neg (qKh G)]
 have af:C.heap[b]? = some (.cells (putCells encStr 0 D.toArray arr) te.1 (0,0)):=by
  rw [W b T,qPb,if_pos rfl,J];rfl
 have Y:w.heap.size<=C.heap.size:=by
  rw [A];unfold grow putRow mapBlock Go.Sort.ahead;simp
 have N:zf w I C I:=⟨fun d o F=>⟨F,by
  have G:d ≠ b:=fun e=>Z o (e▸F);simp only [World.cell?, M d (H.inn _ _ F) G]⟩,fun d x q=>by
  have G:d ≠ b:=fun e=>by simp_all
  rw [M d (vx.1 q).1 G];omega⟩
 refine⟨.tuple #[],.tup [],[(b,.c ((w9 a).map vS++rest))],[],I,ac,by simp only [V.rep];exact⟨#[],rfl,by simp [V.reps]⟩,
  ⟨by rw [A];rfl,by simp_all,by rw [A];rfl,Y,fun d u=>M d u.1 fun e=>u.2 (by simp [e]),N,fun _ _ _ h=>h,fun _=>by rw [A];exact qQy _ _⟩,
  ⟨fun p ae=>?_,by simp,by simp [qL],fun d o F=>qMn (H.inn d o F) Y,H.glob.mono N⟩,fun d u h=>h.2 (by assumption),rfl,rfl,rfl⟩
 rw [kl.1 ae];refine⟨_,te,af,fun x q=>?_,?_,Z⟩
 ·rw [S] at q;rcases z6.1 q with q | q
  ·obtain⟨y,_,rfl⟩:=x9.1 q;trivial
  ·exact q2 _ (qEu q)
 ·rw [S];refine U2 ?_ (V.reps_mono N _ _ R);have:=qag C I ((w9 a).map Value.string);rwa [qN5] at this
end Go.VL
namespace Go.Lo
theorem Kv {β:Type}:∀ g:List (Nat × Str × β),(g.filterMap fun p=>(fun q:Str × β=>some q.1) p.2)=xA g
 | []=>rfl
 | p::g=>by
  simp
end Go.Lo
namespace Go.Proofs.YtkdgbjhbpbgdeaaGreatDoor
abbrev fnQ (gf:FuncId) (a:Nat):V:=.lit (.func (.func gf) #[] #[.pointer (some ⟨a,0,none⟩)])
abbrev K2 (gf:FuncId):Prop:=gf=330∨gf=292
theorem qW5 {gf:FuncId} (a:K2 gf):zg prog gf=true:=by rcases a with rfl | rfl <;> kernel_rfl
abbrev slG (b n c:Nat):V:=.lit (.slice (some ⟨b,0,none⟩) n c)
section
variable {β:Type} {cV:β->V} {gf:FuncId}
theorem qLr (Q:K2 gf) (g:List (Nat × Str × β)) (cl:Nat) (D:zT g) (y j a:Nat) (hb:j ≠ a/\a ≠ j) (J:List Str->Bx->Prop) (o:Bx) (N:J [] o)
  (O:∀ d k h,d.length < g.length->J d h->Q3 prog y [vstr k] h fun v w rs=>v=qq true/\J (d++[k]) w/\rs=[]) :
  Ok prog gf [.lit (.func (.yield y) #[] #[]),ptr j] ((j,.c [mp a])::(a,mG cV g cl)::o) fun v w rs=>v=.tup []/\(∃ d u,d.Perm (xA g)/\J d u/\w=(j,.c [mp a])::(a,mG cV g cl)::u)/\rs=[]:=by
 rcases Q with rfl | rfl
 all_goals
  first | refine oE func330 fun F X K=>?_ | refine oE func292 fun F X K=>?_
  refine qa ?_;refine fun n C=>?_;replace C:=zS C;try simp only [Nb] at C
  refine qa ?_;refine jE Ty.mixed (by rfl) (fun x:List Nat × List Str=>(xP g x.1).length) (fun x S=>ve (fun q:Str × β=>some q.1) g x.1 x.2/\(∃ h,J x.2 h/\S.boxes=(n,.it a cl x.1 cl)::(j,.c [mp a])::(a,mG cV g cl)::h)/\S.rows=[]/\S.σ 0=.lit (.func (.yield y) #[] #[])/\S.σ 5=ptr n) ([],[]) ⟨_,_,_,_,zc _,zc _,zp _,zp _,?_⟩ (fun⟨seen,d⟩ S ⟨A,⟨h,z,L⟩,M,Y,Z⟩=>?_)
  ·refine qB ?_;exact⟨ve.start _,o,N,rfl⟩
  ·simp only at A z L;refine qa ?_;refine⟨fun R=>?_,fun e H P=>?_⟩
   ·rw [qU] at R;have G:=A.done (by simp_all);rw [Kv] at G;refine qa ?_;exact⟨_,_,[],Le.refl _,List.Sublist.cons _ (zc _),zn _,rfl,⟨d,h,G,z,rfl⟩,rfl⟩
   ·rw [qU] at H;obtain⟨p,I,rfl⟩:=x9.1 H;have W:=A.step D I;have U:=xW D I;have T:d.length < g.length:=by
     have:=W.len;simp only [Option.toList_some,zr,List.length_cons,List.length_nil] at this;omega
    have ab:(seen++[p.1]).getLast? = some p.1:=by simp
    simp only at P;refine qa ?_;refine ye h [(n,.it a cl (seen++[p.1]) cl),(j,.c [mp a]),(a,mG cV g cl)] (x8 (l₁:=[(n,B.it a cl (seen++[p.1]) cl),(j,B.c [mp a]),(a,mG cV g cl)]) (l₂:=h)) (O d p.2.1 h T z) ?_;rintro v u rs ⟨rfl,aa,rfl⟩ _;simp only [↓rA,rB,M];refine⟨(seen++[p.1],d++[p.2.1]),U,_,_,_,_,zc _,zc _,x8,zp _,?_⟩;refine qB ?_;simp_all
theorem qmn (T:K2 gf) (g:List (Nat × Str × β)) (cl:Nat) (Y:zT g) (ad:g.length<=100000) (j h:Nat) (hb:j ≠ h/\h ≠ j):Ok prog 328 [nilS,fnQ gf j] [(j,.c [mp h]),(h,mG cV g cl)] fun v o rs =>
  ∃ a,a.Perm (xA g)/\((a=[]/\v=nilS/\o=[(j,.c [mp h]),(h,mG cV g cl)])∨∃ b c rest,a.length+rest.length=c/\a ≠ []/\v=slG b a.length c/\o=[(b,.c (a.map vstr++rest)),(j,.c [mp h]),(h,mG cV g cl)])/\rs=[]:=by
 refine oE func328 fun F W L=>?_;refine qb fun d h2=>?_;refine qa ?_;refine wY rfl (gf:=gf) (first:=#[]) (cap:=#[.pointer (some ⟨j,0,none⟩)]) rfl (qW5 T) [(d,.c [nilS]),(j,.c [mp h]),(h,mG cV g cl)] [] (by rfl)
  (fun l r v o rs=>rs=[]/\∃ a,a.Perm (xA g)/\((a=[]/\o=[(l,.obj (.loop r)),(d,.c [nilS]),(j,.c [mp h]),(h,mG cV g cl)])∨∃ b c rest,(a.length+rest.length=c/\a ≠ []/\b ≠ d/\d ≠ b)/\o=[(l,.obj (.loop r)),(b,.c (a.map vstr++rest)),(d,.c [slG b a.length c]),(j,.c [mp h]),(h,mG cV g cl)])) ?_ ?_
 ·intro l r S K U has R;have G:l ≠ d/\d ≠ l:=by
   simp only [rB] at S;have:=zS S;simp only [Nb] at this;exact⟨fun e=>this.1.1 e.symm,this.1.1⟩
  refine Ok.permR (Ok.permL (qLr (cV:=cV) T g cl Y l j h hb (fun a o=>(a=[]/\o=[(l,.obj (.loop r)),(d,.c [nilS])])∨∃ b c rest,(a.length+rest.length=c/\a ≠ []/\b ≠ d/\d ≠ b/\b ≠ l/\l ≠ b)/\o=[(l,.obj (.loop r)),(b,.c (a.map vstr++rest)),(d,.c [slG b a.length c])]) [(l,.obj (.loop r)),(d,.c [nilS])] (.inl ⟨rfl,rfl⟩) fun a k Jo ae J=>?_) ?_) ?_
  ·rcases J with⟨rfl,rfl⟩ | ⟨b,c,rest,⟨A,H,w,x,Z,aa⟩,rfl⟩
   ·refine Q3.of_round (M:=[]) Ty.mixed K U has R rfl (by simp) (by rfl) (by rfl) fun F W L=>?_;generalize p:wV _ _ _=C;have I:C 7=vstr k:=by rw [<-p];rfl
    have q:C 2=ptr d:=by rw [<-p];rfl
    clear p;simp only [↓rA,rU,I,q,simprocAttr];refine⟨[],[_],rfl,?_⟩;simp only [rB,G];refine fun y=>jS.r ?_;simp only [↓rA,rU,simprocAttr];refine fun b c D A=>?_;have n:=zS D;simp only [Nb] at n;simp only [rU,q,G,n,simprocAttr];refine⟨[_],[_],[_,_],rfl,zc _,rfl,⟨b,c,zC ((c - 1) * 1),⟨by rw [xC];omega,n.2.1.2,n.2.1.1,n.1.2,n.1.1⟩,rfl⟩,rfl⟩
   ·refine Q3.of_round (M:=[]) Ty.mixed K U has R rfl (by simp) (by rfl) (by rfl) fun F W L=>?_;generalize p:wV _ _ _=C;have I:C 7=vstr k:=by rw [<-p];rfl
    have q:C 2=ptr d:=by rw [<-p];rfl
    clear p;have z:(b ≠ d/\d ≠ b)/\(b ≠ l/\l ≠ b):=⟨⟨w,x⟩,Z,aa⟩;simp only [↓rA,rU,I,q,simprocAttr];refine⟨[],[_,_],rfl,?_⟩;simp only [rB,G,z];refine fun y=>jS.r ?_;simp only [↓rA,rU,z,simprocAttr];refine⟨⟨by simp_all,by omega,by omega⟩,fun X N D ac=>?_⟩;simp only [wo,J0,decide_true,qL3,kA,if_false,List.filter_nil,z,decide_false,qMw,if_true] at D ⊢;have n:=zS D;simp only [Nb] at n;simp only [rU,q,G,z,n,simprocAttr];refine⟨[_],[_],[_,_],rfl,zc _,rfl,.inr ⟨X,N,zC ((N - (a.length+1)) * 1),⟨by rw [xC,zr,qKg,qPk];omega,by simp,n.2.1.2,n.2.1.1,n.1.2,n.1.1⟩,?_⟩,rfl⟩;simp
  ·exact x8 (l₁:=[(l,B.obj (.loop r)),(d,B.c [nilS])]) (l₂:=[(j,B.c [mp h]),(h,mG cV g cl)])
  ·rintro v o rs ⟨O,⟨a,Jn,u,J,P⟩,Q⟩;rcases J with⟨rfl,rfl⟩ | ⟨b,c,rest,⟨A,H,w,x,_,_⟩,rfl⟩
   ·refine⟨_,?_,Q,_,u,.inl ⟨rfl,rfl⟩⟩;rw [P];exact x8 (l₁:=[(j,B.c [mp h]),(h,mG cV g cl)]) (l₂:=[(l,B.obj (.loop r)),(d,B.c [nilS])])
   ·refine⟨_,?_,Q,_,u,.inr ⟨b,c,rest,⟨A,H,w,x⟩,rfl⟩⟩;rw [P];exact x8 (l₁:=[(j,B.c [mp h]),(h,mG cV g cl)]) (l₂:=[(l,B.obj (.loop r)),(b,B.c (a.map vstr++rest)),(d,B.c [slG b a.length c])])
 ·intro l r v o rs K ⟨O,a,u,ab⟩;subst O;rcases ab with⟨rfl,rfl⟩ | ⟨b,c,rest,⟨A,H,w,x⟩,rfl⟩
  ·refine⟨_,rfl,fun _=>?_⟩;refine qa ?_;exact⟨_,[_,_],[],Le.refl _,List.Sublist.cons _ (zc _),zn _,[],u,.inl ⟨rfl,rfl,rfl⟩,rfl⟩
  ·have z:b ≠ d/\d ≠ b:=⟨w,x⟩;refine⟨_,rfl,fun _=>?_⟩;refine qa ?_;exact⟨_,[_,_,_],[],Le.refl _,List.Sublist.cons_cons _ (List.Sublist.cons _ (zc _)),zn _,a,u,.inr ⟨b,c,rest,A,H,rfl,rfl⟩,rfl⟩
theorem ZQ:∀ l:List Str,(l.map fun s=>[vstr s]).flatten=l.map vstr
 | []=>rfl
 | s::r=>by rw [z7,qKs,ZQ r];rfl
theorem qza (o:K2 gf) (g:List (Nat × Str × β)) (cl:Nat) (k:zT g) (p:g.length<=100000) (e a:Nat) (hb:e ≠ a/\a ≠ e):Ok prog 290 [fnQ gf e] [(e,.c [mp a]),(a,mG cV g cl)] fun v h rs =>
  ∃ d,d.Perm (xA g)/\((d=[]/\v=nilS/\h=[(e,.c [mp a]),(a,mG cV g cl)])∨∃ b c rest,d.length+rest.length=c/\d ≠ []/\v=slG b d.length c/\h=[(b,.c (d.map vstr++rest)),(e,.c [mp a]),(a,mG cV g cl)])/\rs=[]:=by
 refine oE func290 fun F w u=>?_;refine qa ?_;refine qr [_,_] [] (zp _) (qmn o g cl k p e a hb) ?_;rintro v h rs ⟨d,j,⟨rfl,rfl,rfl⟩ | ⟨b,c,rest,n,q,rfl,rfl⟩,rfl⟩
 ·refine qa ?_;exact⟨_,_,[],Le.refl _,zc _,zn _,[],j,.inl ⟨rfl,rfl,rfl⟩,rfl⟩
 ·refine qa ?_;exact⟨_,_,[],Le.refl _,zc _,zn _,d,j,.inr ⟨b,c,rest,n,q,rfl,rfl⟩,rfl⟩
theorem qBw (x:K2 gf) (g:List (Nat × Str × β)) (cl:Nat) (q:zT g) (z:g.length<=100000) (n j:Nat) (hb:n ≠ j/\j ≠ n):Ok prog 215 [fnQ gf n] [(n,.c [mp j]),(j,mG cV g cl)] fun v d rs=>(∃ a,a.Perm (xA g)/\v=jV (w9 a))/\d=[(j,mG cV g cl)]/\rs=[]:=by
 refine Ok.norows' (Q:=fun v d rs=>d=[(j,mG cV g cl)]/\rs=[]/\∃ a,a.Perm (xA g)/\((a=[]/\v=nilS)∨∃ y,v=.list (some y) 1 ((w9 a).map fun s=>[vstr s]))) (Ok.freeze (Q:=fun v d rs=>∃ a,a.Perm (xA g)/\((a=[]/\v=nilS/\d=[(j,mG cV g cl)])∨∃ b c rest,a.length+rest.length=c/\a ≠ []/\v=slG b a.length c/\d=[(b,.c ((w9 a).map vstr++rest)),(j,mG cV g cl)])/\rs=[]) ?_ fun v d rs h=>?_) fun v d rs h=>?_
 ·refine oE func215 fun F G A=>?_;refine qa ?_;refine qr [_,_] [] (zp _) (qza x g cl q z n j hb) ?_;rintro v d rs ⟨a,k,u,rfl⟩;have C:a.length<=100000:=by
   have:=k.length_eq;rw [zz] at this;omega
  rcases u with⟨rfl,rfl,rfl⟩ | ⟨b,c,rest,o,p,rfl,rfl⟩
  ·refine qi _ Yj ?_;refine qa ?_;exact⟨_,[_],[],Le.refl _,List.Sublist.cons _ (zc _),zn _,[],k,.inl ⟨rfl,rfl,rfl⟩,rfl⟩
  ·refine qa ?_;refine qr [_] [_,_] (zp _) (Ok.sortStr Tryz.sortS a rest b c (by omega)) ?_;rintro v d rs ⟨rfl,rfl,rfl⟩;refine qa ?_;exact⟨_,[_,_],[],Le.refl _,List.Sublist.cons_cons _ (List.Sublist.cons _ (zc _)),zn _,a,k,.inr ⟨b,c,rest,o,p,rfl,rfl⟩,rfl⟩
 ·obtain⟨a,k,⟨rfl,rfl,rfl⟩ | ⟨b,c,rest,o,p,rfl,rfl⟩,rfl⟩:=h
  ·simp_all
  ·have D:=jJ a;refine .inr ⟨b,a.length,c,1,_,(w9 a).map fun s=>[vstr s],_,_,zp _,⟨?_,fun e w=>?_,by simp_all,by omega⟩,.here,rfl,rfl,a,k,.inr ⟨_,rfl⟩⟩
   ·rw [qPh,qBf (by simp_all),ZQ]
   ·obtain⟨s,_,rfl⟩:=x9.1 w;rfl
 ·obtain⟨rfl,rfl,a,k,⟨rfl,rfl⟩ | ⟨y,rfl⟩⟩:=h
  ·exact⟨_,_,[],Le.nil 1,zc _,zn _,⟨[],k,by rw [show w9 []=[] from qMy.1 (jJ [])];rfl⟩,rfl,rfl⟩
  ·exact⟨_,_,[],Le.list _ _ _,zc _,zn _,⟨a,k,rfl⟩,rfl,rfl⟩
end
end Go.Proofs.YtkdgbjhbpbgdeaaGreatDoor
namespace Go.Proofs
open Go.Shelf
def Tryz.sortI_ren:Go.Shelf.Ren:=⟨fun | 53=>91 | 64=>88 | 63=>146 | 78=>144 | 79=>145 | 70=>223 | 71=>224 | 72=>225 | 73=>226 | 74=>227 | 75=>228 | 59=>229 | 76=>230 | 77=>231 | 88=>296 | 89=>219 | 90=>220 | 91=>297 | 92=>298 | 68=>70 | 96=>331 | n=>n,fun | 22=>82 | 23=>3 | 3=>3 | 51=>174 | 0=>0 | 67=>203 | 69=>205 | 4=>4 | 61=>197 | 60=>196 | 44=>139 | 5=>5 | 9=>9 | 75=>272 | 79=>276 | 83=>329 | 84=>330 | n=>n,fun | n=>n⟩
theorem Tryz.sortI:Go.Proofs.SlLaysN.n53 Tryz.prog Tryz.sortI_ren:={
 mixed:=by rfl
 f53:=⟨Tryz.f91.name,by decide,ly Tryz.func91⟩
 f59:=⟨Tryz.f229.name,by decide,ly Tryz.func229⟩
 f63:=⟨Tryz.f146.name,by decide,ly Tryz.func146⟩
 f64:=ly Tryz.func88
 f68:=⟨Tryz.f70.name,by decide,ly Tryz.func70⟩
 f70:=⟨Tryz.f223.name,by decide,ly Tryz.func223⟩
 f71:=⟨Tryz.f224.name,by decide,ly Tryz.func224⟩
 f72:=⟨Tryz.f225.name,by decide,ly Tryz.func225⟩
 f73:=⟨Tryz.f226.name,by decide,ly Tryz.func226⟩
 f74:=⟨Tryz.f227.name,by decide,ly Tryz.func227⟩
 f75:=⟨Tryz.f228.name,by decide,ly Tryz.func228⟩
 f76:=⟨Tryz.f230.name,by decide,ly Tryz.func230⟩
 f77:=⟨Tryz.f231.name,by decide,ly Tryz.func231⟩
 f78:=ly Tryz.func144
 f79:=ly Tryz.func145
 f88:=⟨Tryz.f296.name,by decide,ly Tryz.func296⟩
 f89:=ly Tryz.func219
 f90:=ly Tryz.func220
 f91:=⟨Tryz.f297.name,by decide,ly Tryz.func297⟩
 f92:=⟨Tryz.f298.name,by decide,ly Tryz.func298⟩
 f96:=⟨Tryz.f331.name,by decide,ly Tryz.func331⟩
 t0:=Tryz.underlying0
 a0:=Tryz.isAgg0
 z0:=Tryz.sizeOf0
 v0:=Tryz.zeroValue0
 t3:=Tryz.underlying3
 a3:=Tryz.isAgg3
 z3:=Tryz.sizeOf3
 v3:=Tryz.zeroValue3
 t4:=Tryz.underlying4
 a4:=Tryz.isAgg4
 z4:=Tryz.sizeOf4
 v4:=Tryz.zeroValue4
 t5:=Tryz.underlying5
 a5:=Tryz.isAgg5
 z5:=Tryz.sizeOf5
 v5:=Tryz.zeroValue5
 t9:=Tryz.underlying9
 a9:=Tryz.isAgg9
 z9:=Tryz.sizeOf9
 v9:=Tryz.zeroValue9
 t22:=Tryz.underlying82
 a22:=Tryz.isAgg82
 z22:=Tryz.sizeOf82
 v22:=Tryz.zeroValue82
 t23:=Tryz.underlying3
 a23:=Tryz.isAgg3
 z23:=Tryz.sizeOf3
 v23:=Tryz.zeroValue3
 t44:=Tryz.underlying139
 a44:=Tryz.isAgg139
 z44:=Tryz.sizeOf139
 v44:=Tryz.zeroValue139
 t51:=Tryz.underlying174
 a51:=Tryz.isAgg174
 z51:=Tryz.sizeOf174
 v51:=Tryz.zeroValue174
 t60:=Tryz.underlying196
 a60:=Tryz.isAgg196
 z60:=Tryz.sizeOf196
 v60:=Tryz.zeroValue196
 t61:=Tryz.underlying197
 a61:=Tryz.isAgg197
 z61:=Tryz.sizeOf197
 v61:=Tryz.zeroValue197
 t67:=Tryz.underlying203
 a67:=Tryz.isAgg203
 z67:=Tryz.sizeOf203
 v67:=Tryz.zeroValue203
 t69:=Tryz.underlying205
 a69:=Tryz.isAgg205
 z69:=Tryz.sizeOf205
 v69:=Tryz.zeroValue205
 t75:=Tryz.underlying272
 a75:=Tryz.isAgg272
 z75:=Tryz.sizeOf272
 v75:=Tryz.zeroValue272
 t79:=Tryz.underlying276
 a79:=Tryz.isAgg276
 z79:=Tryz.sizeOf276
 v79:=Tryz.zeroValue276
 t83:=Tryz.underlying329
 a83:=Tryz.isAgg329
 z83:=Tryz.sizeOf329
 v83:=Tryz.zeroValue329
 t84:=Tryz.underlying330
 a84:=Tryz.isAgg330
 z84:=Tryz.sizeOf330
 v84:=Tryz.zeroValue330 }
end Go.Proofs
namespace Go.Sg
end Go.Sg
namespace Go.Ar
structure VN {α:Type} (c:α->α->Int):Prop where
 anti:∀ a b,c b a=- c a b
 trans:∀ a b d,c a b<=0->c b d<=0->c a d<=0
section
variable {α β:Type}
variable {c:α->α->Int}
theorem VN.refl (h:VN c) (a:α):c a a=0:=by have:=h.anti a a;omega
theorem VN.pull (h:VN c) (f:β->α):VN fun a b=>c (f a) (f b):=⟨fun _ _=>h.anti _ _,fun _ _ _=>h.trans _ _ _⟩
theorem VN.lex {d:α->α->Int} (h:VN c) (j:VN d):VN fun a b=>if c a b=0 then d a b else c a b where
 anti a b:=by
  have e:=h.anti a b;by_cases k:c a b=0
  ·rw [if_pos k,if_pos (by omega)];exact j.anti a b
  omega
 trans a b x:=by
  have p:=h.anti a b;have q:=h.anti b x;have u:=h.anti a x;have t1:=h.trans a b x;have t2:=h.trans x a b;have t3:=h.trans b x a;have t4:=h.trans a x b;have t5:=h.trans b a x;have t6:=h.trans x b a;have t:=j.trans a b x;intro n o;split at n <;> split at o <;> split <;> omega
theorem VN.lt_trans (h:VN c) {a b d:α} (n:c a b < 0) (o:c b d < 0):c a d < 0:=by
 have e:=h.anti a b;have j:=h.anti b d;have k:=h.anti a d;have t1:=h.trans a b d (by omega) (by omega);have t2:=h.trans d a b;omega
end
theorem xU:VN cmpI:=⟨fun a b=>by unfold cmpI;omega,fun a b d=>by unfold cmpI;omega⟩
def cmpB (a b:List UInt8):Int:=if Op.bytesLess a b=true then -1 else if a=b then 0 else 1
theorem qv1:VN cmpB:=by
 have cons:∀ (x y:UInt8) (l m:List UInt8),cmpB (x::l) (y::m)=if cmpI x.toNat y.toNat=0 then cmpB l m else cmpI x.toNat y.toNat:=by
  intro x y l m;unfold cmpB cmpI;simp only [Op.bytesLess,qRq,qKi];by_cases e:x=y
  ·simp_all
  ·have:x.toNat ≠ y.toNat:=fun h=>e (UInt8.toNat_inj.1 h);rcases Nat.lt_or_gt_of_ne this with h | h
   ·simp [h]
   ·simp [e,Nat.not_lt.2 (qO9 h),h,show ¬ ((x.toNat:Int) < y.toNat) by omega]
 have k:∀ (y:UInt8) (m:List UInt8),cmpB [] (y::m)=-1:=fun _ _=>by rfl
 have n:∀ (y:UInt8) (m:List UInt8),cmpB (y::m) []=1:=fun _ _=>by rfl
 have nil:cmpB [] []=0:=by simp [cmpB,Op.bytesLess]
 refine⟨fun a=>?_,fun a=>?_⟩
 ·induction a with
  | nil=>intro b;cases b <;> simp [nil,k,n]
  | cons x a j=>intro b;cases b with
   | nil=>rfl
   | cons y b =>
    rw [cons,cons,j b,xU.anti];omega
 ·induction a with
  | nil=>intro b d;cases b <;> cases d <;> simp [nil,k,n]
  | cons x a j=>intro b d;cases b with
   | nil=>simp_all
   | cons y b=>cases d with
    | nil=>simp_all
    | cons z d =>
     rw [cons,cons,cons];have o:=xU.anti (x.toNat:Int) y.toNat;have p:=xU.anti (y.toNat:Int) z.toNat;have q:=xU.anti (x.toNat:Int) z.toNat;have t1:=xU.trans (x.toNat:Int) y.toNat z.toNat;have t2:=xU.trans (z.toNat:Int) x.toNat y.toNat;have t3:=xU.trans (y.toNat:Int) z.toNat x.toNat;have t:=j b d;omega
theorem qJv (a b:Str):cmpS a b=cmpB a.data.toList b.data.toList:=by
 have:(a=b)↔(a.data.toList=b.data.toList):=⟨fun h=>by rw [h],fun h=>qRp (qMc h)⟩;unfold cmpS cmpB less;simp_all
theorem Kf:VN cmpS:=by
 have:=qv1.pull fun s:Str=>s.data.toList;rwa [show cmpS=fun a b=>cmpB a.data.toList b.data.toList from funext fun a=>funext fun b=>qJv a b]
theorem qfb (a b:Int):orL [a,b]=if a=0 then b else a:=by
 simp only [orL];omega
theorem vB (a:Int) (l:List Int):orL (a::l)=if a=0 then orL l else a:=rfl
theorem uT:VN cmpID:=by
 have h:=(Kf.pull FID.src).lex (xU.pull FID.seq);have e:cmpID=fun a b=>if cmpS a.src b.src=0 then cmpI a.seq b.seq else cmpS a.src b.src:=by
  funext a b;unfold cmpID;rw [qfb];by_cases e:a=b
  ·subst e;simp [qa6,cmpI]
  ·simp [e]
 rwa [e]
theorem kT:VN cmpRow:=by
 have h:=(xU.pull Rw.event).lex (uT.pull Rw.id);rwa [show cmpRow=_ from funext fun a=>funext fun b=>qfb _ _]
theorem jr:VN cmpVal:=by
 have h:=(xU.pull Val.kind).lex ((xU.pull Val.n).lex (Kf.pull Val.s));rwa [show cmpVal=_ from funext fun a=>funext fun b=>show orL _=_ by rw [vB,qfb]]
theorem qks {x y:Int} (h:(if x=0 then y else x)=0):x=0/\y=0:=by
 omega
theorem vR {a b:Val}:cmpVal a b=0↔a=b:=by
 unfold cmpVal;rw [vB,qfb];constructor
 ·intro h;split at h
  ·rename_i d;split at h
   ·rename_i e;have j:=ji.1 d;have k:=ji.1 e;have n:=vV.1 h;cases a;simp_all
   omega
  omega
 ·rintro rfl;simp [ji.2,vV.2]
open Go.Sg
def x5 (n:Int):Prop:=-9223372036854775808<=n/\n < 9223372036854775808
end Go.Ar
open Go.Sg
namespace Go.VL
open Go.RowKit Go.Sort Go.Shelf Go.Lib Go.Proofs
theorem qS6 {w:World} {I:Cells}:∀ {a:List Int} {rest:List V} {xs:List Value},V.reps w I ((a.map fun z=>V.lit (.int .i64 z))++rest) xs->xs.take a.length=a.map (.int .i64)/\V.reps w I rest (xs.drop a.length)
 | [],_,_,h=>⟨rfl,h⟩
 | z::a,rest,[],h=>by simp [V.reps] at h
 | z::a,rest,x::xs,h=>by
  simp only [z7,List.cons_append,V.reps,V.rep] at h;obtain⟨d,e⟩:=qS6 h.2;simp_all
theorem qTa {w:World} {I:Cells}:∀ (a:List Int),V.reps w I (a.map fun z=>V.lit (.int .i64 z)) (a.map (.int .i64))
 | []=>by simp [V.reps]
 | z::a=>by simp only [z7,V.reps,V.rep,true_and];exact qTa a
theorem qSk (d:Array Int) (arr:Array Value) (h:d.size<=arr.size):(putCells (.int .i64) 0 d arr).toList=d.toList.map (.int .i64)++arr.toList.drop d.size:=by
 refine qPd (by simp [putCells];omega) fun t a j=>?_;have k:t < arr.size:=by simpa [putCells] using a
 simp only [putCells,Array.getElem_toList,Array.getElem_mapIdx,qJ0,KM,true_and,Nat.sub_zero];by_cases e:t < d.size
 ·simp_all
 ·rw [if_neg e,List.getElem_append_right (by simp_all)];simp only [List.getElem_drop,Array.getElem_toList,zz,Array.length_toList];congr 1;omega
theorem qVa {w:World} {b:Nat} {arr:Array Value} {a:TypeId} (n:Nat) (d:Array Int) (os:Array Obj) (h:w.heap[b]? = some (.cells arr a (0,0))) :
  (grow (putRow (Value.int .i64) (Go.Sort.ahead w n) b 0 d) os).heap[b]? = some (.cells (putCells (.int .i64) 0 d arr) a (0,0)):=by
 have e:=(vx.1 h).1;unfold grow putRow mapBlock Go.Sort.ahead;simp only [];rw [qN8 (by simp_all),qPb,if_pos rfl];rw [h];rfl
theorem qug {w:World} {b a:Nat} (n:Nat) (d:Array Int) (os:Array Obj) (h:a ≠ b) (j:a < w.heap.size):(grow (putRow (Value.int .i64) (Go.Sort.ahead w n) b 0 d) os).heap[a]? = w.heap[a]? := by
 unfold grow putRow mapBlock Go.Sort.ahead;simp only [];rw [qN8 (by simp_all),qPb,if_neg (fun e=>h e.symm)]
theorem qUg {F:Nat->Prop} {w:World} {I:Cells} {b:Nat} (n:Nat) (d:Array Int) (os:Array Obj) (p:∀ a,F a->a ≠ b/\a < w.heap.size) (y:∀ o,¬ I b o) (z:∀ a o,I a o->a < w.heap.size) (hd:∀ x,w.heap[b]? ≠ some (.deferred x)):qV F w I (grow (putRow (Value.int .i64) (Go.Sort.ahead w n) b 0 d) os) I :=
 ⟨rfl,rfl,rfl,by simp,fun a q=>qug n d os (p a q).1 (p a q).2,⟨fun a o j=>⟨j,by
  have k:a ≠ b:=fun e=>y o (e▸j);simp only [World.cell?, qug n d os k (z a o j)]⟩,fun a x u=>by
  have k:a ≠ b:=fun e=>hd x (e▸u);rw [qug n d os k (vx.1 u).1];omega⟩,fun _ _ _ h=>h,by
  unfold grow putRow mapBlock Go.Sort.ahead;simp⟩
theorem Ok.sortAll {P:Program} {M:Ren} (L:SlLaysN.n53 P M) (a:List Int) (rest:List V) (b cap:Nat) (Y:a.length < 4611686018427387904) :
  Ok P (M.f 53) [.lit (.slice (some ⟨b,0,none⟩) a.length cap)] [(b,.c ((a.map fun z=>.lit (.int .i64 z))++rest))] fun v N rs =>
   v=.tup []/\N=[(b,.c (((a.mergeSort fun x y=>decide (x<=y)).map fun z=>.lit (.int .i64 z))++rest))]/\rs=[]:=by
 intro w I xs X u;obtain rfl:xs=[.slice (some ⟨b,0,none⟩) a.length cap]:=qcc X;obtain⟨arr,te,C,q2,J,K⟩:=u.bx _ (kl.2 rfl);have Q:b < w.heap.size:=(vx.1 C).1;obtain⟨v1,v2⟩:=qS6 J;have aa:a.length<=arr.size:=by have:=qM J;simp at this;omega
 have Z:∀ j (h:j < a.length),arr.toList[j]? = some (.int .i64 a[j]):=fun j h=>by
  have:(arr.toList.take a.length)[j]? = some (.int .i64 a[j]):=by rw [v1];simp [h]
  rwa [List.getElem?_take_of_lt h] at this
 have O:Holds (Value.int .i64) w b 0 a.toArray:=by
  intro j H;have T:j < a.length:=by simpa using H
  have h:=Z j T;rw [getElem!_pos _ j H];simp only [qOr,List.getElem_toArray] at h ⊢;constructor
  ·simp [World.cell?, C,h]
  ·simp [World.frozen?, C]
 refine(AnyG.slices_Sort_int L b 0 cap a w O Q Y).mono fun e w' ⟨R,n,os,hw⟩=>?_;subst hw;generalize U:(a.mergeSort fun x y=>decide (x<=y))=q;have ab:q.length=a.length:=by rw [<-U,List.length_mergeSort]
 have A:=qUg (w:=w) (b:=b) (I:=I) n q.toArray os (F:=fun d=>d < w.heap.size/\d ∉ ([(b,B.c ((a.map fun z=>V.lit (.int .i64 z))++rest))]:Bx).map (·.1)) (fun d G=>⟨by simp_all,G.1⟩) K u.inn (fun x e=>by simp_all);have D:=qSk q.toArray arr (by simp_all);refine⟨.tuple #[],.tup [],[(b,.c ((q.map fun z=>.lit (.int .i64 z))++rest))],[],I,R,by simp only [V.rep];exact⟨#[],rfl,by simp [V.reps]⟩,A,⟨fun p W=>?_,by simp,by simp [qL],fun d o S=>qMn (u.inn d o S) A.size,u.glob.mono A.stays⟩,fun d G h=>h.2 (by assumption),rfl,rfl,rfl⟩;rw [kl.1 W];refine⟨_,te,qVa n q.toArray os C,fun x k=>?_,?_,K⟩
 ·rw [D] at k;rcases z6.1 k with k | k
  ·obtain⟨z,_,rfl⟩:=x9.1 k;simp [one]
  ·exact q2 x (qEu k)
 ·rw [D];refine qC (qTa q) (V.reps_mono A.stays _ _ ?_);simp_all
end Go.VL
namespace Go.Proofs.YtkdgbjhbpbgdeaaGreatDoor
open Arr
abbrev qXw (g n c:Nat):V:=.lit (.slice (some ⟨g,0,none⟩) n c)
theorem qU4 (a:List Int) (rest:List V) (b cap:Nat) (e:a.length < 4611686018427387904):Ok prog 91 [qXw b a.length cap] [(b,.c (a.map vint++rest))] fun v d rs=>v=.tup []/\d=[(b,.c ((a.mergeSort fun x y=>decide (x<=y)).map vint++rest))]/\rs=[] :=
 Ok.sortAll Tryz.sortI a rest b cap e
end Go.Proofs.YtkdgbjhbpbgdeaaGreatDoor
namespace Go.Ar
abbrev vu (n:Int):V:=.lit (.int .u64 n)
abbrev cW (w:Int):List V:=[vint (w / 18446744073709551616),vu (w % 18446744073709551616)]
def ki (w:Int):Prop:=-170141183460469231731687303715884105728<=w/\w < 170141183460469231731687303715884105728
def ww (n:Int):Int:=(n+170141183460469231731687303715884105728) % 340282366920938463463374607431768211456 - 170141183460469231731687303715884105728
theorem ui {n:Int} (h:ki n):ww n=n:=by unfold ki at h;unfold ww;omega
theorem qJ7 (a b:Int):(a % 18446744073709551616+b % 18446744073709551616+0) % 18446744073709551616=ww (a+b) % 18446744073709551616:=by unfold ww;omega
theorem qJ8 (a b:Int):IntKind.i64.wrap ((IntKind.u64.wrap (a / 18446744073709551616)+IntKind.u64.wrap (b / 18446744073709551616)+(a % 18446744073709551616+b % 18446744073709551616+0) / 18446744073709551616) % 18446744073709551616)=ww (a+b) / 18446744073709551616:=by
 rw [IntKind.wrap_u64,IntKind.wrap_u64,IntKind.wrap_i64];unfold ww;omega
end Go.Ar
namespace Go.Proofs.YtkdgbjhbpbgdeaaGreatDoor
open Arr
theorem qbk (S:St) (x y c:Int) (h:0<=x) (j:0<=y) (hc:0<=c) (a:c<=1):qib prog S 236 [vu x,vu y,vu c] (.tup [vu ((x+y+c) % 18446744073709551616),vu ((x+y+c) / 18446744073709551616)]):=by
 intro w I k _ d;have:k=[.int .u64 x,.int .u64 y,.int .u64 c]:=qcc d;subst this;refine⟨.tuple #[.int .u64 ((x+y+c) % 18446744073709551616),.int .u64 ((x+y+c) / 18446744073709551616)],w,?_,.inl rfl,?_⟩
 ·rw [run_callFunc_extern func236 (by rfl) (by rfl) (by kernel_rfl) (e:=add64Entry) (by kernel_rfl),run_add64 x y c h j hc a w];rfl
 ·simp only [V.rep];exact⟨_,rfl,by simp only [V.reps,V.rep,and_true]⟩
theorem XX (a b:Int):zk prog 151 [.agg (cW a),.agg (cW b)] (.agg (cW (ww (a+b)))):=by
 refine oE func151 fun F u h=>?_;refine qb fun j o=>?_;refine qb fun k p=>?_;refine qb fun n q=>?_;refine qa ?_;refine QL _ (qbk _ _ _ 0 (by omega) (by omega) (by decide) (by decide)) ?_;refine qa ?_;refine QL _ (qbk _ _ _ _ (by rw [IntKind.wrap_u64];omega) (by rw [IntKind.wrap_u64];omega) (by omega) (by omega)) ?_;refine qa ?_;have d:=qJ7 a b;have e:=qJ8 a b;rw [d,e];exact qc rfl
theorem qqz (x y:Int):x * y=(x / 4294967296) * (y / 4294967296) * 18446744073709551616+((x / 4294967296) * (y % 4294967296)+(x % 4294967296) * (y / 4294967296)) * 4294967296+(x % 4294967296) * (y % 4294967296):=by
 have e:x=(x / 4294967296) * 4294967296+x % 4294967296:=by omega
 have h:y=(y / 4294967296) * 4294967296+y % 4294967296:=by omega
 conv=>lhs;rw [e,h]
 generalize x / 4294967296=a;generalize x % 4294967296=b;generalize y / 4294967296=c;generalize y % 4294967296=d;rw [qRa,Int.mul_add,Int.mul_add,qRa];have j:a * 4294967296 * (c * 4294967296)=a * c * 18446744073709551616:=by rw [qP2,Int.mul_left_comm 4294967296,<-qP2,show (4294967296:Int) * 4294967296=18446744073709551616 by decide]
 have k:a * 4294967296 * d=a * d * 4294967296:=by rw [qP2,qQv 4294967296,<-qP2]
 have n:b * (c * 4294967296)=b * c * 4294967296:=by rw [qP2]
 omega
theorem ZL {a b:Int} (d:0<=a) (e:a<=4294967295) (hb:0<=b) (h:b<=4294967295):0<=a * b/\a * b<=18446744065119617025:=by
 refine⟨Int.mul_nonneg d hb,?_⟩;have:=Int.mul_le_mul e h hb (by omega);omega
theorem qHn (n:Int):IntKind.u64.wrap ((BitVec.ofInt IntKind.u64.bits n &&& BitVec.ofInt IntKind.u64.bits 4294967295).toNat:Int)=n % 4294967296:=by
 have e:(BitVec.ofInt IntKind.u64.bits n &&& BitVec.ofInt IntKind.u64.bits 4294967295).toNat=(n % 18446744073709551616).toNat % 4294967296:=by
  rw [BitVec.toNat_and,qOn,qOn];show (n % 18446744073709551616).toNat &&& 4294967295=_;exact Nat.and_two_pow_sub_one_eq_mod _ 32
 rw [e,IntKind.wrap_u64];omega
theorem qGh (n:Int):n.fdiv (2 ^ min 32 IntKind.u64.bits)=n / 4294967296:=qLe _ (by decide)
theorem qfo (x y:Int) (u:0<=x) (w:x < 18446744073709551616) (A:0<=y) (C:y < 18446744073709551616):zk prog 237 [vu x,vu y] (.tup [vu (x * y / 18446744073709551616),vu (x * y % 18446744073709551616)]):=by
 refine oE func237 fun F D e=>?_;refine qa ?_;refine qc ?_;simp only [qHn,qGh];simp only [IntKind.wrap_u64];have d:=qqz x y;obtain⟨h,j⟩:=ZL (a:=x / 4294967296) (b:=y / 4294967296) (by omega) (by omega) (by omega) (by omega);obtain⟨k,n⟩:=ZL (a:=x / 4294967296) (b:=y % 4294967296) (by omega) (by omega) (by omega) (by omega);obtain⟨c1,o⟩:=ZL (a:=x % 4294967296) (b:=y / 4294967296) (by omega) (by omega) (by omega) (by omega);obtain⟨d1,d2⟩:=ZL (a:=x % 4294967296) (b:=y % 4294967296) (by omega) (by omega) (by omega) (by omega);generalize x / 4294967296 * (y / 4294967296)=p at *;generalize x / 4294967296 * (y % 4294967296)=q at *;generalize x % 4294967296 * (y / 4294967296)=r at *;generalize x % 4294967296 * (y % 4294967296)=s at *;generalize x * y=z at *;subst d;congr 4
 ·omega
theorem qLb (n:Int) (h:x5 n):n.fdiv (2 ^ min 63 IntKind.i64.bits)=n / 18446744073709551616:=by
 rw [qLe _ (by decide)];unfold x5 at h;show n / 9223372036854775808=_;omega
theorem Xp (n:Int) (h:x5 n):zk prog 152 [vint n] (.agg (cW n)):=by
 refine oE func152 fun F k a=>?_;refine qb fun d j=>?_;refine qa ?_;have e:=qLb n h;rw [e,IntKind.wrap_u64];exact qc rfl
theorem qGl {h a l d:Int} (e:h=a) (j:l=d):V.agg [vint h,vu l]=V.agg [vint a,vu d]:=by rw [e,j]
theorem qnk (a n:Int) (o:ki a) (p:x5 n):∃ M:Int,a * n=IntKind.u64.wrap (a / 18446744073709551616) * IntKind.u64.wrap n * 18446744073709551616+a % 18446744073709551616 * IntKind.u64.wrap n - (if n < 0 then a % 18446744073709551616 else 0) * 18446744073709551616 - M * 340282366920938463463374607431768211456:=by
 unfold ki at o;unfold x5 at p;rw [IntKind.wrap_u64,IntKind.wrap_u64];have k:a=a / 18446744073709551616 * 18446744073709551616+a % 18446744073709551616:=by omega
 have q:-9223372036854775808<=a / 18446744073709551616/\a / 18446744073709551616 < 9223372036854775808:=by omega
 generalize a / 18446744073709551616=A at *;generalize a % 18446744073709551616=L at *;subst k;have d:∃ e:Int,A * (n % 18446744073709551616)=A % 18446744073709551616 * (n % 18446744073709551616) - e * 18446744073709551616:=by
  by_cases h:A < 0
  ·refine⟨n % 18446744073709551616,?_⟩;have:A=A % 18446744073709551616 - 18446744073709551616:=by omega
   conv=>lhs;rw [this]
   rw [Int.sub_mul,qQv 18446744073709551616]
  ·refine⟨0,?_⟩;have:A % 18446744073709551616=A:=by omega
   simp_all
 obtain⟨e,d⟩:=d;by_cases h:n < 0
 ·have j:n=n % 18446744073709551616 - 18446744073709551616:=by omega
  rw [if_pos h];generalize n % 18446744073709551616=N at *;subst j;refine⟨e+A,?_⟩;rw [qRa,Int.mul_sub,Int.mul_sub,Int.mul_right_comm,d];omega
 ·have j:n % 18446744073709551616=n:=by omega
  rw [if_neg h];rw [j] at d ⊢;refine⟨e,?_⟩;rw [qRa,Int.mul_right_comm,d];omega
theorem UF (a n:Int) (e:ki a) (h:x5 n):zk prog 154 [.agg (cW a),vint n] (.agg (cW (ww (a * n)))):=by
 have j:0<=IntKind.u64.wrap n:=by rw [IntKind.wrap_u64];omega
 have k:IntKind.u64.wrap n < 18446744073709551616:=by rw [IntKind.wrap_u64];omega
 refine oE func154 fun F D u=>?_;refine qb fun w y=>?_;refine qb fun x A=>?_;refine qa ?_;refine qo _ (qfo (a % 18446744073709551616) (IntKind.u64.wrap n) (by omega) (by omega) j k) ?_;refine qa ?_;by_cases o:n < 0
 ·refine qa ?_;refine qc ?_;obtain⟨M,d⟩:=qnk a n e h;simp only [o,if_true] at d;generalize a * n=z at *;generalize a % 18446744073709551616 * IntKind.u64.wrap n=p at *;generalize IntKind.u64.wrap (a / 18446744073709551616) * IntKind.u64.wrap n=q at *;have C:0<=a % 18446744073709551616/\a % 18446744073709551616 < 18446744073709551616:=by omega
  generalize a % 18446744073709551616=L at *;clear e h j k;subst d;rw [IntKind.wrap_i64];simp only [IntKind.wrap_u64];unfold ww;refine qGl ?_ ?_ <;> omega
 ·refine qa ?_;refine qc ?_;obtain⟨M,d⟩:=qnk a n e h;simp only [o,if_false] at d;generalize a * n=z at *;generalize a % 18446744073709551616 * IntKind.u64.wrap n=p at *;generalize IntKind.u64.wrap (a / 18446744073709551616) * IntKind.u64.wrap n=q at *;clear e h j k;subst d;rw [IntKind.wrap_i64];simp only [IntKind.wrap_u64];unfold ww;refine qGl ?_ ?_ <;> omega
theorem qm9 (v n:Int) (a:x5 v) (d:x5 n):zk prog 168 [vint v,vint n] (.agg (cW (ww (v * n)))):=by
 refine oE func168 fun F k e=>?_;refine qb fun h j=>?_;refine qi _ (Xp v a) ?_;refine qa ?_;refine qo _ (UF v n (by unfold x5 at a;unfold ki;omega) d) ?_;exact qe
end Go.Proofs.YtkdgbjhbpbgdeaaGreatDoor
namespace Go.Ar
def zN (n:Nat):Nat:=if n=0 then 0 else Nat.log2 n+1
def vd (n:Nat):Nat:=32 * (zN n - 6)+n / 2 ^ (zN n - 6)
def qk5 (n:Int):Int:=if n < 0 then -(vd (-n).toNat:Int) else vd n.toNat
theorem qbc {n:Nat} (h:1<=n):zN n=1+zN (n / 2):=by
 unfold zN;rw [if_neg (by omega),Nat.log2_def];by_cases a:n ≥ 2
 ·rw [if_pos a,if_neg (by omega)];omega
 simp_all
theorem QF:∀ {k n:Nat},2 ^ k<=n->zN n=k+zN (n / 2 ^ k)
 | 0,n,_=>by simp
 | k+1,n,h=>by
  have a:2 ^ k<=n:=km (qNr (by omega) (by omega)) h;have d:1<=n / 2 ^ k:=(qP9 (qPg k)).2 (by omega);rw [QF a,qbc d,Nat.div_div_eq_div_mul,Nat.pow_succ];omega
theorem qdf {n:Nat} (h:1<=n):n < 2 ^ zN n/\2 ^ (zN n - 1)<=n:=by
 unfold zN;rw [if_neg (by omega),qQn];exact⟨Nat.lt_log2_self,Nat.log2_self_le (by omega)⟩
theorem KO {n k:Nat} (h:n < 2 ^ k):zN n<=k:=by
 rcases qOz n with e | e
 ·subst e;exact KM _
 ·have:=(qdf e).2;have a:2 ^ (zN n - 1) < 2 ^ k:=qKu this h;have:=(Nat.pow_lt_pow_iff_right (by omega:1 < 2)).1 a;omega
theorem UV (n:Nat):n / 2 ^ (zN n - 6) < 64:=by
 rcases qOz n with e | e
 ·simp_all
 ·have a:=(qdf e).1;rw [qMt (qPg _)];refine qMn a ?_;rw [show (64:Nat)=2 ^ 6 from rfl,<-qQ2];exact qNr (by omega) (by omega)
theorem qH2 (T:ByteArray) (a:decide (256<=T.size)=true) (z:Nat) (d:z < 256):(z:Int) < (T.size:Int):=by
 have:=of_decide_eq_true a;omega
theorem qBk (T:List UInt8) (d:((List.range 256).all fun z=>decide ((T.getD z 0).toNat=zN z))=true) (z a:Nat) (e:z < 256) (j:a<=56):V.lit (.int .i64 (IntKind.i64.wrap ((a:Int)+IntKind.i64.wrap ((T.getD z 0).toNat:Int))))=.lit (.int .i64 ((a+zN z:Nat):Int)):=by
 have h:=of_decide_eq_true (qNh.1 d z (qHj.2 e));rw [h];have:zN z<=8:=KO (by omega);rw [qv (n:=(zN z:Int)) (by omega) (by omega),qv (by omega) (by omega)];rfl
end Go.Ar
namespace Go.Proofs.YtkdgbjhbpbgdeaaGreatDoor
open Arr
theorem qfw (x:Int) (G:0<=x) (M:x < 18446744073709551616):zk prog 145 [vu x] (vint (zN x.toNat)):=by
 refine oE func145 fun F O J=>?_;simp only [List.toList_toArray,results145];rw [zu];simp only [↓wh,↓qJ,↓zx,↓zA,zw,qu,xY];rw [zu];refine xe (fun S=>∃ y a:Nat,(y < 4294967296/\a<=32/\zN x.toNat=a+zN y)/\S.rows=[]/\S.boxes=[]/\S.σ 0=vu y/\S.σ 2=vint a) ?_ ?_
 ·by_cases h:(4294967296:Int)<=x
  ·refine qa ?_;refine⟨x.toNat / 2 ^ 32,32,⟨by omega,by omega,QF (by omega)⟩,?_,rfl⟩;congr 3;rw [show min 32 IntKind.u64.bits=32 from rfl,qLe _ (by decide)];omega
  ·refine qa ?_;exact⟨x.toNat,0,⟨by omega,by omega,by simp⟩,by rw [qPm G],rfl⟩
 rintro S ⟨y,a,⟨H,C,e⟩,u,q,o,p⟩;rw [e];clear e;rw [zu];refine xe (fun S=>∃ j d:Nat,(j < 65536/\d<=48/\a+zN y=d+zN j)/\S.rows=[]/\S.boxes=[]/\S.σ 0=vu j/\S.σ 2=vint d) ?_ ?_
 ·by_cases h:(65536:Int)<=y
  ·have I:IntKind.i64.wrap ((a:Int)+16)=((a+16:Nat):Int):=by rw [qv (by omega) (by omega)];rfl
   refine qa ?_;refine⟨y / 2 ^ 16,a+16,⟨by omega,by omega,by rw [QF (k:=16) (n:=y) (by omega)];omega⟩,?_,rfl⟩;congr 3;rw [show min 16 IntKind.u64.bits=16 from rfl,qLe _ (by decide)];omega
  ·refine qa ?_;exact⟨y,a,⟨by omega,by omega,rfl⟩,rfl,rfl⟩
 clear u q o p;rintro S ⟨j,d,⟨N,K,e⟩,u,q,o,p⟩;rw [e];clear e C H;rw [zu];refine xe (fun S=>∃ y a:Nat,(y < 256/\a<=56/\d+zN j=a+zN y)/\S.rows=[]/\S.boxes=[]/\S.σ 0=vu y/\S.σ 2=vint a) ?_ ?_
 ·by_cases h:(256:Int)<=j
  ·have I:IntKind.i64.wrap ((d:Int)+8)=((d+8:Nat):Int):=by rw [qv (by omega) (by omega)];rfl
   refine qa ?_;refine⟨j / 2 ^ 8,d+8,⟨by omega,by omega,by rw [QF (k:=8) (n:=j) (by omega)];omega⟩,?_,rfl⟩;congr 3;rw [show min 8 IntKind.u64.bits=8 from rfl,qLe _ (by decide)];omega
  ·refine qa ?_;exact⟨j,d,⟨by omega,by omega,rfl⟩,rfl,rfl⟩
 clear u q o p;rintro S ⟨z,A,⟨w,D,e⟩,u,q,o,p⟩;rw [e];clear e;have L:IntKind.u8.wrap (z:Int)=z:=by rw [IntKind.wrap_u8];omega
 refine qa ?_;refine⟨qH2 _ (by rfl) z w,?_⟩;refine qc ?_;exact qBk _ (by kernel_rfl) z A w D
theorem qba (x:Int) (d:0<=x) (j:x < 18446744073709551616):zk prog 240 [vu x] (vint (vd x.toNat)):=by
 refine oE func240 fun F y o=>?_;refine qi _ (qfw x d j) ?_;refine qa ?_;have w:zN x.toNat<=64:=KO (by omega);have a:=UV x.toNat;have p:(if (0:Int) > IntKind.i64.wrap ((zN x.toNat:Int) - 6) then 0 else IntKind.i64.wrap ((zN x.toNat:Int) - 6))=((zN x.toNat - 6:Nat):Int):=by
  rw [qv (by omega) (by omega)];split <;> omega
 have u:x.fdiv (2 ^ min (zN x.toNat - 6) IntKind.u64.bits)=((x.toNat / 2 ^ (zN x.toNat - 6):Nat):Int):=by
  have:min (zN x.toNat - 6) IntKind.u64.bits=zN x.toNat - 6:=qKt (by show _<=64;omega);rw [this,qLe _ (qQb (qQ8 (by omega)))];generalize zN x.toNat - 6=k;obtain⟨m,rfl⟩:∃ m:Nat,x=m:=⟨x.toNat,(qPm d).symm⟩;simp
 refine qB ?_;have e:IntKind.i64.wrap (IntKind.i64.wrap (32 * ((zN x.toNat - 6:Nat):Int))+IntKind.i64.wrap ((x.toNat / 2 ^ (zN x.toNat - 6):Nat):Int))=(vd x.toNat:Int):=by
  unfold vd;have h:zN x.toNat - 6<=58:=by omega
  generalize zN x.toNat - 6=k at a h ⊢;generalize x.toNat / 2 ^ k=q at a;rw [qv (n:=32 * (k:Int)) (by omega) (by omega),qv (n:=(q:Int)) (by omega) (by omega),qv (by omega) (by omega)];omega
 rw [e];exact qc rfl
theorem Us (x:Nat) (h:x < 18446744073709551616):vd x<=2000:=by
 have a:zN x<=64:=KO (by omega);have:=UV x;unfold vd;omega
theorem qJc (n:Int) (d:x5 n):zk prog 158 [vint n] (vint (qk5 n)):=by
 unfold x5 at d;refine oE func158 fun F o j=>?_;by_cases h:n < 0
 ·refine qa ?_;have e:IntKind.u64.wrap (0 - IntKind.u64.wrap n)=-n:=by rw [IntKind.wrap_u64,IntKind.wrap_u64];omega
  rw [e];refine qo _ (qba (-n) (by omega) (by omega)) ?_;have k:=Us (-n).toNat (by omega);have a:qk5 n=IntKind.i64.wrap (0 - (vd (-n).toNat:Int)):=by
   unfold qk5;rw [if_pos h,qv (by omega) (by omega),qRy]
  rw [a];exact qe
 ·refine qa ?_;have e:IntKind.u64.wrap n=n:=by rw [IntKind.wrap_u64];omega
  rw [e];refine qo _ (qba n (by omega) (by omega)) ?_;have a:qk5 n=(vd n.toNat:Int):=by unfold qk5;rw [if_neg h]
  rw [a];exact qe
end Go.Proofs.YtkdgbjhbpbgdeaaGreatDoor
namespace Go.Nm
variable {u yn1 yn0:Nat}
theorem Ve (d:2147483648<=yn1) (a:yn0 < 4294967296) (hu:u < yn1 * 4294967296+yn0):u / yn1<=4294967297:=by
 have:u < 4294967298 * yn1:=by omega
 have:=Nat.div_lt_of_lt_mul (m:=u) (n:=yn1) (k:=4294967298) (by rw [qOx];omega);omega
variable {d q:Nat}
theorem qc4 {r:Nat} (e:q * yn1+r=u):(r * 4294967296+d < q * yn0↔u * 4294967296+d < q * (yn1 * 4294967296+yn0)):=by
 subst e;rw [qQ3,<-qQm,uu];omega
theorem qyu {r:Nat} (e:q * yn1+r=u) (h:r < yn1) (hd:d < 4294967296):(u * 4294967296+d) / (yn1 * 4294967296+yn0)<=q:=by
 have a:0 < yn1 * 4294967296+yn0:=by omega
 apply Nat.le_of_lt_succ;rw [qMt a];subst e;rw [qQ3,qP8,<-qQm,qP8];omega
theorem qg0 {n y:Nat} (a:0 < y) (h:q * y<=n):q<=n / y:=(qP9 a).2 h
theorem qsl {n y:Nat} (a:0 < y) (h:n < q * y):n / y<=q - 1/\0 < q:=by
 have:=(qMt a).2 h;exact⟨Nat.le_sub_one_of_lt this,qKu (KM _) this⟩
theorem Vd (hd:d < 4294967296) (hu:u < yn1 * 4294967296+yn0):(u * 4294967296+d) / (yn1 * 4294967296+yn0) < 4294967296:=by
 rw [qMt (by omega)];omega
structure Dg (yn1 yn0 u d q r:Nat):Prop where
 e:q * yn1+r=u
 lo:(u * 4294967296+d) / (yn1 * 4294967296+yn0)<=q
 hi:q<=4294967297
 rr:r < 4294967296
theorem Dg.start (h:2147483648<=yn1) (k:yn1 < 4294967296) (e:yn0 < 4294967296) (hd:d < 4294967296) (hu:u < yn1 * 4294967296+yn0):Dg yn1 yn0 u d (u / yn1) (u % yn1):=by
 have j:=qPf u (show 0 < yn1 by omega);have a:u / yn1 * yn1+u % yn1=u:=by rw [qOx];exact qOq _ _
 exact⟨a,qyu a j hd,Ve h e hu,by omega⟩
theorem Dg.big {r:Nat} (e:2147483648<=yn1) (hd:d < 4294967296) (hu:u < yn1 * 4294967296+yn0) (g:Dg yn1 yn0 u d q r) (hc:4294967296<=q∨r * 4294967296+d < q * yn0):(u * 4294967296+d) / (yn1 * 4294967296+yn0)<=q - 1/\0 < q/\(q - 1) * yn1+(r+yn1)=u:=by
 have j:=Vd (yn1:=yn1) (yn0:=yn0) hd hu;have a:(u * 4294967296+d) / (yn1 * 4294967296+yn0)<=q - 1/\0 < q:=by
  rcases hc with h | h
  ·omega
  ·exact qsl (by omega) ((qc4 g.e).1 h)
 refine⟨a.1,a.2,?_⟩;have:=g.e;obtain⟨p,rfl⟩:∃ p,q=p+1:=⟨q - 1,by omega⟩;rw [qP8] at this;simp only [qQn];omega
theorem Dg.fin {r:Nat} (a:2147483648<=yn1) (g:Dg yn1 yn0 u d q r) (hc:¬ r * 4294967296+d < q * yn0):q=(u * 4294967296+d) / (yn1 * 4294967296+yn0):=by
 refine qQa (qg0 (by omega) ?_) g.lo;have:=mt (qc4 (yn0:=yn0) (d:=d) g.e).2 hc;omega
theorem qyv {r:Nat} (k:2147483648<=yn1) (j:yn0 < 4294967296) (e:q * yn1+r=u) (h:(u * 4294967296+d) / (yn1 * 4294967296+yn0)<=q) (a:q<=4294967296) (o:4294967296<=r):q=(u * 4294967296+d) / (yn1 * 4294967296+yn0):=by
 refine qQa (qg0 (by omega) ?_) h;have n:q * yn0<=4294967296 * 4294967295:=qMq a (by omega);have:=mt (qc4 (yn0:=yn0) (d:=d) e).2 (by omega);omega
theorem qis (U a b Y B:Nat) (d:0 < Y):(U * B+a) / Y * B+((U * B+a) % Y * B+b) / Y=((U * B+a) * B+b) / Y/\((U * B+a) % Y * B+b) % Y=((U * B+a) * B+b) % Y:=by
 have e:(U * B+a) * B+b=Y * ((U * B+a) / Y * B)+((U * B+a) % Y * B+b):=by
  have:=qOq (U * B+a) Y;generalize (U * B+a) / Y=q at *;generalize (U * B+a) % Y=r at *;rw [<-this,uu,<-qQm,qP1]
 rw [e,Nat.mul_add_div d,Nat.mul_add_mod];simp
def qb8 (n d:Nat):Nat:=if d < 2 * (n % d)∨(2 * (n % d)=d/\n / d % 2=1) then n / d+1 else n / d
def qe4 (w d:Int):Option Int:=if d=0 then none else if 1152921504606846976 < qb8 w.natAbs d.natAbs then none else some (if decide (w < 0)=decide (d < 0) then (qb8 w.natAbs d.natAbs:Int) else -(qb8 w.natAbs d.natAbs:Int))
abbrev vO (o:Option Int):V:=.tup [.lit (.int .i64 (o.getD 0)),.lit (.bool o.isSome)]
end Go.Nm
