/- Merged out of my texts LA CA O7 O8 O9 CB OA OB CC CD CE CF CG CH CI CJ CK. -/
import Derived.Test.YtopfanlkbepemaaGreatKa
import Derived.Test.YtopfanlkbepemaaGreatKTy
import Derived.Test.YtopfanlkbepemaaGreatKVT
import Derived.Test.YtopfanlkbepemaaGreatKVK
import Derived.Lib.IndexMore
import Derived.Test.YtopfanlkbepemaaGreatKVH
namespace Go.Lo
open Go.VL Go.Ar
structure Fac where
 name:Str
 exp:Int
 deriving DecidableEq
structure Hd where
 kind:Int
 op:Str
 name:Str
 table:Str
 val:Val
 unit:List Fac
 param:Int
 wk:Int
 ws:Int
 deriving DecidableEq
inductive E where
 | mk (h:Hd) (args:List E)
def E.hd:E→Hd
 | .mk h _=>h
def E.args:E→List E
 | .mk _ l=>l
theorem E.ext' {x y:E} (h:x.hd=y.hd) (h':x.args=y.args):x=y:=by cases x;cases y;simp_all [E.hd,E.args]
noncomputable instance:DecidableEq E:=fun a b=>Classical.propDecidable (a=b)
abbrev cFac (f:Fac):List V:=[vstr f.name,vint f.exp]
abbrev vFacs (l:List Fac):V:=.list none 2 (l.map cFac)
abbrev cH (h:Hd) (a:V):List V:=[vint h.kind,vstr h.op,vstr h.name,vstr h.table,vint h.val.kind,vint h.val.n,vstr h.val.s,vFacs h.unit,vint h.param,vint h.wk,vint h.ws,a]
mutual
def cE:E→List V
 | .mk h l=>cH h (.list none 12 (cEs l))
def cEs:List E→List (List V)
 | []=>[]
 | x::r=>cE x::cEs r
end
theorem cEs_map:∀ l:List E,cEs l=l.map cE
 | []=>rfl
 | x::r=>by simp only [cEs,List.map_cons,cEs_map r]
abbrev vEs (l:List E):V:=.list none 12 (l.map cE)
theorem cE_mk (h:Hd) (l:List E):cE (.mk h l)=cH h (vEs l):=by rw [cE,cEs_map]
theorem cE_eq (x:E):cE x=cH x.hd (vEs x.args):=by cases x;rw [cE_mk];rfl
theorem cE_len (x:E):(cE x).length=12:=by rw [cE_eq];rfl
abbrev vE (x:E):V:=.agg (cE x)
theorem E.ind {P:E→Prop} (h:∀ hd l,(∀ x ∈ l,P x)→P (.mk hd l)) (x:E):P x :=
 E.rec (motive_1:=P) (motive_2:=fun l=>∀ x ∈ l,P x) (fun hd l ih=>h hd l ih) (fun _ hx=>by cases hx)
  (fun y r hy hr x hx=>by
   rcases List.mem_cons.1 hx with rfl | hx
   ·exact hy
   ·exact hr x hx) x
mutual
def sizeE:E→Nat
 | .mk _ l=>1+sizeEs l
def sizeEs:List E→Nat
 | []=>0
 | x::r=>sizeE x+sizeEs r
end
mutual
def depthE:E→Nat
 | .mk _ l=>depthEs l+1
def depthEs:List E→Nat
 | []=>0
 | x::r=>max (depthE x) (depthEs r)
end
theorem sizeE_mk (h:Hd) (l:List E):sizeE (.mk h l)=1+sizeEs l:=by rw [sizeE]
theorem depthE_mk (h:Hd) (l:List E):depthE (.mk h l)=depthEs l+1:=by rw [depthE]
theorem depthEs_mem {x:E}:∀ {l:List E},x ∈ l→depthE x≤depthEs l
 | y::r,h=>by
  rcases List.mem_cons.1 h with rfl | h
  ·simp only [depthEs];exact Nat.le_max_left _ _
  ·have:=depthEs_mem h;simp only [depthEs];exact Nat.le_trans this (Nat.le_max_right _ _)
abbrev es0:Str:=⟨#[]⟩
abbrev val0:Val:=⟨0,0,es0⟩
abbrev hd0 (k:Int):Hd:=⟨k,es0,es0,es0,val0,[],0,0,0⟩
abbrev exp0:E:=.mk (hd0 0) []
structure Nd where
 kind:Int
 table:Str
 expr:E
 op:Str
 param:Int
 wk:Int
 ws:Int
 val:Val
 name:Str
 inn:List Int
noncomputable instance:DecidableEq Nd:=fun a b=>Classical.propDecidable (a=b)
end Go.Lo
set_option linter.unusedSimpArgs false
set_option maxRecDepth 100000
namespace Go.Lo
open Go.VL Go.Ar
abbrev hTT:Hd:={ hd0 1 with val:=⟨1,1,es0⟩ }
abbrev tt:E:=.mk hTT []
structure Typ where
 kind:Int
 unit:List Fac
 of:Str
 deriving DecidableEq
structure Fld where
 name:Str
 typ:Typ
 deriving DecidableEq
structure Tab where
 name:Str
 entity:Str
 fields:List Fld
 keep:Int
 deriving DecidableEq
structure Ftr where
 name:Str
 entity:Str
 typ:Typ
 body:E
 version:Int
structure Cat where
 tables:List Tab
 features:List Ftr
 drafts:List Ftr
 past:List Ftr
abbrev cFld (f:Fld):List V:=[vstr f.name,vint f.typ.kind,vFacs f.typ.unit,vstr f.typ.of]
abbrev cTab (t:Tab):List V:=[vstr t.name,vstr t.entity,.list none 4 (t.fields.map cFld),vint t.keep]
abbrev cF (f:Ftr) (h:Hd) (a:V):List V:=[vstr f.name,vstr f.entity,vint f.typ.kind,vFacs f.typ.unit,vstr f.typ.of,vint h.kind,vstr h.op,vstr h.name,vstr h.table,vint h.val.kind,vint h.val.n,vstr h.val.s,vFacs h.unit,vint h.param,vint h.wk,vint h.ws,a,vint f.version]
def cFtr (f:Ftr):List V:=cF f f.body.hd (vEs f.body.args)
theorem cFtr_eq (f:Ftr):cFtr f=cF f f.body.hd (vEs f.body.args):=rfl
abbrev vFtrs (l:List Ftr):V:=.list none 18 (l.map cFtr)
abbrev vTabs (l:List Tab):V:=.list none 4 (l.map cTab)
abbrev cCat (c:Cat):List V:=[vTabs c.tables,vFtrs c.features,vFtrs c.drafts,vFtrs c.past]
abbrev vCat (c:Cat):V:=.agg (cCat c)
noncomputable instance:DecidableEq Ftr:=fun a b=>Classical.propDecidable (a=b)
noncomputable instance:DecidableEq Cat:=fun a b=>Classical.propDecidable (a=b)
end Go.Lo
namespace Go.Proofs.YtopfanlkbepemaaGreat
open Go.VL Go.Ar Go.Lo Go.Proofs.YtopfanlkbepemaaGreat
def outB (n m:Int):Bool:=decide (m < n) || decide (n < -m)
def wordC (c:UInt8):Bool:=!((decide ((c.toNat:Int) < 97) || decide ((122:Int) < c.toNat)) && (decide ((c.toNat:Int) < 48) || decide ((57:Int) < c.toNat)) && !decide ((c.toNat:Int)=95))
def wordB (s:Str):Bool:=if s.size=0 then false else if 24 < s.size then false else if ((s.data.toList.getD 0 0).toNat:Int) < 97 then false else if (122:Int) < ((s.data.toList.getD 0 0).toNat:Int) then false else s.data.toList.all wordC
theorem all_take {α:Type} {p:α→Bool} {l:List α} {i:Nat} (h:i < l.length):(l.take (i+1)).all p=((l.take i).all p && p l[i]):=by
 rw [List.take_succ_eq_append_getElem h,List.all_append];simp
theorem all_fail {α:Type} {p:α→Bool} {l:List α} {i:Nat} (h:i < l.length) (hp:p l[i]=false):l.all p=false:=by
 rw [List.all_eq_false]
 exact⟨l[i],List.getElem_mem h,by rw [hp];decide⟩
theorem getD_str (s:Str) (i:Nat) (h:i < s.size):s.data.toList.getD i 0=s.data.toList[i]'(by simpa using h):=by
 have h':i < s.data.toList.length:=by simpa using h
 rw [List.getD_eq_getElem?_getD,List.getElem?_eq_getElem h',Option.getD_some]
def wordsL : List UInt8 := " table feature of keep bool text key int dec if then else default or and not true false null count sum mean min max first last distinct quantile decay all sliding tumbling session where ".toUTF8.data.toList
def keyB (s:Str):Bool:=if s=es0 then false else if Lib.contains s.data.toList [32]=true then false else Lib.contains wordsL (32::(s.data.toList++[32]))
def nameC (i:Nat) (c:UInt8):Bool:=(decide ((97:Int)≤c.toNat) && decide ((c.toNat:Int)≤122)) || (decide (0 < i) && ((decide ((48:Int)≤c.toNat) && decide ((c.toNat:Int)≤57)) || decide ((c.toNat:Int)=95)))
def nameL:Nat→List UInt8→Bool
 | _,[]=>true
 | i,c::r=>nameC i c && nameL (i+1) r
theorem nameL_append:∀ (i:Nat) (l m:List UInt8),nameL i (l++m)=(nameL i l && nameL (i+l.length) m)
 | i,[],m=>by simp [nameL]
 | i,c::r,m=>by simp only [List.cons_append,nameL,nameL_append (i+1) r m,List.length_cons,Bool.and_assoc,show i+1+r.length=i+(r.length+1) by omega]
theorem nameL_take {l:List UInt8} {i:Nat} (h:i < l.length):nameL 0 (l.take (i+1))=(nameL 0 (l.take i) && nameC i l[i]):=by
 rw [List.take_succ_eq_append_getElem h,nameL_append,List.length_take,Nat.min_eq_left (by omega),Nat.zero_add];simp [nameL]
theorem nameL_fail {l:List UInt8} {i:Nat} (h:i < l.length) (hp:nameC i l[i]=false):nameL 0 l=false:=by
 rw [← List.take_append_drop (i+1) l,nameL_append,nameL_take h,hp];simp
def nameB (s:Str):Bool:=if s=es0 then false else if 24 < s.size then false else if keyB s=true then false else nameL 0 s.data.toList
def memS (l:List Str) (s:Str):Bool:=l.any fun x=>decide (s=x)
theorem memS_iff {l:List Str} {s:Str}:memS l s=true↔s ∈ l:=by
 unfold memS
 rw [List.any_eq_true]
 exact⟨fun⟨x,h,e⟩=>by rw [of_decide_eq_true e];exact h,fun h=>⟨s,h,decide_eq_true rfl⟩⟩
def leS (a b:Str):Bool:=Op.bytesLess a.data.toList b.data.toList || decide (a=b)
def unitL:Option Str→List Fac→Int
 | _,[]=>0
 | p,f::r=>if wordB f.name=false then 1 else if f.exp=0 then 70 else if outB f.exp 8=true then 70 else if (p.any fun q=>leS f.name q)=true then 3 else unitL (some f.name) r
def unitC (u:List Fac):Int:=if 4 < u.length then 2 else unitL none u
def prevN (u:List Fac):Nat→Option Str
 | 0=>none
 | i+1=>(u[i]?).map (·.name)
def okCh (low:Int) (c:UInt8):Bool:=if (c.toNat:Int) < low then false else if (126:Int) < c.toNat then false else if (c.toNat:Int)=34 then false else decide (¬ (c.toNat:Int)=92)
def valC (v:Val):Int :=
 if v.kind < 0 then 1 else if 5 < v.kind then 1 else if ¬ v.kind=4∧¬ v.kind=5∧¬ v.s=es0 then 1
 else if ¬ v.kind=2∧¬ v.kind=3∧¬ v.n=0∧(¬ v.kind=1∨¬ v.n=1) then 1
 else if v.n < -1152921504606846976 then 2 else if 1152921504606846976 < v.n then 2
 else if ¬ v.kind=4∧¬ v.kind=5 then 0
 else if v.kind=5 then (if 32 < v.s.size then 2 else if v.s=es0 then 3 else if v.s.data.toList.all (okCh 33)=true then 0 else 3)
 else if 64 < v.s.size then 2 else if v.s.data.toList.all (okCh 32)=true then 0 else 3
abbrev vTy (k:Int) (u:List Fac) (of:Str):V:=.agg [vint k,vFacs u,vstr of]
def allN (u:List Fac):Bool:=u.all fun f=>nameB f.name
def typeC (k:Int) (u:List Fac) (of:Str):Int :=
 if k < 1 then 3 else if 5 < k then 3 else if 0 < u.length∧¬ (k=2∨k=3) then 3
 else if k=5 then (if of=es0 then 3 else if nameB of=false then 3 else if ¬ unitC u=0 then 70 else if allN u=false then 70 else 0)
 else if ¬ of=es0 then 3 else if ¬ unitC u=0 then 70 else if allN u=false then 70 else 0
theorem unitC_len {u:List Fac} (h:unitC u=0):u.length≤4:=by
 unfold unitC at h
 split at h
 ·cases h
 ·omega
theorem wrapAdd (a b:Int):IntKind.i64.wrap (IntKind.i64.wrap a+IntKind.i64.wrap b)=IntKind.i64.wrap (a+b):=by
 simp only [IntKind.wrap_i64];omega
def big:Nat:=1099511627776
inductive Fit:E→Prop
 | mk (h:Hd) (l:List E) (hu:h.unit.length≤big) (hl:l.length≤big) (ha:∀ x ∈ l,Fit x):Fit (.mk h l)
theorem Fit.unit {x:E} (h:Fit x):x.hd.unit.length≤big:=by cases h;assumption
theorem Fit.len {x:E} (h:Fit x):x.args.length≤big:=by cases h;assumption
theorem Fit.args {x:E} (h:Fit x):∀ y ∈ x.args,Fit y:=by cases h;assumption
theorem fac_ext (f g:Fac):(f=g)=(f.name=g.name∧f.exp=g.exp):=by cases f;cases g;simp
theorem sizeEs_append:∀ l m:List E,sizeEs (l++m)=sizeEs l+sizeEs m
 | [],m=>by simp [sizeEs]
 | x::r,m=>by simp only [List.cons_append,sizeEs,sizeEs_append r m];omega
theorem depthEs_append:∀ l m:List E,depthEs (l++m)=max (depthEs l) (depthEs m)
 | [],m=>by simp [depthEs]
 | x::r,m=>by simp only [List.cons_append,depthEs,depthEs_append r m];omega
theorem hd_ext (a b:Hd):(a=b)=(a.kind=b.kind∧a.op=b.op∧a.name=b.name∧a.table=b.table∧(a.val.kind=b.val.kind∧a.val.n=b.val.n∧a.val.s=b.val.s)∧a.unit=b.unit∧a.param=b.param∧a.wk=b.wk∧a.ws=b.ws):=by
 cases a with | mk _ _ _ _ v1 _ _ _ _=>cases b with | mk _ _ _ _ v2 _ _ _ _=>cases v1;cases v2;simp
theorem valEq (a b:Val):(decide (a.kind=b.kind) && (decide (a.n=b.n) && decide (a.s=b.s)))=decide (a=b):=by
 cases a;cases b
 rw [Bool.eq_iff_iff];simp
theorem winEq (a b:Hd):(decide (a.wk=b.wk) && decide (a.ws=b.ws))=decide (a.wk=b.wk∧a.ws=b.ws):=by
 rw [Bool.eq_iff_iff];simp
abbrev aggL:List Str:=[⟨#[99,111,117,110,116]⟩,⟨#[115,117,109]⟩,⟨#[109,101,97,110]⟩,⟨#[109,105,110]⟩,⟨#[109,97,120]⟩,⟨#[102,105,114,115,116]⟩,⟨#[108,97,115,116]⟩,⟨#[100,105,115,116,105,110,99,116]⟩,⟨#[113,117,97,110,116,105,108,101]⟩,⟨#[100,101,99,97,121]⟩]
abbrev unL:List Str:=[⟨#[45]⟩,⟨#[110,111,116]⟩,⟨#[110,117,108,108]⟩]
abbrev binL:List Str:=[⟨#[43]⟩,⟨#[45]⟩,⟨#[42]⟩,⟨#[47]⟩,⟨#[61,61]⟩,⟨#[33,61]⟩,⟨#[60]⟩,⟨#[60,61]⟩,⟨#[97,110,100]⟩,⟨#[111,114]⟩]
abbrev sQuant:Str:=⟨#[113,117,97,110,116,105,108,101]⟩
abbrev sDecay:Str:=⟨#[100,101,99,97,121]⟩
abbrev sCount:Str:=⟨#[99,111,117,110,116]⟩
def loP (op:Str):Int:=if op=sQuant then 1 else if op=sDecay then 1 else 0
def hiP (op:Str):Int:=if op=sQuant then 1000 else if op=sDecay then 1073741824 else 0
def okWin (wk ws:Int):Bool:=if wk < 1 then false else if 4 < wk then false else if ¬ (wk=1↔ws=0) then false else if ws < 0 then false else if 1099511627776 < ws then false else true
def okAgg (h:Hd):Bool:=if memS aggL h.op=false then false else if nameB h.table=false then false else if h.param < loP h.op then false else if hiP h.op < h.param then false else okWin h.wk h.ws
def okHd (h:Hd) (ins:Bool):Bool :=
 if h.kind=1 then (if ¬ valC h.val=0 then false else if h.val.n < 0 then false else decide (typeC h.val.kind h.unit h.name=0))
 else if h.kind=2 then (if ins=true then nameB h.name else false)
 else if h.kind=3 then (if ins=true then false else nameB h.name)
 else if h.kind=4 then (if ins=true then false else nameB h.name)
 else if h.kind=5 then (if ins=true then false else okAgg h)
 else if h.kind=6 then memS unL h.op
 else if h.kind=7 then memS binL h.op
 else if h.kind=8 then true
 else decide (h.kind=9)
def wantH (h:Hd):Hd :=
 if h.kind=1 then { hd0 1 with val:=h.val,unit:=h.unit,name:=h.name }
 else if h.kind=2 then { hd0 2 with name:=h.name } else if h.kind=3 then { hd0 3 with name:=h.name } else if h.kind=4 then { hd0 4 with name:=h.name }
 else if h.kind=5 then { hd0 5 with op:=h.op,table:=h.table,param:=h.param,wk:=h.wk,ws:=h.ws }
 else if h.kind=6 then { hd0 6 with op:=h.op } else if h.kind=7 then { hd0 7 with op:=h.op } else hd0 h.kind
def manyH (k:Int):Int:=if k=4 then 1 else if k=5 then 2 else if k=6 then 1 else if k=7 then 2 else if k=8 then 3 else if k=9 then 2 else 0
abbrev hdTrue:Hd:={ hd0 1 with val:=⟨1,1,es0⟩ }
def countOk (h:Hd) (l:List E):Bool:=if h.op=sCount then (if h.kind=5 then (match l with | []=>false | x::_=>decide (x.hd=hdTrue)) else true) else true
mutual
def properE:E→Bool→Bool
 | .mk h l,ins=>okHd h ins && decide (h=wantH h) && decide ((l.length:Int)=manyH h.kind) && properEs l (ins || decide (h.kind=5)) && countOk h l
def properEs:List E→Bool→Bool
 | [],_=>true
 | x::r,ins=>properE x ins && properEs r ins
end
theorem properE_mk (h:Hd) (l:List E) (ins:Bool):properE (.mk h l) ins=(okHd h ins && decide (h=wantH h) && decide ((l.length:Int)=manyH h.kind) && properEs l (ins || decide (h.kind=5)) && countOk h l):=by rw [properE]
theorem properEs_append:∀ (l m:List E) (ins:Bool),properEs (l++m) ins=(properEs l ins && properEs m ins)
 | [],m,ins=>by simp [properEs]
 | x::r,m,ins=>by simp only [List.cons_append,properEs,properEs_append r m,Bool.and_assoc]
theorem properEs_all:∀ (l:List E) (ins:Bool),properEs l ins=true↔∀ x ∈ l,properE x ins=true
 | [],ins=>by simp [properEs]
 | x::r,ins=>by simp only [properEs,Bool.and_eq_true,properEs_all r ins,List.mem_cons,forall_eq_or_imp]
abbrev cHu (h:Hd) (u a:V):List V:=[vint h.kind,vstr h.op,vstr h.name,vstr h.table,vint h.val.kind,vint h.val.n,vstr h.val.s,u,vint h.param,vint h.wk,vint h.ws,a]
theorem leAgg {l l':List V} (h:LeL l l'):Le (.agg l) (.agg l'):=by
 intro w I x hx
 simp only [V.rep] at hx ⊢
 obtain⟨xs,e,hr⟩:=hx
 exact⟨xs,e,h.reps hr⟩
def shapeC (x:E):Int:=if 64 < IntKind.i64.wrap (sizeE x) then 2 else if 12 < depthE x then 2 else if properE x false=true then 0 else 3
theorem fit0:Fit exp0:=.mk _ _ (by simp [big]) (by simp [big]) (fun x hx=>by cases hx)
theorem manyH_le (k:Int):manyH k≤3:=by
 unfold manyH
 repeat' split
 all_goals omega
theorem proper_parts {h:Hd} {l:List E} {ins:Bool} (hp:properE (.mk h l) ins=true):okHd h ins=true∧h=wantH h∧(l.length:Int)=manyH h.kind∧(∀ x ∈ l,properE x (ins || decide (h.kind=5))=true)∧countOk h l=true:=by
 rw [properE_mk] at hp
 simp only [Bool.and_eq_true,decide_eq_true_eq] at hp
 exact⟨hp.1.1.1.1,hp.1.1.1.2,hp.1.1.2,(properEs_all l _).1 hp.1.2,hp.2⟩
theorem sizeEs_le (m:Nat) (hm:1≤m):∀ l:List E,l.length≤3→(∀ x ∈ l,2 * sizeE x+1≤m)→2 * (1+sizeEs l)+1≤3 * m
 | [],_,_=>by simp only [sizeEs];omega
 | [a],_,h=>by have:=h a (by simp);simp only [sizeEs];omega
 | [a,b],_,h=>by have:=h a (by simp);have:=h b (by simp);simp only [sizeEs];omega
 | [a,b,c],_,h=>by have:=h a (by simp);have:=h b (by simp);have:=h c (by simp);simp only [sizeEs];omega
 | _::_::_::_::_,h,_=>by simp at h
theorem proper_size:∀ (x:E) (ins:Bool),properE x ins=true→2 * sizeE x+1≤3 ^ depthE x:=by
 intro x
 induction x using E.ind with
 | h hd l ih =>
 intro ins hp
 obtain⟨_,_,h3,h4,_⟩:=proper_parts hp
 have hl:l.length≤3:=by have:=manyH_le hd.kind;omega
 have:=sizeEs_le (3 ^ depthEs l) (Nat.pos_of_ne_zero (by simp)) l hl fun x hx=>Nat.le_trans (ih x hx _ (h4 x hx)) (Nat.pow_le_pow_right (by decide) (depthEs_mem hx))
 rw [sizeE_mk,depthE_mk,Nat.pow_succ]
 omega
theorem shape_parts {x:E} (h:shapeC x=0):sizeE x≤64∧depthE x≤12∧properE x false=true:=by
 unfold shapeC at h
 split at h
 ·cases h
 ·rename_i h1
  split at h
  ·cases h
  ·rename_i h2
   split at h
   ·rename_i h3
    have h4:=proper_size x false h3
    have h5:3 ^ depthE x≤3 ^ 12:=Nat.pow_le_pow_right (by decide) (by omega)
    rw [show (3:Nat) ^ 12=531441 by decide] at h5
    rw [wrap_id (by omega) (by omega)] at h1
    exact⟨by omega,by omega,h3⟩
   ·cases h
theorem leTup {l l':List V} (h:LeL l l'):Le (.tup l) (.tup l'):=by
 intro w I x hx
 simp only [V.rep] at hx ⊢
 obtain⟨xs,e,hr⟩:=hx
 exact⟨xs,e,h.reps hr⟩
theorem leE {h:Hd} {u a:V} {l:List E} (hu:Le u (vFacs h.unit)) (ha:Le a (vEs l)):Le (.agg [vint h.kind,vstr h.op,vstr h.name,vstr h.table,vint h.val.kind,vint h.val.n,vstr h.val.s,u,vint h.param,vint h.wk,vint h.ws,a]) (vE (.mk h l)):=by
 rw [vE,cE_mk]
 exact leAgg (.cons (Le.refl _) (.cons (Le.refl _) (.cons (Le.refl _) (.cons (Le.refl _) (.cons (Le.refl _) (.cons (Le.refl _) (.cons (Le.refl _) (.cons hu (.cons (Le.refl _) (.cons (Le.refl _) (.cons (Le.refl _) (.cons ha .nil))))))))))))
end Go.Proofs.YtopfanlkbepemaaGreat
set_option linter.unusedSimpArgs false
set_option maxRecDepth 100000
set_option linter.defProp false
namespace Go.Lo
open Go.VL Go.Ar
def padW:List (List UInt8)→List UInt8
 | []=>[]
 | w::r=>w++32::padW r
theorem sep_eq {s w:List UInt8} (hs:(32:UInt8) ∉ s) (hw:(32:UInt8) ∉ w):∀ {a b:List UInt8},s++32::a=w++32::b→s=w:=by
 induction s generalizing w with
 | nil =>
  intro a b h
  cases w with
  | nil=>rfl
  | cons c r =>
   simp only [List.nil_append,List.cons_append,List.cons.injEq] at h
   exact absurd (by rw [h.1];exact List.mem_cons_self) hw
 | cons c r ih =>
  intro a b h
  cases w with
  | nil =>
   simp only [List.nil_append,List.cons_append,List.cons.injEq] at h
   exact absurd (by rw [← h.1];exact List.mem_cons_self) hs
  | cons d t =>
   simp only [List.cons_append,List.cons.injEq] at h
   rw [h.1,ih (fun h=>hs (List.mem_cons_of_mem _ h)) (fun h=>hw (List.mem_cons_of_mem _ h)) h.2]
theorem infix_app {x:UInt8} {l:List UInt8}:∀ {w r:List UInt8},x ∉ w→(x::l) <:+: w++r→(x::l) <:+: r
 | [],r,_,h=>h
 | c::w,r,hx,h=>by
  rw [List.cons_append,List.infix_cons_iff] at h
  rcases h with h | h
  ·rw [List.cons_prefix_cons] at h
   exact absurd (by rw [h.1];exact List.mem_cons_self) hx
  ·exact infix_app (fun h=>hx (List.mem_cons_of_mem _ h)) h
theorem pad_iff {s:List UInt8} (hs:(32:UInt8) ∉ s):∀ {ws:List (List UInt8)},(∀ w ∈ ws,(32:UInt8) ∉ w)→((32::(s++[32])) <:+: (32::padW ws)↔s ∈ ws)
 | [],_=>by
  constructor
  ·intro h
   have:=h.length_le
   simp [padW] at this
  ·intro h;cases h
 | w::ws,hw=>by
  have hw0:=hw w List.mem_cons_self
  have ih:=pad_iff hs (ws:=ws) fun x hx=>hw x (List.mem_cons_of_mem _ hx)
  rw [List.infix_cons_iff,padW,List.mem_cons,← ih]
  constructor
  ·rintro(h | h)
   ·rw [List.cons_prefix_cons] at h
    obtain⟨t,ht⟩:=h.2
    refine .inl (sep_eq hs hw0 (a:=t) (b:=padW ws) ?_)
    rw [← ht];simp
   ·exact .inr (infix_app hw0 h)
  ·rintro(rfl | h)
   ·refine .inl ?_
    rw [List.cons_prefix_cons]
    exact⟨rfl,padW ws,by simp⟩
   ·refine .inr (h.trans (List.suffix_append _ _).isInfix)
theorem contains_iff (s sub:List UInt8):Lib.contains s sub=true↔sub <:+: s:=by
 unfold Lib.contains
 rw [decide_eq_true_iff]
 constructor
 ·intro h
  rcases Lib.index_spec s sub with⟨h1,_⟩ | ⟨i,h1,h2,h3,_⟩
  ·omega
  ·unfold Lib.occAt at h3
   exact(List.isPrefixOf_iff_prefix.1 h3).isInfix.trans (List.drop_suffix i s).isInfix
 ·rintro⟨a,b,h⟩
  rcases Lib.index_spec s sub with⟨h1,h2⟩ | ⟨i,h1,_⟩
  ·have:=h2 a.length (by rw [← h];simp)
   unfold Lib.occAt at this
   rw [← h,List.append_assoc,List.drop_left] at this
   rw [List.isPrefixOf_iff_prefix.2 (List.prefix_append _ _)] at this
   cases this
  ·omega
abbrev kwS:List Str:=[⟨#[116,97,98,108,101]⟩,⟨#[102,101,97,116,117,114,101]⟩,⟨#[111,102]⟩,⟨#[107,101,101,112]⟩,⟨#[98,111,111,108]⟩,⟨#[116,101,120,116]⟩,⟨#[107,101,121]⟩,⟨#[105,110,116]⟩,⟨#[100,101,99]⟩,⟨#[105,102]⟩,⟨#[116,104,101,110]⟩,⟨#[101,108,115,101]⟩,⟨#[100,101,102,97,117,108,116]⟩,⟨#[111,114]⟩,⟨#[97,110,100]⟩,⟨#[110,111,116]⟩,⟨#[116,114,117,101]⟩,⟨#[102,97,108,115,101]⟩,⟨#[110,117,108,108]⟩,⟨#[99,111,117,110,116]⟩,⟨#[115,117,109]⟩,⟨#[109,101,97,110]⟩,⟨#[109,105,110]⟩,⟨#[109,97,120]⟩,⟨#[102,105,114,115,116]⟩,⟨#[108,97,115,116]⟩,⟨#[100,105,115,116,105,110,99,116]⟩,⟨#[113,117,97,110,116,105,108,101]⟩,⟨#[100,101,99,97,121]⟩,⟨#[97,108,108]⟩,⟨#[115,108,105,100,105,110,103]⟩,⟨#[116,117,109,98,108,105,110,103]⟩,⟨#[115,101,115,115,105,111,110]⟩,⟨#[119,104,101,114,101]⟩]
def kwL:List (List UInt8):=kwS.map fun w=>w.data.toList
def kwB (s:Str):Bool:=kwS.any fun w=>decide (s=w)
theorem kwB_iff {s:Str}:kwB s=true↔s ∈ kwS:=by
 unfold kwB
 rw [List.any_eq_true]
 exact⟨fun⟨x,h,e⟩=>by rw [of_decide_eq_true e];exact h,fun h=>⟨s,h,decide_eq_true rfl⟩⟩
theorem kwB_f {s:Str} (h:s ∉ kwS):kwB s=false:=by
 cases e:kwB s
 ·rfl
 ·exact absurd (kwB_iff.1 e) h
end Go.Lo
namespace Go.Proofs.YtopfanlkbepemaaGreat
open Go.VL Go.Ar Go.Lo Go.Proofs.YtopfanlkbepemaaGreat
theorem wordsL_pad:wordsL=32::padW kwL:=by decide +kernel
theorem kw_no:∀ w ∈ kwL,(32:UInt8) ∉ w:=by decide +kernel
theorem es0_not:kwB es0=false:=by decide +kernel
theorem str_ext {s t:Str} (h:s.data.toList=t.data.toList):s=t:=by
 cases s;cases t
 simp only [ByteArray.mk.injEq]
 exact Array.toList_inj.1 h
theorem mem_kwL {s:Str}:s.data.toList ∈ kwL↔s ∈ kwS:=by
 unfold kwL
 rw [List.mem_map]
 exact⟨fun⟨t,h,e⟩=>by rw [← str_ext e];exact h,fun h=>⟨s,h,rfl⟩⟩
theorem keyB_iff (s:Str):keyB s=kwB s:=by
 unfold keyB
 split
 ·rename_i h
  rw [h]
  exact es0_not.symm
 ·split
  ·rename_i h
   refine(kwB_f fun hm=>?_).symm
   have h1:=kw_no _ (mem_kwL.2 hm)
   obtain⟨a,b,e⟩:=(contains_iff _ _).1 h
   exact h1 (by rw [← e];simp)
  ·rename_i h
   have hs:(32:UInt8) ∉ s.data.toList:=fun hm=>h ((contains_iff _ _).2 (by obtain⟨a,b,e⟩:=List.append_of_mem hm;exact⟨a,b,by rw [e];simp⟩))
   rw [Bool.eq_iff_iff,contains_iff,wordsL_pad,pad_iff hs kw_no,mem_kwL,kwB_iff]
theorem keywordR_ok (s:Str):OkP Tryz.prog 94 [vstr s] (vbool (kwB s)):=by
 have fb:∀ {a b:Bool},a=b→V.lit (.bool a)=vbool b:=fun h=>by rw [h]
 refine Ok.of_ex Ty.mixed Tryz.func94 rfl (by simp [Tryz.ntmps94]) (by kernel_rfl) fun F w0 I0=>?_
 simp only [↓rA,rB,reduceCtorEq]
 refine onCond_splitb (fun h0=>?_) (fun h0=>?_)
 ·simp only [↓rA,rB,Tryz.results94,h0]
  have e:s=kwS[0]'(by decide):=of_decide_eq_true h0
  have m:s ∈ kwS:=by rw [e];exact List.getElem_mem _
  exact ret_done (fb (kwB_iff.2 m).symm)
 simp only [↓rA,rB,Nat.reduceEqDiff,h0]
 refine onCond_splitb (fun h1=>?_) (fun h1=>?_)
 ·simp only [↓rA,rB,Tryz.results94,h1]
  have e:s=kwS[1]'(by decide):=of_decide_eq_true h1
  have m:s ∈ kwS:=by rw [e];exact List.getElem_mem _
  exact ret_done (fb (kwB_iff.2 m).symm)
 simp only [↓rA,rB,Nat.reduceEqDiff,h1]
 refine onCond_splitb (fun h2=>?_) (fun h2=>?_)
 ·simp only [↓rA,rB,Tryz.results94,h2]
  have e:s=kwS[2]'(by decide):=of_decide_eq_true h2
  have m:s ∈ kwS:=by rw [e];exact List.getElem_mem _
  exact ret_done (fb (kwB_iff.2 m).symm)
 simp only [↓rA,rB,Nat.reduceEqDiff,h2]
 refine onCond_splitb (fun h3=>?_) (fun h3=>?_)
 ·simp only [↓rA,rB,Tryz.results94,h3]
  have e:s=kwS[3]'(by decide):=of_decide_eq_true h3
  have m:s ∈ kwS:=by rw [e];exact List.getElem_mem _
  exact ret_done (fb (kwB_iff.2 m).symm)
 simp only [↓rA,rB,Nat.reduceEqDiff,h3]
 refine onCond_splitb (fun h4=>?_) (fun h4=>?_)
 ·simp only [↓rA,rB,Tryz.results94,h4]
  have e:s=kwS[4]'(by decide):=of_decide_eq_true h4
  have m:s ∈ kwS:=by rw [e];exact List.getElem_mem _
  exact ret_done (fb (kwB_iff.2 m).symm)
 simp only [↓rA,rB,Nat.reduceEqDiff,h4]
 refine onCond_splitb (fun h5=>?_) (fun h5=>?_)
 ·simp only [↓rA,rB,Tryz.results94,h5]
  have e:s=kwS[5]'(by decide):=of_decide_eq_true h5
  have m:s ∈ kwS:=by rw [e];exact List.getElem_mem _
  exact ret_done (fb (kwB_iff.2 m).symm)
 simp only [↓rA,rB,Nat.reduceEqDiff,h5]
 refine onCond_splitb (fun h6=>?_) (fun h6=>?_)
 ·simp only [↓rA,rB,Tryz.results94,h6]
  have e:s=kwS[6]'(by decide):=of_decide_eq_true h6
  have m:s ∈ kwS:=by rw [e];exact List.getElem_mem _
  exact ret_done (fb (kwB_iff.2 m).symm)
 simp only [↓rA,rB,Nat.reduceEqDiff,h6]
 refine onCond_splitb (fun h7=>?_) (fun h7=>?_)
 ·simp only [↓rA,rB,Tryz.results94,h7]
  have e:s=kwS[7]'(by decide):=of_decide_eq_true h7
  have m:s ∈ kwS:=by rw [e];exact List.getElem_mem _
  exact ret_done (fb (kwB_iff.2 m).symm)
 simp only [↓rA,rB,Nat.reduceEqDiff,h7]
 refine onCond_splitb (fun h8=>?_) (fun h8=>?_)
 ·simp only [↓rA,rB,Tryz.results94,h8]
  have e:s=kwS[8]'(by decide):=of_decide_eq_true h8
  have m:s ∈ kwS:=by rw [e];exact List.getElem_mem _
  exact ret_done (fb (kwB_iff.2 m).symm)
 simp only [↓rA,rB,Nat.reduceEqDiff,h8]
 refine onCond_splitb (fun h9=>?_) (fun h9=>?_)
 ·simp only [↓rA,rB,Tryz.results94,h9]
  have e:s=kwS[9]'(by decide):=of_decide_eq_true h9
  have m:s ∈ kwS:=by rw [e];exact List.getElem_mem _
  exact ret_done (fb (kwB_iff.2 m).symm)
 simp only [↓rA,rB,Nat.reduceEqDiff,h9]
 refine onCond_splitb (fun h10=>?_) (fun h10=>?_)
 ·simp only [↓rA,rB,Tryz.results94,h10]
  have e:s=kwS[10]'(by decide):=of_decide_eq_true h10
  have m:s ∈ kwS:=by rw [e];exact List.getElem_mem _
  exact ret_done (fb (kwB_iff.2 m).symm)
 simp only [↓rA,rB,Nat.reduceEqDiff,h10]
 refine onCond_splitb (fun h11=>?_) (fun h11=>?_)
 ·simp only [↓rA,rB,Tryz.results94,h11]
  have e:s=kwS[11]'(by decide):=of_decide_eq_true h11
  have m:s ∈ kwS:=by rw [e];exact List.getElem_mem _
  exact ret_done (fb (kwB_iff.2 m).symm)
 simp only [↓rA,rB,Nat.reduceEqDiff,h11]
 refine onCond_splitb (fun h12=>?_) (fun h12=>?_)
 ·simp only [↓rA,rB,Tryz.results94,h12]
  have e:s=kwS[12]'(by decide):=of_decide_eq_true h12
  have m:s ∈ kwS:=by rw [e];exact List.getElem_mem _
  exact ret_done (fb (kwB_iff.2 m).symm)
 simp only [↓rA,rB,Nat.reduceEqDiff,h12]
 refine onCond_splitb (fun h13=>?_) (fun h13=>?_)
 ·simp only [↓rA,rB,Tryz.results94,h13]
  have e:s=kwS[13]'(by decide):=of_decide_eq_true h13
  have m:s ∈ kwS:=by rw [e];exact List.getElem_mem _
  exact ret_done (fb (kwB_iff.2 m).symm)
 simp only [↓rA,rB,Nat.reduceEqDiff,h13]
 refine onCond_splitb (fun h14=>?_) (fun h14=>?_)
 ·simp only [↓rA,rB,Tryz.results94,h14]
  have e:s=kwS[14]'(by decide):=of_decide_eq_true h14
  have m:s ∈ kwS:=by rw [e];exact List.getElem_mem _
  exact ret_done (fb (kwB_iff.2 m).symm)
 simp only [↓rA,rB,Nat.reduceEqDiff,h14]
 refine onCond_splitb (fun h15=>?_) (fun h15=>?_)
 ·simp only [↓rA,rB,Tryz.results94,h15]
  have e:s=kwS[15]'(by decide):=of_decide_eq_true h15
  have m:s ∈ kwS:=by rw [e];exact List.getElem_mem _
  exact ret_done (fb (kwB_iff.2 m).symm)
 simp only [↓rA,rB,Nat.reduceEqDiff,h15]
 refine onCond_splitb (fun h16=>?_) (fun h16=>?_)
 ·simp only [↓rA,rB,Tryz.results94,h16]
  have e:s=kwS[16]'(by decide):=of_decide_eq_true h16
  have m:s ∈ kwS:=by rw [e];exact List.getElem_mem _
  exact ret_done (fb (kwB_iff.2 m).symm)
 simp only [↓rA,rB,Nat.reduceEqDiff,h16]
 refine onCond_splitb (fun h17=>?_) (fun h17=>?_)
 ·simp only [↓rA,rB,Tryz.results94,h17]
  have e:s=kwS[17]'(by decide):=of_decide_eq_true h17
  have m:s ∈ kwS:=by rw [e];exact List.getElem_mem _
  exact ret_done (fb (kwB_iff.2 m).symm)
 simp only [↓rA,rB,Nat.reduceEqDiff,h17]
 refine onCond_splitb (fun h18=>?_) (fun h18=>?_)
 ·simp only [↓rA,rB,Tryz.results94,h18]
  have e:s=kwS[18]'(by decide):=of_decide_eq_true h18
  have m:s ∈ kwS:=by rw [e];exact List.getElem_mem _
  exact ret_done (fb (kwB_iff.2 m).symm)
 simp only [↓rA,rB,Nat.reduceEqDiff,h18]
 refine onCond_splitb (fun h19=>?_) (fun h19=>?_)
 ·simp only [↓rA,rB,Tryz.results94,h19]
  have e:s=kwS[19]'(by decide):=of_decide_eq_true h19
  have m:s ∈ kwS:=by rw [e];exact List.getElem_mem _
  exact ret_done (fb (kwB_iff.2 m).symm)
 simp only [↓rA,rB,Nat.reduceEqDiff,h19]
 refine onCond_splitb (fun h20=>?_) (fun h20=>?_)
 ·simp only [↓rA,rB,Tryz.results94,h20]
  have e:s=kwS[20]'(by decide):=of_decide_eq_true h20
  have m:s ∈ kwS:=by rw [e];exact List.getElem_mem _
  exact ret_done (fb (kwB_iff.2 m).symm)
 simp only [↓rA,rB,Nat.reduceEqDiff,h20]
 refine onCond_splitb (fun h21=>?_) (fun h21=>?_)
 ·simp only [↓rA,rB,Tryz.results94,h21]
  have e:s=kwS[21]'(by decide):=of_decide_eq_true h21
  have m:s ∈ kwS:=by rw [e];exact List.getElem_mem _
  exact ret_done (fb (kwB_iff.2 m).symm)
 simp only [↓rA,rB,Nat.reduceEqDiff,h21]
 refine onCond_splitb (fun h22=>?_) (fun h22=>?_)
 ·simp only [↓rA,rB,Tryz.results94,h22]
  have e:s=kwS[22]'(by decide):=of_decide_eq_true h22
  have m:s ∈ kwS:=by rw [e];exact List.getElem_mem _
  exact ret_done (fb (kwB_iff.2 m).symm)
 simp only [↓rA,rB,Nat.reduceEqDiff,h22]
 refine onCond_splitb (fun h23=>?_) (fun h23=>?_)
 ·simp only [↓rA,rB,Tryz.results94,h23]
  have e:s=kwS[23]'(by decide):=of_decide_eq_true h23
  have m:s ∈ kwS:=by rw [e];exact List.getElem_mem _
  exact ret_done (fb (kwB_iff.2 m).symm)
 simp only [↓rA,rB,Nat.reduceEqDiff,h23]
 refine onCond_splitb (fun h24=>?_) (fun h24=>?_)
 ·simp only [↓rA,rB,Tryz.results94,h24]
  have e:s=kwS[24]'(by decide):=of_decide_eq_true h24
  have m:s ∈ kwS:=by rw [e];exact List.getElem_mem _
  exact ret_done (fb (kwB_iff.2 m).symm)
 simp only [↓rA,rB,Nat.reduceEqDiff,h24]
 refine onCond_splitb (fun h25=>?_) (fun h25=>?_)
 ·simp only [↓rA,rB,Tryz.results94,h25]
  have e:s=kwS[25]'(by decide):=of_decide_eq_true h25
  have m:s ∈ kwS:=by rw [e];exact List.getElem_mem _
  exact ret_done (fb (kwB_iff.2 m).symm)
 simp only [↓rA,rB,Nat.reduceEqDiff,h25]
 refine onCond_splitb (fun h26=>?_) (fun h26=>?_)
 ·simp only [↓rA,rB,Tryz.results94,h26]
  have e:s=kwS[26]'(by decide):=of_decide_eq_true h26
  have m:s ∈ kwS:=by rw [e];exact List.getElem_mem _
  exact ret_done (fb (kwB_iff.2 m).symm)
 simp only [↓rA,rB,Nat.reduceEqDiff,h26]
 refine onCond_splitb (fun h27=>?_) (fun h27=>?_)
 ·simp only [↓rA,rB,Tryz.results94,h27]
  have e:s=kwS[27]'(by decide):=of_decide_eq_true h27
  have m:s ∈ kwS:=by rw [e];exact List.getElem_mem _
  exact ret_done (fb (kwB_iff.2 m).symm)
 simp only [↓rA,rB,Nat.reduceEqDiff,h27]
 refine onCond_splitb (fun h28=>?_) (fun h28=>?_)
 ·simp only [↓rA,rB,Tryz.results94,h28]
  have e:s=kwS[28]'(by decide):=of_decide_eq_true h28
  have m:s ∈ kwS:=by rw [e];exact List.getElem_mem _
  exact ret_done (fb (kwB_iff.2 m).symm)
 simp only [↓rA,rB,Nat.reduceEqDiff,h28]
 refine onCond_splitb (fun h29=>?_) (fun h29=>?_)
 ·simp only [↓rA,rB,Tryz.results94,h29]
  have e:s=kwS[29]'(by decide):=of_decide_eq_true h29
  have m:s ∈ kwS:=by rw [e];exact List.getElem_mem _
  exact ret_done (fb (kwB_iff.2 m).symm)
 simp only [↓rA,rB,Nat.reduceEqDiff,h29]
 refine onCond_splitb (fun h30=>?_) (fun h30=>?_)
 ·simp only [↓rA,rB,Tryz.results94,h30]
  have e:s=kwS[30]'(by decide):=of_decide_eq_true h30
  have m:s ∈ kwS:=by rw [e];exact List.getElem_mem _
  exact ret_done (fb (kwB_iff.2 m).symm)
 simp only [↓rA,rB,Nat.reduceEqDiff,h30]
 refine onCond_splitb (fun h31=>?_) (fun h31=>?_)
 ·simp only [↓rA,rB,Tryz.results94,h31]
  have e:s=kwS[31]'(by decide):=of_decide_eq_true h31
  have m:s ∈ kwS:=by rw [e];exact List.getElem_mem _
  exact ret_done (fb (kwB_iff.2 m).symm)
 simp only [↓rA,rB,Nat.reduceEqDiff,h31]
 refine onCond_splitb (fun h32=>?_) (fun h32=>?_)
 ·simp only [↓rA,rB,Tryz.results94,h32]
  have e:s=kwS[32]'(by decide):=of_decide_eq_true h32
  have m:s ∈ kwS:=by rw [e];exact List.getElem_mem _
  exact ret_done (fb (kwB_iff.2 m).symm)
 simp only [↓rA,rB,Nat.reduceEqDiff,h32]
 refine onCond_splitb (fun h33=>?_) (fun h33=>?_)
 ·simp only [↓rA,rB,Tryz.results94,h33]
  have e:s=kwS[33]'(by decide):=of_decide_eq_true h33
  have m:s ∈ kwS:=by rw [e];exact List.getElem_mem _
  exact ret_done (fb (kwB_iff.2 m).symm)
 simp only [↓rA,rB,Tryz.results94,h33]
 refine ret_done (fb (kwB_f fun hm=>?_).symm)
 simp only [kwS,List.mem_cons,List.not_mem_nil,or_false] at hm
 rcases hm with e | e | e | e | e | e | e | e | e | e | e | e | e | e | e | e | e | e | e | e | e | e | e | e | e | e | e | e | e | e | e | e | e | e
 ·exact of_decide_eq_false h0 e
 ·exact of_decide_eq_false h1 e
 ·exact of_decide_eq_false h2 e
 ·exact of_decide_eq_false h3 e
 ·exact of_decide_eq_false h4 e
 ·exact of_decide_eq_false h5 e
 ·exact of_decide_eq_false h6 e
 ·exact of_decide_eq_false h7 e
 ·exact of_decide_eq_false h8 e
 ·exact of_decide_eq_false h9 e
 ·exact of_decide_eq_false h10 e
 ·exact of_decide_eq_false h11 e
 ·exact of_decide_eq_false h12 e
 ·exact of_decide_eq_false h13 e
 ·exact of_decide_eq_false h14 e
 ·exact of_decide_eq_false h15 e
 ·exact of_decide_eq_false h16 e
 ·exact of_decide_eq_false h17 e
 ·exact of_decide_eq_false h18 e
 ·exact of_decide_eq_false h19 e
 ·exact of_decide_eq_false h20 e
 ·exact of_decide_eq_false h21 e
 ·exact of_decide_eq_false h22 e
 ·exact of_decide_eq_false h23 e
 ·exact of_decide_eq_false h24 e
 ·exact of_decide_eq_false h25 e
 ·exact of_decide_eq_false h26 e
 ·exact of_decide_eq_false h27 e
 ·exact of_decide_eq_false h28 e
 ·exact of_decide_eq_false h29 e
 ·exact of_decide_eq_false h30 e
 ·exact of_decide_eq_false h31 e
 ·exact of_decide_eq_false h32 e
 ·exact of_decide_eq_false h33 e
def letB (c:UInt8):Bool:=decide ((97:Int)≤c.toNat) && decide ((c.toNat:Int)≤122)
def digB (c:UInt8):Bool:=decide ((48:Int)≤c.toNat) && decide ((c.toNat:Int)≤57)
theorem letter_ok (c:UInt8):OkP Tryz.prog 126 [.lit (.int .u8 c.toNat)] (vbool (letB c)):=by
 refine Ok.of_ex Ty.mixed Tryz.func126 rfl (by simp [Tryz.ntmps126]) (by kernel_rfl) fun F w0 I0=>?_
 by_cases e:(97:Int)≤c.toNat
 ·simp only [↓rA,rB,Nat.reduceEqDiff,reduceCtorEq,Tryz.results126,e]
  exact ret_done (by simp [letB,e])
 ·simp only [↓rA,rB,Nat.reduceEqDiff,reduceCtorEq,Tryz.results126,e]
  exact ret_done (by simp [letB,e])
theorem digit_ok (c:UInt8):OkP Tryz.prog 127 [.lit (.int .u8 c.toNat)] (vbool (digB c)):=by
 refine Ok.of_ex Ty.mixed Tryz.func127 rfl (by simp [Tryz.ntmps127]) (by kernel_rfl) fun F w0 I0=>?_
 by_cases e:(48:Int)≤c.toNat
 ·simp only [↓rA,rB,Nat.reduceEqDiff,reduceCtorEq,Tryz.results127,e]
  exact ret_done (by simp [digB,e])
 ·simp only [↓rA,rB,Nat.reduceEqDiff,reduceCtorEq,Tryz.results127,e]
  exact ret_done (by simp [digB,e])
theorem nameC_split (i:Nat) (c:UInt8) (hi:0 < i):nameC i c=(letB c || digB c || decide ((c.toNat:Int)=95)):=by
 simp only [nameC,letB,digB,hi,decide_true,Bool.true_and,Bool.or_assoc]
theorem nameC_zero (c:UInt8):nameC 0 c=letB c:=by simp [nameC,letB]
def tbO73:=(aI (aI Ty.c126 (aI Ty.c127 Ty.t159)) (aI Ty.t3 (aI Ty.t4 Ty.t5)))
theorem wordR_ok (s:Str) (h0:0 < s.size) (h1:s.size≤24):Ok Tryz.prog 93 [.list none 1 (byteRows s),vint 0] [] fun v bs rs=>(∃ k:Nat,v=vint k∧((k:Int)=s.size↔nameL 0 s.data.toList=true))∧bs=[]∧rs=[]:=by
 have hsl:s.data.toList.length=s.size:=by simp
 have h0i:(0:Int) < s.size:=by omega
 have hl0:0 < s.data.toList.length:=by omega
 have ht0:=nameL_take hl0
 have hb0:=nameL_fail hl0
 rw [nameC_zero] at ht0 hb0
 refine Ok.of_ex Ty.mixed Tryz.func93 rfl (by simp [Tryz.ntmps93]) (by kernel_rfl) fun F w0 I0=>?_
 simp only [↓rA,rB,Int.reduceToNat,Nat.reduceEqDiff,reduceCtorEq,tbO73,List.length_map,hsl,h0i,getD_map _ _ _ hl0]
 refine OkF_of _ (letter_ok _) ?_
 cases hc0:letB s.data.toList[0]
 ·simp only [↓rA,rB,Tryz.results93]
  exact⟨_,[],[],Le.refl _,List.nil_sublist _,List.nil_sublist _,⟨0,rfl,⟨fun h=>by omega,fun h=>by rw [hb0 hc0] at h;cases h⟩⟩,rfl,rfl⟩
 ·simp only [↓rA,rB,Tryz.results93]
  refine EX_while Ty.mixed (by kernel_rfl) (fun n:Nat=>s.size - n) (fun n S=>1≤n∧n≤s.size∧nameL 0 (s.data.toList.take n)=true∧S.boxes=[]∧S.rows=[]∧S.σ 0=.list none 1 (byteRows s)∧S.σ 1=vint 0∧S.σ 5=vint n) 1 ⟨0,?_⟩ (fun n S ⟨hn1,hn2,hf,gb,gr,g0,g1,g5⟩=>?_)
  ·simp only [rB,Nat.reduceEqDiff,reduceCtorEq]
   exact⟨h0,by rw [ht0,hc0];rfl,rfl⟩
  ·have w0:IntKind.i64.wrap (0+(n:Int))=(n:Int):=by rw [Int.zero_add];exact wrap_id (by omega) (by omega)
   by_cases hlt:n < s.size
   ·have hltl:n < s.data.toList.length:=by omega
    have ht:=nameL_take hltl
    have hb:=nameL_fail hltl
    rw [nameC_split _ _ (by omega)] at ht hb
    have hwi:=wrap_succ (i:=n) (N:=s.size) hlt (by omega)
    simp only [↓rA,rB,Nat.reduceEqDiff,reduceCtorEq,tbO73,gb,g0,g1,g5,List.length_map,hsl,Int.ofNat_lt,hlt,w0,getD_map _ _ _ hltl]
    refine OkF_of _ (letter_ok _) ?_
    cases e1:letB s.data.toList[n]
    ·simp only [↓rA,rB,Nat.reduceEqDiff,reduceCtorEq,tbO73,gr,g0,g1,g5,List.length_map,hsl,Int.ofNat_lt,hlt,w0,getD_map _ _ _ hltl]
     refine OkF_of _ (digit_ok _) ?_
     cases e2:digB s.data.toList[n]
     ·simp only [↓rA,rB,Nat.reduceEqDiff,reduceCtorEq,tbO73,gr,g0,g1,g5,List.length_map,hsl,Int.ofNat_lt,hlt,w0,getD_map _ _ _ hltl]
      refine onCond_splitb (fun hc=>?_) (fun hc=>?_)
      ·simp only [↓rA,rB,Nat.reduceEqDiff,reduceCtorEq,gr,g0,g1,g5,hwi]
       rw [e1,e2,hc] at ht
       exact⟨n+1,by omega,0,by omega,by omega,by rw [ht,hf];rfl,rfl⟩
      ·simp only [↓rA,rB,Nat.reduceEqDiff,gr,g5]
       rw [e1,e2,hc] at hb
       exact⟨_,[],[],Le.refl _,List.nil_sublist _,List.nil_sublist _,⟨n,rfl,⟨fun h=>by omega,fun h=>by rw [hb rfl] at h;cases h⟩⟩,rfl,rfl⟩
     ·simp only [↓rA,rB,Nat.reduceEqDiff,reduceCtorEq,gr,g0,g1,g5,List.length_map,hsl,getD_map _ _ _ hltl,hwi]
      rw [e1,e2] at ht
      exact⟨n+1,by omega,0,by omega,by omega,by rw [ht,hf];rfl,rfl⟩
    ·simp only [↓rA,rB,Nat.reduceEqDiff,reduceCtorEq,gr,g0,g1,g5,List.length_map,hsl,getD_map _ _ _ hltl,hwi]
     rw [e1] at ht
     exact⟨n+1,by omega,0,by omega,by omega,by rw [ht,hf];rfl,rfl⟩
   ·have e:n=s.size:=by omega
    simp only [↓rA,rB,Nat.reduceEqDiff,reduceCtorEq,tbO73,gb,gr,g0,g1,g5,List.length_map,hsl,Int.ofNat_lt,hlt,w0]
    rw [List.take_of_length_le (by omega)] at hf
    exact⟨_,[],[],Le.refl _,List.nil_sublist _,List.nil_sublist _,⟨n,rfl,⟨fun _=>hf,fun _=>by omega⟩⟩,rfl,rfl⟩
def tbO74:=(aI (aI Ty.c93 (aI Ty.c94 Ty.t159)) (aI (aI Ty.t3 Ty.t4) (aI Ty.t5 Ty.t9)))
theorem nameR_ok (s:Str):OkP Tryz.prog 66 [vstr s] (vbool (nameB s)):=by
 have fb:∀ {a b:Bool},a=b→V.lit (.bool a)=vbool b:=fun h=>by rw [h]
 refine Ok.of_ex Ty.mixed Tryz.func66 rfl (by simp [Tryz.ntmps66]) (by kernel_rfl) fun F w0 I0=>?_
 by_cases e0:s=es0
 ·subst e0
  simp only [↓rA,rB,Nat.reduceEqDiff,reduceCtorEq,Tryz.results66]
  exact ret_done (fb (by rw [nameB,if_pos rfl]))
 by_cases e1:24 < s.size
 ·have e1':¬ (s.size:Int)≤24:=by omega
  simp only [↓rA,rB,Nat.reduceEqDiff,reduceCtorEq,tbO74,Tryz.results66,e0,e1']
  exact ret_done (fb (by rw [nameB,if_neg e0,if_pos e1]))
 have e1':(s.size:Int)≤24:=by omega
 have hpos:0 < s.size:=Nat.pos_of_ne_zero fun h=>e0 (str_ext (by
  have:s.data.toList.length=0:=by simpa using h
  rw [List.length_eq_zero_iff.1 this]))
 simp only [↓rA,rB,Nat.reduceEqDiff,reduceCtorEq,tbO74,e0,e1']
 refine OkF_with [] [] (List.Perm.refl _) (wordR_ok s hpos (by omega)) ?_
 rintro v bs rs ⟨⟨k,rfl,hk⟩,rfl,rfl⟩
 have hkw:=keywordR_ok s
 rw [← keyB_iff] at hkw
 by_cases ek:(k:Int)=s.size
 ·simp only [↓rA,rB,Nat.reduceEqDiff,reduceCtorEq,tbO74,ek]
  refine OkF_of _ hkw ?_
  cases e2:keyB s
  ·simp only [↓rA,rB,Nat.reduceEqDiff,Tryz.results66]
   exact ret_done (fb (by rw [nameB,if_neg e0,if_neg e1,if_neg (by rw [e2];decide),hk.1 ek]))
  ·simp only [↓rA,rB,Nat.reduceEqDiff,Tryz.results66]
   exact ret_done (fb (by rw [nameB,if_neg e0,if_neg e1,if_pos e2]))
 ·simp only [↓rA,rB,Nat.reduceEqDiff,reduceCtorEq,tbO74,Tryz.results66,ek]
  refine ret_done (fb ?_)
  rw [nameB,if_neg e0,if_neg e1]
  have:nameL 0 s.data.toList=false:=by
   cases h:nameL 0 s.data.toList
   ·rfl
   ·exact absurd (hk.2 h) ek
  rw [this]
  split <;> rfl
end Go.Proofs.YtopfanlkbepemaaGreat
set_option linter.unusedSimpArgs false
set_option maxRecDepth 100000
set_option linter.defProp false
namespace Go.Proofs.YtopfanlkbepemaaGreat
open Go.VL Go.Ar Go.Lo Go.Proofs.YtopfanlkbepemaaGreat
def tbO80:=(aI (aI Ty.t3 Ty.t4) (aI Ty.t5 Ty.t9))
theorem printable32_ok (s:Str) (hs:s.size≤64):OkP Tryz.prog 124 [vstr s,.lit (.int .u8 32)] (vbool (s.data.toList.all (okCh 32))):=by
 have fb:∀ {a b:Bool},a=b→V.lit (.bool a)=vbool b:=fun h=>by rw [h]
 refine Ok.of_ex Ty.mixed Tryz.func124 rfl (by simp [Tryz.ntmps124]) (by kernel_rfl) fun F w0 I0=>?_
 simp only [↓rA,rB,Tryz.results124]
 refine EX_for Ty.mixed (by kernel_rfl) s.size (fun i S=>(s.data.toList.take i).all (okCh 32)=true∧S.boxes=[]∧S.rows=[]∧S.σ 0=vstr s∧S.σ 1=.lit (.int .u8 32)∧S.σ 5=vint i) ⟨0,?_⟩ (fun i S hi ⟨hf,gb,gr,g0,g1,g5⟩=>?_) (fun S ⟨hf,gb,gr,g0,g1,g5⟩=>?_)
 ·simp only [rB,Nat.reduceEqDiff,reduceCtorEq]
  try exact rfl
 ·have hl:i < s.data.toList.length:=by simpa using hi
  have ht:=all_take (p:=okCh 32) hl
  have hb:=all_fail (p:=okCh 32) hl
  rw [← getD_str s i hi] at ht hb
  generalize hcd:s.data.toList.getD i 0=c at ht hb
  have hwi:=wrap_succ (i:=i) (N:=s.size) hi (by omega)
  have cs:(c.toNat:Int) < 32∨(¬ (c.toNat:Int) < 32∧(126:Int) < c.toNat)∨(¬ (c.toNat:Int) < 32∧¬ (126:Int) < c.toNat∧(c.toNat:Int)=34)∨(¬ (c.toNat:Int) < 32∧¬ (126:Int) < c.toNat∧¬ (c.toNat:Int)=34∧(c.toNat:Int)=92)∨(¬ (c.toNat:Int) < 32∧¬ (126:Int) < c.toNat∧¬ (c.toNat:Int)=34∧¬ (c.toNat:Int)=92):=by omega
  rcases cs with cs | cs | cs | cs | cs <;>
  first
  | (
    have hc:okCh 32 c=false:=by simp [okCh,cs]
    simp only [↓rA,rB,Int.reduceEq,Int.reduceLT,Nat.reduceEqDiff,reduceCtorEq,tbO80,gb,gr,g0,g1,g5,Int.ofNat_lt,hi,hcd,cs]
    exact ret_done (fb (by rw [hb hc])))
  | (
    have hc:okCh 32 c=true:=by simp [okCh,cs]
    simp only [↓rA,rB,Nat.reduceEqDiff,reduceCtorEq,tbO80,gb,gr,g0,g1,g5,Int.ofNat_lt,hi,hcd,cs,hwi]
    exact⟨0,by rw [ht,hf,hc];rfl⟩)
 ·simp only [↓rA,rB,Nat.reduceEqDiff,reduceCtorEq,tbO80,gb,gr,g0,g5,Int.ofNat_lt,Nat.lt_irrefl]
  rw [List.take_of_length_le (by simp)] at hf
  exact ret_done (fb hf.symm)
def tbO81:=(aI (aI Ty.t3 Ty.t4) (aI Ty.t5 Ty.t9))
theorem printable33_ok (s:Str) (hs:s.size≤64):OkP Tryz.prog 124 [vstr s,.lit (.int .u8 33)] (vbool (s.data.toList.all (okCh 33))):=by
 have fb:∀ {a b:Bool},a=b→V.lit (.bool a)=vbool b:=fun h=>by rw [h]
 refine Ok.of_ex Ty.mixed Tryz.func124 rfl (by simp [Tryz.ntmps124]) (by kernel_rfl) fun F w0 I0=>?_
 simp only [↓rA,rB,Tryz.results124]
 refine EX_for Ty.mixed (by kernel_rfl) s.size (fun i S=>(s.data.toList.take i).all (okCh 33)=true∧S.boxes=[]∧S.rows=[]∧S.σ 0=vstr s∧S.σ 1=.lit (.int .u8 33)∧S.σ 5=vint i) ⟨0,?_⟩ (fun i S hi ⟨hf,gb,gr,g0,g1,g5⟩=>?_) (fun S ⟨hf,gb,gr,g0,g1,g5⟩=>?_)
 ·simp only [rB,Nat.reduceEqDiff,reduceCtorEq]
  try exact rfl
 ·have hl:i < s.data.toList.length:=by simpa using hi
  have ht:=all_take (p:=okCh 33) hl
  have hb:=all_fail (p:=okCh 33) hl
  rw [← getD_str s i hi] at ht hb
  generalize hcd:s.data.toList.getD i 0=c at ht hb
  have hwi:=wrap_succ (i:=i) (N:=s.size) hi (by omega)
  have cs:(c.toNat:Int) < 33∨(¬ (c.toNat:Int) < 33∧(126:Int) < c.toNat)∨(¬ (c.toNat:Int) < 33∧¬ (126:Int) < c.toNat∧(c.toNat:Int)=34)∨(¬ (c.toNat:Int) < 33∧¬ (126:Int) < c.toNat∧¬ (c.toNat:Int)=34∧(c.toNat:Int)=92)∨(¬ (c.toNat:Int) < 33∧¬ (126:Int) < c.toNat∧¬ (c.toNat:Int)=34∧¬ (c.toNat:Int)=92):=by omega
  rcases cs with cs | cs | cs | cs | cs <;>
  first
  | (
    have hc:okCh 33 c=false:=by simp [okCh,cs]
    simp only [↓rA,rB,Int.reduceEq,Int.reduceLT,Nat.reduceEqDiff,reduceCtorEq,tbO81,gb,gr,g0,g1,g5,Int.ofNat_lt,hi,hcd,cs]
    exact ret_done (fb (by rw [hb hc])))
  | (
    have hc:okCh 33 c=true:=by simp [okCh,cs]
    simp only [↓rA,rB,Nat.reduceEqDiff,reduceCtorEq,tbO81,gb,gr,g0,g1,g5,Int.ofNat_lt,hi,hcd,cs,hwi]
    exact⟨0,by rw [ht,hf,hc];rfl⟩)
 ·simp only [↓rA,rB,Nat.reduceEqDiff,reduceCtorEq,tbO81,gb,gr,g0,g5,Int.ofNat_lt,Nat.lt_irrefl]
  rw [List.take_of_length_le (by simp)] at hf
  exact ret_done (fb hf.symm)
def tbO82:=(aI (aI Ty.c124 Ty.t3) (aI Ty.t4 (aI Ty.t5 Ty.t9)))
theorem text_ok (s:Str):OkP Tryz.prog 149 [vstr s] (vbool (decide (s.size≤64) && s.data.toList.all (okCh 32))):=by
 have fb:∀ {a b:Bool},a=b→V.lit (.bool a)=vbool b:=fun h=>by rw [h]
 refine Ok.of_ex Ty.mixed Tryz.func149 rfl (by simp [Tryz.ntmps149]) (by kernel_rfl) fun F w0 I0=>?_
 by_cases h:s.size≤64
 ·have h':(s.size:Int)≤64:=by omega
  simp only [↓rA,rB,Nat.reduceEqDiff,reduceCtorEq,tbO82,h']
  refine OkF_of _ (printable32_ok s h) ?_
  simp only [↓rA,rB,Nat.reduceEqDiff,Tryz.results149]
  exact ret_done (fb (by simp [h]))
 ·have h':¬ (s.size:Int)≤64:=by omega
  simp only [↓rA,rB,Nat.reduceEqDiff,reduceCtorEq,tbO82,Tryz.results149,h']
  exact ret_done (fb (by simp [h]))
def tbO83:=(aI (aI Ty.c124 Ty.t3) (aI Ty.t4 (aI Ty.t5 Ty.t9)))
theorem key_ok (s:Str):OkP Tryz.prog 91 [vstr s] (vbool (!decide (s=es0) && (decide (s.size≤32) && s.data.toList.all (okCh 33)))):=by
 have fb:∀ {a b:Bool},a=b→V.lit (.bool a)=vbool b:=fun h=>by rw [h]
 refine Ok.of_ex Ty.mixed Tryz.func91 rfl (by simp [Tryz.ntmps91]) (by kernel_rfl) fun F w0 I0=>?_
 by_cases e:s=es0
 ·subst e
  simp only [↓rA,rB,Nat.reduceEqDiff,reduceCtorEq,Tryz.results91]
  exact ret_done (fb (by simp))
 by_cases h:s.size≤32
 ·have h':(s.size:Int)≤32:=by omega
  simp only [↓rA,rB,Nat.reduceEqDiff,reduceCtorEq,tbO83,e,h']
  refine OkF_of _ (printable33_ok s (by omega)) ?_
  simp only [↓rA,rB,Nat.reduceEqDiff,Tryz.results91]
  exact ret_done (fb (by simp [e,h]))
 ·have h':¬ (s.size:Int)≤32:=by omega
  simp only [↓rA,rB,Nat.reduceEqDiff,reduceCtorEq,tbO83,Tryz.results91,e,h']
  exact ret_done (fb (by simp [h]))
def rngB (n:Int):Bool:=decide (-1152921504606846976≤n) && decide (n≤1152921504606846976)
theorem inRange_ok (n:Int):OkP Tryz.prog 148 [vint n] (vbool (rngB n)):=by
 have fb:∀ {a b:Bool},a=b→V.lit (.bool a)=vbool b:=fun h=>by rw [h]
 refine Ok.of_ex Ty.mixed Tryz.func148 rfl (by simp [Tryz.ntmps148]) (by kernel_rfl) fun F w0 I0=>?_
 by_cases h:(-1152921504606846976:Int)≤n
 ·simp only [↓rA,rB,Nat.reduceEqDiff,reduceCtorEq,Tryz.results148,h]
  exact ret_done (fb (by simp [rngB,h]))
 ·simp only [↓rA,rB,Nat.reduceEqDiff,reduceCtorEq,Tryz.results148,h]
  exact ret_done (fb (by simp [rngB,h]))
def fldB (v:Val):Bool :=
 if v.kind=0 then decide (v.n=0) && decide (v.s=es0) else if v.kind=1 then (decide (v.n=0) || decide (v.n=1)) && decide (v.s=es0)
 else if v.kind=2∨v.kind=3 then decide (v.s=es0) else if v.kind=4∨v.kind=5 then decide (v.n=0) else false
def tbO85:=(aI (aI Ty.t3 Ty.t4) (aI Ty.t85 Ty.t9))
theorem fields_ok (v:Val):OkP Tryz.prog 147 [.agg (cVal v)] (vbool (fldB v)):=by
 have fb:∀ {a b:Bool},a=b→V.lit (.bool a)=vbool b:=fun h=>by rw [h]
 obtain⟨k,n,s⟩:=v
 refine Ok.of_ex Ty.mixed Tryz.func147 rfl (by simp [Tryz.ntmps147]) (by kernel_rfl) fun F w0 I0=>?_
 simp only [↓rA,rB]
 refine fun b1 h1=>?_;replace h1:=newb h1;try simp only [Nb] at h1
 by_cases k0:k=0
 ·subst k0
  by_cases e:n=0
  ·simp only [↓rA,rB,Nat.reduceAdd,Nat.reduceEqDiff,tbO85,Tryz.results147,e]
   exact ret_done (fb (by simp [fldB]))
  ·simp only [↓rA,rB,Nat.reduceAdd,Nat.reduceEqDiff,tbO85,Tryz.results147,e]
   exact ret_done (fb (by simp [fldB,e]))
 by_cases k1:k=1
 ·subst k1
  by_cases e:n=0
  ·simp only [↓rA,rB,Int.reduceEq,Nat.reduceAdd,Nat.reduceEqDiff,tbO85,Tryz.results147,e]
   exact ret_done (fb (by simp [fldB]))
  ·by_cases e1:n=1
   ·simp only [↓rA,rB,Int.reduceEq,Nat.reduceAdd,Nat.reduceEqDiff,tbO85,Tryz.results147,e1]
    exact ret_done (fb (by simp [fldB]))
   ·simp only [↓rA,rB,Int.reduceEq,Nat.reduceAdd,Nat.reduceEqDiff,tbO85,Tryz.results147,e,e1]
    exact ret_done (fb (by simp [fldB,e,e1]))
 by_cases k2:k=2
 ·subst k2
  simp only [↓rA,rB,Int.reduceEq,Nat.reduceAdd,Nat.reduceEqDiff,tbO85,Tryz.results147]
  exact ret_done (fb (by simp [fldB]))
 by_cases k3:k=3
 ·subst k3
  simp only [↓rA,rB,Int.reduceEq,Nat.reduceAdd,Nat.reduceEqDiff,tbO85,Tryz.results147]
  exact ret_done (fb (by simp [fldB]))
 by_cases k4:k=4
 ·subst k4
  simp only [↓rA,rB,Int.reduceEq,Nat.reduceAdd,Nat.reduceEqDiff,tbO85,Tryz.results147]
  exact ret_done (fb (by simp [fldB]))
 by_cases k5:k=5
 ·subst k5
  simp only [↓rA,rB,Int.reduceEq,Nat.reduceAdd,Nat.reduceEqDiff,tbO85,Tryz.results147]
  exact ret_done (fb (by simp [fldB]))
 simp only [↓rA,rB,Nat.reduceAdd,Nat.reduceEqDiff,tbO85,Tryz.results147,k0,k1,k2,k3,k4,k5]
 exact ret_done (fb (by simp [fldB,k0,k1,k2,k3,k4,k5]))
theorem valC_f {v:Val} (h:fldB v=false):valC v=1:=by
 unfold fldB at h
 unfold valC
 by_cases k0:v.kind=0
 ·rw [if_pos k0] at h
  rw [if_neg (by omega),if_neg (by omega)]
  by_cases hs:v.s=es0
  ·have hn:¬ v.n=0:=by intro e;rw [decide_eq_true e,decide_eq_true hs] at h;cases h
   rw [if_neg (fun h=>h.2.2 hs),if_pos ⟨by omega,by omega,hn,.inl (by omega)⟩]
  ·rw [if_pos ⟨by omega,by omega,hs⟩]
 by_cases k1:v.kind=1
 ·rw [if_neg k0,if_pos k1] at h
  rw [if_neg (by omega),if_neg (by omega)]
  by_cases hs:v.s=es0
  ·rw [decide_eq_true hs,Bool.and_true,Bool.or_eq_false_iff] at h
   rw [if_neg (fun h=>h.2.2 hs),if_pos ⟨by omega,by omega,of_decide_eq_false h.1,.inr (of_decide_eq_false h.2)⟩]
  ·rw [if_pos ⟨by omega,by omega,hs⟩]
 by_cases k2:v.kind=2∨v.kind=3
 ·rw [if_neg k0,if_neg k1,if_pos k2] at h
  rw [if_neg (by omega),if_neg (by omega),if_pos ⟨by omega,by omega,of_decide_eq_false h⟩]
 by_cases k4:v.kind=4∨v.kind=5
 ·rw [if_neg k0,if_neg k1,if_neg k2,if_pos k4] at h
  rw [if_neg (by omega),if_neg (by omega),if_neg (by omega),if_pos ⟨by omega,by omega,of_decide_eq_false h,.inl (by omega)⟩]
 by_cases hk:v.kind < 0
 ·rw [if_pos hk]
 ·rw [if_neg hk,if_pos (by omega)]
theorem valC_t {v:Val} (h:fldB v=true):valC v=if rngB v.n=false then 2 else if v.kind=4 then (if 64 < v.s.size then 2 else if v.s.data.toList.all (okCh 32)=true then 0 else 3)
  else if v.kind=5 then (if 32 < v.s.size then 2 else if v.s=es0 then 3 else if v.s.data.toList.all (okCh 33)=true then 0 else 3) else 0:=by
 have hr:rngB v.n=false↔(v.n < -1152921504606846976∨1152921504606846976 < v.n):=by
  unfold rngB
  rw [Bool.and_eq_false_iff,decide_eq_false_iff_not,decide_eq_false_iff_not]
  omega
 have hk:v.kind=0∨v.kind=1∨v.kind=2∨v.kind=3∨v.kind=4∨v.kind=5:=by
  unfold fldB at h
  by_cases a:v.kind=0
  ·exact .inl a
  by_cases b:v.kind=1
  ·exact .inr (.inl b)
  rw [if_neg a,if_neg b] at h
  by_cases c:v.kind=2∨v.kind=3
  ·omega
  by_cases d:v.kind=4∨v.kind=5
  ·omega
  rw [if_neg c,if_neg d] at h
  cases h
 have h3:¬ (¬ v.kind=4∧¬ v.kind=5∧¬ v.s=es0):=by
  rintro⟨a,b,c⟩
  unfold fldB at h
  rw [decide_eq_false c] at h
  rcases hk with e | e | e | e | e | e <;> simp [e] at h a b
 have h4:¬ (¬ v.kind=2∧¬ v.kind=3∧¬ v.n=0∧(¬ v.kind=1∨¬ v.n=1)):=by
  rintro⟨a,b,c,d⟩
  unfold fldB at h
  rw [decide_eq_false c] at h
  rcases hk with e | e | e | e | e | e <;> simp [e] at h a b d
  exact d h.1
 unfold valC
 rw [if_neg (by omega),if_neg (by omega),if_neg h3,if_neg h4]
 by_cases r:rngB v.n=false
 ·rw [if_pos r]
  rcases hr.1 r with r | r
  ·rw [if_pos r]
  ·split
   ·rfl
   ·first | rfl | rw [if_pos r]
 ·have r':=fun h=>r (hr.2 h)
  rw [if_neg r,if_neg (fun h=>r' (.inl h)),if_neg (fun h=>r' (.inr h))]
  by_cases k4:v.kind=4
  ·rw [if_neg (fun h=>h.1 k4),if_neg (by omega),if_pos k4]
  ·by_cases k5:v.kind=5
   ·rw [if_neg (fun h=>h.2 k5),if_pos k5,if_neg k4,if_pos k5]
   ·rw [if_pos ⟨k4,k5⟩,if_neg k4,if_neg k5]
def tbO86:=(aI (aI (aI Ty.c147 Ty.c148) (aI Ty.c149 Ty.c91)) (aI (aI Ty.t26 Ty.t3) (aI Ty.t4 (aI Ty.t85 Ty.t9))))
theorem valR_ok (v:Val):OkP Tryz.prog 125 [.agg (cVal v)] (vint (valC v)):=by
 have fi:∀ {a b:Int},a=b→V.lit (.int .i64 a)=vint b:=fun h=>by rw [h]
 have hf:=fields_ok v
 obtain⟨k,n,s⟩:=v
 refine Ok.of_ex Ty.mixed Tryz.func125 rfl (by simp [Tryz.ntmps125]) (by kernel_rfl) fun F w0 I0=>?_
 simp only [↓rA,rB]
 refine fun b1 h1=>?_;replace h1:=newb h1;try simp only [Nb] at h1
 simp only [↓rA,rB,Nat.reduceAdd,Nat.reduceEqDiff,tbO86]
 refine OkF_of _ hf ?_
 cases e:fldB ⟨k,n,s⟩
 ·simp only [↓rA,rB,Tryz.results125]
  exact ret_done (fi (valC_f e).symm)
 rw [valC_t e]
 simp only [↓rA,rB,Nat.reduceAdd,Nat.reduceEqDiff,tbO86]
 refine OkF_of _ (inRange_ok n) ?_
 cases r:rngB n
 ·simp only [↓rA,rB,Nat.reduceEqDiff,Tryz.results125]
  exact ret_done rfl
 by_cases k4:k=4
 ·subst k4
  by_cases z:64 < s.size
  ·have z':(64:Int) < s.size:=by omega
   simp only [↓rA,rB,Int.reduceEq,Nat.reduceAdd,Nat.reduceEqDiff,reduceCtorEq,tbO86,Tryz.results125,z']
   exact ret_done (fi (by simp [z]))
  ·have z':¬ (64:Int) < s.size:=by omega
   simp only [↓rA,rB,Int.reduceEq,Nat.reduceAdd,Nat.reduceEqDiff,tbO86,z']
   refine OkF_of _ (text_ok s) ?_
   have hz:decide (s.size≤64)=true:=decide_eq_true (by omega)
   cases q:s.data.toList.all (okCh 32)
   ·simp only [↓rA,rB,Int.reduceEq,Nat.reduceEqDiff,reduceCtorEq,Tryz.results125,hz]
    exact ret_done (fi (by simp [z]))
   ·simp only [↓rA,rB,Int.reduceEq,Nat.reduceAdd,Nat.reduceEqDiff,reduceCtorEq,tbO86,Tryz.results125,hz]
    exact ret_done (fi (by simp [z]))
 by_cases k5:k=5
 ·subst k5
  by_cases z:32 < s.size
  ·have z':(32:Int) < s.size:=by omega
   simp only [↓rA,rB,Int.reduceEq,Nat.reduceAdd,Nat.reduceEqDiff,reduceCtorEq,tbO86,Tryz.results125,z']
   exact ret_done (fi (by simp [z]))
  ·have z':¬ (32:Int) < s.size:=by omega
   simp only [↓rA,rB,Int.reduceEq,Nat.reduceAdd,Nat.reduceEqDiff,tbO86,z']
   refine OkF_of _ (key_ok s) ?_
   have hz:decide (s.size≤32)=true:=decide_eq_true (by omega)
   by_cases hs:s=es0
   ·simp only [↓rA,rB,Int.reduceEq,Nat.reduceEqDiff,reduceCtorEq,Tryz.results125,hs]
    exact ret_done (fi (by simp [];decide))
   cases q:s.data.toList.all (okCh 33)
   ·simp only [↓rA,rB,Int.reduceEq,Nat.reduceEqDiff,reduceCtorEq,Tryz.results125,hz,hs]
    exact ret_done (fi (by simp [z]))
   ·simp only [↓rA,rB,Int.reduceEq,Nat.reduceEqDiff,reduceCtorEq,Tryz.results125,hz,hs]
    exact ret_done (fi (by simp [z]))
 simp only [↓rA,rB,Nat.reduceAdd,Nat.reduceEqDiff,reduceCtorEq,tbO86,Tryz.results125,k4,k5]
 exact ret_done (fi (by simp []))
end Go.Proofs.YtopfanlkbepemaaGreat
set_option linter.unusedSimpArgs false
set_option maxRecDepth 100000
set_option linter.defProp false
namespace Go.Proofs.YtopfanlkbepemaaGreat
open Go.VL Go.Ar Go.Lo Go.Proofs.YtopfanlkbepemaaGreat
theorem far_ok (n:Int):OkP Tryz.prog 163 [vint n] (vbool (outB n 8)):=by
 have fb:∀ {a b:Bool},a=b→V.lit (.bool a)=vbool b:=fun h=>by rw [h]
 refine Ok.of_ex Ty.mixed Tryz.func163 rfl (by simp [Tryz.ntmps163]) (by kernel_rfl) fun F w0 I0=>?_
 by_cases h:(8:Int) < n
 ·simp only [↓rA,rB,Nat.reduceEqDiff,reduceCtorEq,Tryz.results163,h]
  exact ret_done (fb (by simp [outB,h]))
 ·simp only [↓rA,rB,Nat.reduceEqDiff,reduceCtorEq,Tryz.results163,h]
  exact ret_done (fb (by simp [outB,h]))
def tbO91:=(aI (aI Ty.t3 Ty.t4) (aI Ty.t5 Ty.t9))
theorem word07_ok (s:Str):OkP Tryz.prog 162 [vstr s] (vbool (wordB s)):=by
 have fb:∀ {a b:Bool},a=b→V.lit (.bool a)=vbool b:=fun h=>by rw [h]
 refine Ok.of_ex Ty.mixed Tryz.func162 rfl (by simp [Tryz.ntmps162]) (by kernel_rfl) fun F w0 I0=>?_
 by_cases e0:s.size=0
 ·have e0':(s.size:Int) < 1:=by omega
  simp only [↓rA,rB,Nat.reduceEqDiff,reduceCtorEq,tbO91,Tryz.results162,e0']
  exact ret_done (fb (by rw [wordB,if_pos e0]))
 have e0':¬ (s.size:Int) < 1:=by omega
 have e0p:0 < s.size:=by omega
 have e0i:(0:Int) < s.size:=by omega
 by_cases e1:24 < s.size
 ·have e1':(24:Int) < s.size:=by omega
  simp only [↓rA,rB,Nat.reduceEqDiff,reduceCtorEq,tbO91,Tryz.results162,e0',e1']
  exact ret_done (fb (by rw [wordB,if_neg e0,if_pos e1]))
 have e1':¬ (24:Int) < s.size:=by omega
 by_cases e2:((s.data.toList.getD 0 0).toNat:Int) < 97
 ·simp only [↓rA,rB,Int.reduceToNat,Nat.reduceEqDiff,reduceCtorEq,tbO91,Tryz.results162,e0',e1',e0i,e2]
  exact ret_done (fb (by rw [wordB,if_neg e0,if_neg e1,if_pos e2]))
 by_cases e3:(122:Int) < (s.data.toList.getD 0 0).toNat
 ·simp only [↓rA,rB,Int.reduceToNat,Nat.reduceEqDiff,reduceCtorEq,tbO91,Tryz.results162,e0',e1',e0i,e2,e3]
  exact ret_done (fb (by rw [wordB,if_neg e0,if_neg e1,if_neg e2,if_pos e3]))
 simp only [↓rA,rB,Int.reduceToNat,Nat.reduceEqDiff,reduceCtorEq,tbO91,Tryz.results162,e0',e1',e0i,e2,e3]
 have hw:wordB s=s.data.toList.all wordC:=by rw [wordB,if_neg e0,if_neg e1,if_neg e2,if_neg e3]
 refine EX_for Ty.mixed (by kernel_rfl) s.size (fun i S=>(s.data.toList.take i).all wordC=true∧S.boxes=[]∧S.rows=[]∧S.σ 0=vstr s∧S.σ 3=vint i) ⟨0,?_⟩ (fun i S hi ⟨hf,gb,gr,g0,g3⟩=>?_) (fun S ⟨hf,gb,gr,g0,g3⟩=>?_)
 ·simp only [rB,reduceCtorEq]
  try exact rfl
 ·have hl:i < s.data.toList.length:=by simpa using hi
  have ht:=all_take (p:=wordC) hl
  have hb:=all_fail (p:=wordC) hl
  rw [← getD_str s i hi] at ht hb
  generalize hcd:s.data.toList.getD i 0=c at ht hb
  have hwi:=wrap_succ (i:=i) (N:=s.size) hi (by omega)
  by_cases p1:(97:Int)≤c.toNat <;> by_cases p2:(c.toNat:Int)≤122 <;> by_cases p3:(48:Int)≤c.toNat <;> by_cases p4:(c.toNat:Int)≤57 <;> by_cases p5:(c.toNat:Int)=95 <;>
  first
  | (exact absurd p5 (by omega))
  | (
    have hc:wordC c=true:=by simp [wordC];omega
    simp only [↓rA,rB,Int.reduceLE,Nat.reduceEqDiff,reduceCtorEq,tbO91,gb,gr,g0,g3,Int.ofNat_lt,hi,hcd,p1,p2,p3,p4,p5,hwi]
    exact⟨0,by rw [ht,hf,hc];rfl⟩)
  | (
    have hc:wordC c=false:=by simp [wordC];omega
    simp only [↓rA,rB,Nat.reduceEqDiff,reduceCtorEq,tbO91,gb,gr,g0,g3,Int.ofNat_lt,hi,hcd,p1,p2,p3,p4,p5]
    exact ret_done (fb (by rw [hw,hb hc])))
 ·simp only [↓rA,rB,Nat.reduceEqDiff,reduceCtorEq,tbO91,gb,gr,g0,g3,Int.ofNat_lt,Nat.lt_irrefl]
  rw [List.take_of_length_le (by simp)] at hf
  exact ret_done (fb (by rw [hw,hf]))
def tbO92:=(aI (aI (aI Ty.c162 Ty.c163) (aI Ty.t231 Ty.t26)) (aI (aI Ty.t3 Ty.t4) (aI Ty.t81 Ty.t9)))
theorem unit07_ok (u:List Fac):OkP Tryz.prog 151 [vFacs u] (vint (unitC u)):=by
 have fi:∀ {a b:Int},a=b→V.lit (.int .i64 a)=vint b:=fun h=>by rw [h]
 refine Ok.of_ex Ty.mixed Tryz.func151 rfl (by simp [Tryz.ntmps151]) (by kernel_rfl) fun F w0 I0=>?_
 by_cases e0:4 < u.length
 ·have e0':(4:Int) < u.length:=by omega
  simp only [↓rA,rB,reduceCtorEq,tbO92,Tryz.results151,List.length_map,e0']
  exact ret_done (fi (by rw [unitC,if_pos e0]))
 have e0':¬ (4:Int) < u.length:=by omega
 have hu:unitC u=unitL none u:=by rw [unitC,if_neg e0]
 simp only [↓rA,rB,reduceCtorEq,tbO92,Tryz.results151,List.length_map,e0']
 refine EX_for Ty.mixed (by kernel_rfl) u.length (fun i S=>unitL (prevN u i) (u.drop i)=unitC u∧S.boxes=[]∧S.rows=[]∧S.σ 0=vFacs u∧S.σ 3=vint i) ⟨0,?_⟩ (fun i S hi ⟨hf,gb,gr,g0,g3⟩=>?_) (fun S ⟨hf,gb,gr,g0,g3⟩=>?_)
 ·simp only [rB,reduceCtorEq]
  first | exact hu.symm | exact⟨hu.symm,rfl⟩
 ·have hwi:=wrap_succ (i:=i) (N:=u.length) hi (by omega)
  rw [List.drop_eq_getElem_cons hi,unitL] at hf
  have hn:prevN u (i+1)=some u[i].name:=by simp [prevN,hi]
  simp only [↓rA,rB,Nat.reduceEqDiff,reduceCtorEq,tbO92,gb,g0,g3,Int.ofNat_lt,hi,List.length_map,getD_map _ _ _ hi]
  refine OkF_of _ (word07_ok _) ?_
  cases e1:wordB u[i].name
  ·rw [if_pos e1] at hf
   simp only [↓rA,rB,gr]
   exact ret_done (fi hf)
  rw [if_neg (by rw [e1];decide)] at hf
  by_cases e2:u[i].exp=0
  ·rw [if_pos e2] at hf
   simp only [↓rA,rB,Nat.reduceEqDiff,reduceCtorEq,tbO92,gr,g0,g3,e2,Int.ofNat_lt,hi,List.length_map,getD_map _ _ _ hi]
   exact ret_done (fi hf)
  rw [if_neg e2] at hf
  simp only [↓rA,rB,Nat.reduceEqDiff,reduceCtorEq,tbO92,gr,g0,g3,e2,Int.ofNat_lt,hi,List.length_map,getD_map _ _ _ hi]
  refine OkF_of _ (far_ok _) ?_
  cases e3:outB u[i].exp 8
  ·rw [if_neg (by rw [e3];decide)] at hf
   cases i with
   | zero =>
    simp only [↓rA,rB,Int.reduceLT,Int.reduceToNat,Nat.reduceAdd,Nat.reduceEqDiff,reduceCtorEq,gr,g0,g3]
    exact⟨0,by rw [hn];simpa [prevN] using hf,rfl⟩
   | succ j =>
    have hj:j < u.length:=by omega
    have hp:prevN u (j+1)=some u[j].name:=by simp [prevN,hj]
    rw [hp] at hf
    have h0:(0:Int) < ((j+1:Nat):Int):=by omega
    have hs:((j+1:Nat):Int) - 1=(j:Int):=by omega
    have hws:=wrap_id (n:=(j:Int)) (by omega) (by omega)
    cases e4:leS u[j+1].name u[j].name
    ·have e4':=e4
     unfold leS at e4'
     rw [if_neg (by simp only [Option.any_some,e4];decide)] at hf
     simp only [↓rA,rB,Nat.reduceEqDiff,reduceCtorEq,tbO92,gr,g0,g3,hwi,h0,hs,hws,List.length_map,Int.ofNat_lt,hi,hj,getD_map _ _ _ hi,getD_map _ _ _ hj,e4']
     exact⟨0,by rw [hn];exact hf⟩
    ·have e4':=e4
     unfold leS at e4'
     rw [if_pos (by simp only [Option.any_some,e4])] at hf
     simp only [↓rA,rB,Nat.reduceEqDiff,reduceCtorEq,tbO92,gr,g0,g3,h0,hs,hws,List.length_map,Int.ofNat_lt,hi,hj,getD_map _ _ _ hi,getD_map _ _ _ hj,e4']
     exact ret_done (fi hf)
  ·rw [if_pos e3] at hf
   simp only [↓rA,rB,Nat.reduceEqDiff,gr]
   exact ret_done (fi hf)
 ·simp only [↓rA,rB,Nat.reduceEqDiff,reduceCtorEq,tbO92,gb,gr,g0,g3,Int.ofNat_lt,Nat.lt_irrefl,List.length_map]
  rw [List.drop_eq_nil_of_le (Nat.le_refl _),unitL] at hf
  exact ret_done (fi hf)
def tbO93:=(aI (aI Ty.t231 (aI Ty.t3 Ty.t4)) (aI Ty.t81 (aI Ty.t83 Ty.t9)))
theorem number_ok (k:Int) (u:List Fac) (of:Str):OkP Tryz.prog 150 [.agg [vint k,vFacs u,vstr of]] (vbool (decide (k=2∨k=3))):=by
 refine Ok.of_ex Ty.mixed Tryz.func150 rfl (by simp [Tryz.ntmps150]) (by kernel_rfl) fun F w0 I0=>?_
 simp only [↓rA,rB]
 refine fun b1 h1=>?_;replace h1:=newb h1;try simp only [Nb] at h1
 by_cases e1:k=2
 ·simp only [↓rA,rB,Int.reduceEq,Nat.reduceAdd,Nat.reduceEqDiff,tbO93,Tryz.results150,e1]
  exact ret_done (by simp [])
 ·by_cases e2:k=3
  ·simp only [↓rA,rB,Int.reduceEq,Nat.reduceAdd,Nat.reduceEqDiff,tbO93,Tryz.results150,e2]
   exact ret_done (by simp [])
  ·simp only [↓rA,rB,Nat.reduceAdd,Nat.reduceEqDiff,tbO93,Tryz.results150,e1,e2]
   exact ret_done (by simp [])
def tbO94:=(aI (aI (aI Ty.c150 Ty.c151) (aI Ty.c66 (aI Ty.t231 Ty.t26))) (aI (aI Ty.t3 Ty.t4) (aI Ty.t81 (aI Ty.t83 Ty.t9))))
theorem typeR_ok (k:Int) (u:List Fac) (of:Str):OkP Tryz.prog 134 [vTy k u of] (vint (typeC k u of)):=by
 have fi:∀ {a b:Int},a=b→V.lit (.int .i64 a)=vint b:=fun h=>by rw [h]
 refine Ok.of_ex Ty.mixed Tryz.func134 rfl (by simp [Tryz.ntmps134]) (by kernel_rfl) fun F w0 I0=>?_
 simp only [↓rA,rB]
 refine fun b1 h1=>?_;replace h1:=newb h1;try simp only [Nb] at h1
 by_cases e0:k < 1
 ·simp only [↓rA,rB,Nat.reduceAdd,Nat.reduceEqDiff,tbO94,Tryz.results134,e0]
  exact ret_done (fi (by simp [typeC,e0]))
 by_cases e1:5 < k
 ·simp only [↓rA,rB,Nat.reduceAdd,Nat.reduceEqDiff,tbO94,Tryz.results134,e0,e1]
  exact ret_done (fi (by simp [typeC,e0,e1]))
 have go:∀ x:Int,typeC k u of=x→((k=5∧nameB of=true∧¬ 0 < u.length)∨(¬ k=5∧of=es0∧(k=2∨k=3))∨(¬ k=5∧of=es0∧¬ (k=2∨k=3)∧¬ 0 < u.length))→x=if ¬ unitC u=0 then 70 else if allN u=false then 70 else 0:=by
  rintro x rfl h
  rw [typeC,if_neg e0,if_neg e1]
  rcases h with⟨rfl,en,e2⟩ | ⟨e5,eo,en⟩ | ⟨e5,eo,en,e2⟩
  ·rw [if_neg (fun h=>e2 h.1),if_pos rfl,if_neg (fun e=>by rw [nameB,if_pos e] at en;cases en),if_neg (by rw [en];decide)]
  ·rw [if_neg (fun h=>h.2 en),if_neg e5,if_neg (fun h=>h eo)]
  ·rw [if_neg (fun h=>e2 h.1),if_neg e5,if_neg (fun h=>h eo)]
 by_cases hc:(k=5∧nameB of=true∧¬ 0 < u.length)∨(¬ k=5∧of=es0∧(k=2∨k=3))∨(¬ k=5∧of=es0∧¬ (k=2∨k=3)∧¬ 0 < u.length)
 ·have ht:=go _ rfl hc
  rw [ht]
  clear go ht
  have h0:(0 < u.length)=((0:Int) < u.length):=by simp
  rw [h0] at hc
  rcases hc with c | c | c <;>
  (first
   | (
     simp only [↓rA,rB,Int.reduceLT,Nat.reduceAdd,Nat.reduceEqDiff,tbO94,e0,e1,c]
     refine OkF_of _ (nameR_ok of) ?_
     simp only [↓rA,rB,Nat.reduceAdd,Nat.reduceEqDiff,tbO94,c]
     refine OkF_of _ (number_ok _ _ _) ?_)
   | (
     simp only [↓rA,rB,Nat.reduceAdd,Nat.reduceEqDiff,tbO94,e0,e1,c]
     refine OkF_of _ (number_ok _ _ _) ?_)) <;>
  (
    simp only [↓rA,rB,Int.reduceEq,Nat.reduceAdd,Nat.reduceEqDiff,tbO94,c,List.length_map]
    refine OkF_of _ (unit07_ok u) ?_
    by_cases eu:unitC u=0
    case neg =>
     simp only [↓rA,rB,Int.reduceEq,Tryz.results134,eu]
     exact ret_done (fi (by first | rfl | rw [if_pos eu]))
    rw [if_neg (fun h=>h eu)]
    have hl4:=unitC_len eu
    simp only [↓rA,rB,Int.reduceEq,Tryz.results134,eu]
    refine EX_for Ty.mixed (by kernel_rfl) u.length (fun i S=>(u.take i).all (fun f=>nameB f.name)=true∧(∃ a b,S.boxes=[(b1,.c [a,vFacs u,b])])∧S.rows=[]∧S.σ 1=ptr b1∧S.σ 3=vint i) ⟨0,?_⟩ (fun i S hi ⟨hf,⟨a,b,gb⟩,gr,g1,g3⟩=>?_) (fun S ⟨hf,⟨a,b,gb⟩,gr,g1,g3⟩=>?_)
    ·simp only [rB,Nat.reduceEqDiff]
     first | exact⟨⟨_,_,rfl⟩,rfl⟩ | exact⟨_,_,rfl⟩ | exact⟨rfl,⟨_,_,rfl⟩,rfl⟩
    ·have hwi:=wrap_succ (i:=i) (N:=u.length) hi (by omega)
     have ht:=all_take (p:=fun f:Fac=>nameB f.name) hi
     have hb:=all_fail (p:=fun f:Fac=>nameB f.name) hi
     simp only [↓rA,rB,Nat.reduceAdd,Nat.reduceEqDiff,tbO94,gb,g1,g3,Int.ofNat_lt,hi,List.length_map,getD_map _ _ _ hi]
     refine OkF_of _ (nameR_ok _) ?_
     cases e:nameB u[i].name
     ·simp only [↓rA,rB,gr]
      exact ret_done (fi (by rw [allN,hb e];rfl))
     ·simp only [↓rA,rB,Nat.reduceEqDiff,gr,g1,g3,hwi]
      exact⟨0,by rw [ht,hf,e];rfl,a,b,rfl⟩
    ·simp only [↓rA,rB,Nat.reduceAdd,Nat.reduceEqDiff,tbO94,gb,gr,g1,g3,Int.ofNat_lt,Nat.lt_irrefl,List.length_map]
     rw [List.take_of_length_le (Nat.le_refl _)] at hf
     exact ret_done (fi (by rw [allN,hf];rfl)))
 ·have h0:(0 < u.length)=((0:Int) < u.length):=by simp
  have ht:typeC k u of=3:=by
   rw [typeC,if_neg e0,if_neg e1]
   split
   ·rfl
   ·rename_i h2
    split
    ·rename_i e5
     split
     ·rfl
     ·split
      ·rfl
      ·rename_i eo en
       exact absurd (.inl ⟨e5,by simpa using en,fun h=>h2 ⟨h,by omega⟩⟩) hc
    ·rename_i e5
     split
     ·rfl
     ·rename_i eo
      by_cases en:k=2∨k=3
      ·exact absurd (.inr (.inl ⟨e5,Classical.not_not.1 eo,en⟩)) hc
      ·exact absurd (.inr (.inr ⟨e5,Classical.not_not.1 eo,en,fun h=>h2 ⟨h,en⟩⟩)) hc
  rw [ht]
  rw [h0] at hc
  by_cases e5:k=5
  ·have nn:¬ (k=2∨k=3):=by omega
   simp only [↓rA,rB,Int.reduceLT,Nat.reduceAdd,Nat.reduceEqDiff,tbO94,e5]
   refine OkF_of _ (nameR_ok of) ?_
   cases en:nameB of
   ·simp only [↓rA,rB,Nat.reduceEqDiff,Tryz.results134,e5]
    exact ret_done rfl
   ·have e2:(0:Int) < u.length:=Classical.not_not.1 fun h=>hc (.inl ⟨e5,en,h⟩)
    subst e5
    simp only [↓rA,rB,Nat.reduceAdd,Nat.reduceEqDiff,tbO94]
    refine OkF_of _ (number_ok _ _ _) ?_
    simp only [↓rA,rB,Int.reduceEq,Nat.reduceAdd,Nat.reduceEqDiff,tbO94,Tryz.results134,e2,List.length_map]
    exact ret_done rfl
  ·by_cases eo:of=es0
   ·have nn:¬ (k=2∨k=3):=fun h=>hc (.inr (.inl ⟨e5,eo,h⟩))
    have e2:(0:Int) < u.length:=Classical.not_not.1 fun h=>hc (.inr (.inr ⟨e5,eo,nn,h⟩))
    simp only [↓rA,rB,Nat.reduceAdd,Nat.reduceEqDiff,tbO94,e0,e1,e5,eo]
    refine OkF_of _ (number_ok _ _ _) ?_
    simp only [↓rA,rB,Nat.reduceAdd,Nat.reduceEqDiff,tbO94,Tryz.results134,e2,nn,List.length_map]
    exact ret_done rfl
   ·simp only [↓rA,rB,Nat.reduceAdd,Nat.reduceEqDiff,tbO94,Tryz.results134,e0,e1,e5,eo]
    exact ret_done rfl
end Go.Proofs.YtopfanlkbepemaaGreat
set_option linter.unusedSimpArgs false
set_option maxRecDepth 100000
set_option linter.defProp false
namespace Go.Proofs.YtopfanlkbepemaaGreat
open Go.VL Go.Ar Go.Lo Go.Proofs.YtopfanlkbepemaaGreat
def tbCB0:=(aI (aI Ty.t231 Ty.t3) (aI Ty.t4 (aI Ty.t81 Ty.t9)))
theorem same07_ok (u v:List Fac) (hu:u.length≤big):OkP Tryz.prog 156 [vFacs u,vFacs v] (vbool (decide (u=v))):=by
 have fb:∀ {a b:Bool},a=b→V.lit (.bool a)=vbool b:=fun h=>by rw [h]
 unfold big at hu
 refine Ok.of_ex Ty.mixed Tryz.func156 rfl (by simp [Tryz.ntmps156]) (by kernel_rfl) fun F w0 I0=>?_
 by_cases hl:¬ u.length=v.length
 ·have hl':¬ (u.length:Int)=v.length:=by omega
  simp only [↓rA,rB,Nat.reduceEqDiff,reduceCtorEq,tbCB0,Tryz.results156,List.length_map,hl']
  exact ret_done (fb (decide_eq_false fun e=>hl (by rw [e])).symm)
 have hl':(u.length:Int)=v.length:=by omega
 have hl:u.length=v.length:=by omega
 simp only [↓rA,rB,Nat.reduceEqDiff,reduceCtorEq,tbCB0,Tryz.results156,List.length_map,hl']
 refine EX_for Ty.mixed (by kernel_rfl) v.length (fun i S=>u.take i=v.take i∧S.boxes=[]∧S.rows=[]∧S.σ 0=vFacs u∧S.σ 1=vFacs v∧S.σ 5=vint i) ⟨0,?_⟩ (fun i S hi ⟨hf,gb,gr,g0,g1,g5⟩=>?_) (fun S ⟨hf,gb,gr,g0,g1,g5⟩=>?_)
 ·simp only [rB,Nat.reduceEqDiff,reduceCtorEq]
  try exact rfl
 ·have hwi:=wrap_succ (i:=i) (N:=v.length) hi (by omega)
  have hiu:i < u.length:=by omega
  simp only [↓rA,rB,Nat.reduceAdd,Nat.reduceEqDiff,reduceCtorEq,tbCB0,g0,g1,g5,hl',Int.ofNat_lt,hi,List.length_map,getD_map _ _ _ hi,getD_map _ _ _ hiu]
  refine onCond_splitb (fun hc=>?_) (fun hc=>?_)
  ·simp only [↓rA,rB,gb,gr]
   refine ret_done (fb (decide_eq_false fun e=>?_).symm)
   subst e
   simp at hc
  ·simp only [↓rA,rB,Nat.reduceEqDiff,reduceCtorEq,gb,gr,g0,g1,g5,hwi]
   refine⟨0,?_⟩
   rw [List.take_succ_eq_append_getElem hi,List.take_succ_eq_append_getElem hiu,hf]
   have:u[i]=v[i]:=by
    rw [fac_ext]
    simpa using hc
   rw [this]
 ·simp only [↓rA,rB,Nat.reduceEqDiff,reduceCtorEq,tbCB0,gb,gr,g0,g5,hl',List.length_map,Int.ofNat_lt,Nat.lt_irrefl]
  rw [List.take_of_length_le (Nat.le_refl _),List.take_of_length_le (by omega)] at hf
  exact ret_done (fb (decide_eq_true hf).symm)
def tbCB1:=(aI (aI (aI Ty.c156 Ty.t231) (aI Ty.t3 (aI Ty.t4 Ty.t81))) (aI (aI Ty.t85 Ty.t87) (aI Ty.t88 (aI Ty.t9 Ty.t90))))
theorem flat_ok (a b:Hd) (x y:List E) (hu:a.unit.length≤big):OkP Tryz.prog 172 [.agg (cH a (vEs x)),.agg (cH b (vEs y))] (vbool (decide (a=b))):=by
 have fb:∀ {a b:Bool},a=b→V.lit (.bool a)=vbool b:=fun h=>by rw [h]
 refine Ok.of_ex Ty.mixed Tryz.func172 rfl (by simp [Tryz.ntmps172]) (by kernel_rfl) fun F w0 I0=>?_
 simp only [↓rA,rB]
 refine fun b1 h1=>?_;replace h1:=newb h1;try simp only [Nb] at h1
 simp only [↓rA,rB,Nat.reduceEqDiff]
 refine fun b2 h2=>?_;replace h2:=newb h2;try simp only [Nb] at h2
 by_cases e0:a.kind=b.kind
 case neg =>
  simp only [↓rA,rB,Nat.reduceAdd,Nat.reduceEqDiff,tbCB1,Tryz.results172,h2,e0]
  exact ret_done (fb (decide_eq_false fun e=>e0 (by rw [e])).symm)
 by_cases e1:a.op=b.op
 case neg =>
  simp only [↓rA,rB,Nat.reduceAdd,Nat.reduceEqDiff,tbCB1,Tryz.results172,h2,e0,e1]
  exact ret_done (fb (decide_eq_false fun e=>e1 (by rw [e])).symm)
 by_cases e2:a.name=b.name
 case neg =>
  simp only [↓rA,rB,Nat.reduceAdd,Nat.reduceEqDiff,tbCB1,Tryz.results172,h2,e0,e1,e2]
  exact ret_done (fb (decide_eq_false fun e=>e2 (by rw [e])).symm)
 by_cases e3:a.table=b.table
 case neg =>
  simp only [↓rA,rB,Nat.reduceAdd,Nat.reduceEqDiff,tbCB1,Tryz.results172,h2,e0,e1,e2,e3]
  exact ret_done (fb (decide_eq_false fun e=>e3 (by rw [e])).symm)
 have v4:=valEq a.val b.val
 have v7:=winEq a b
 by_cases e4:a.val=b.val
 case neg =>
  simp only [↓rA,rB,Nat.reduceAdd,Nat.reduceEqDiff,Nat.reduceLeDiff,tbCB1,Tryz.results172,h2,e0,e1,e2,e3,e4,v4]
  exact ret_done (fb (decide_eq_false fun e=>e4 (by rw [e])).symm)
 simp only [↓rA,rB,Nat.reduceAdd,Nat.reduceEqDiff,Nat.reduceLeDiff,tbCB1,h2,e0,e1,e2,e3,e4]
 refine OkF_of _ (same07_ok a.unit b.unit hu) ?_
 by_cases e5:a.unit=b.unit
 case neg =>
  simp only [↓rA,rB,Nat.reduceEqDiff,Tryz.results172,e5]
  exact ret_done (fb (decide_eq_false fun e=>e5 (by rw [e])).symm)
 by_cases e6:a.param=b.param
 case neg =>
  simp only [↓rA,rB,Nat.reduceAdd,Nat.reduceEqDiff,tbCB1,Tryz.results172,h2,e5,e6]
  exact ret_done (fb (decide_eq_false fun e=>e6 (by rw [e])).symm)
 by_cases e7:a.wk=b.wk∧a.ws=b.ws
 case neg =>
  simp only [↓rA,rB,Nat.reduceAdd,Nat.reduceEqDiff,Nat.reduceLeDiff,tbCB1,Tryz.results172,h2,e5,e6,e7,v7]
  exact ret_done (fb (decide_eq_false fun e=>e7 (by rw [e];exact⟨rfl,rfl⟩)).symm)
 simp only [↓rA,rB,Nat.reduceAdd,Nat.reduceEqDiff,Nat.reduceLeDiff,tbCB1,Tryz.results172,h2,e5,e6,e7]
 exact ret_done (fb (decide_eq_true (by rw [hd_ext];exact⟨e0,e1,e2,e3,by rw [e4];exact⟨rfl,rfl,rfl⟩,e5,e6,e7.1,e7.2⟩)).symm)
def tbCB2:=(aI (aI (aI Ty.c165 Ty.c172) (aI Ty.t231 (aI Ty.t3 Ty.t4))) (aI (aI Ty.t81 (aI Ty.t85 Ty.t87)) (aI Ty.t88 (aI Ty.t9 Ty.t90))))
theorem sameExprR_ok:∀ a:E,Fit a→∀ b:E,OkP Tryz.prog 165 [vE a,vE b] (vbool (decide (a=b))):=by
 have fb:∀ {a b:Bool},a=b→V.lit (.bool a)=vbool b:=fun h=>by rw [h]
 intro x
 induction x using E.ind with
 | h a l ih =>
 intro hf y
 obtain⟨b,m⟩:=y
 have hu:=hf.unit
 have hl:=hf.len
 have ha:=hf.args
 simp only [E.args,E.hd,big] at hl ha hu
 rw [vE,vE,cE_mk,cE_mk]
 have no:a ≠ b→decide (E.mk a l=E.mk b m)=false:=fun h=>decide_eq_false fun e=>h (by injection e)
 have no':l ≠ m→decide (E.mk a l=E.mk b m)=false:=fun h=>decide_eq_false fun e=>h (by injection e)
 refine Ok.of_ex Ty.mixed Tryz.func165 rfl (by simp [Tryz.ntmps165]) (by kernel_rfl) fun F w0 I0=>?_
 simp only [↓rA,rB]
 refine fun b1 h1=>?_;replace h1:=newb h1;try simp only [Nb] at h1
 simp only [↓rA,rB,Nat.reduceEqDiff]
 refine fun b2 h2=>?_;replace h2:=newb h2;try simp only [Nb] at h2
 simp only [↓rA,rB,Nat.reduceAdd,Nat.reduceEqDiff,tbCB2,h2]
 refine OkF_of _ (flat_ok a b l m hu) ?_
 by_cases e0:a=b
 case neg =>
  simp only [↓rA,rB,Nat.reduceEqDiff,Tryz.results165,decide_eq_false e0]
  exact ret_done (fb (no e0).symm)
 by_cases he:¬ l.length=m.length
 ·have he':¬ (l.length:Int)=m.length:=by omega
  simp only [↓rA,rB,Nat.reduceAdd,Nat.reduceEqDiff,tbCB2,Tryz.results165,h2,decide_eq_true e0,List.length_map,he']
  exact ret_done (fb (no' fun e=>he (by rw [e])).symm)
 have he':(l.length:Int)=m.length:=by omega
 simp only [↓rA,rB,Nat.reduceAdd,Nat.reduceEqDiff,tbCB2,Tryz.results165,h2,decide_eq_true e0,List.length_map,he']
 refine EX_for Ty.mixed (by kernel_rfl) m.length (fun i S=>l.take i=m.take i∧S.boxes=[(b2,.c (cH b (vEs m))),(b1,.c (cH a (vEs l)))]∧S.rows=[]∧S.σ 2=ptr b1∧S.σ 3=ptr b2∧S.σ 5=vint i) ⟨0,?_⟩ (fun i S hi ⟨hq,gb,gr,g2,g3,g5⟩=>?_) (fun S ⟨hq,gb,gr,g2,g3,g5⟩=>?_)
 ·simp only [rB,Nat.reduceEqDiff]
  try exact rfl
 ·have hwi:=wrap_succ (i:=i) (N:=m.length) hi (by omega)
  have hil:i < l.length:=by omega
  simp only [↓rA,rB,Nat.reduceAdd,Nat.reduceEqDiff,tbCB2,gb,g2,g3,g5,h2,he',Int.ofNat_lt,hi,List.length_map,getD_map _ _ _ hi,getD_map _ _ _ hil,cE_eq]
  have hc:=ih l[i] (List.getElem_mem hil) (ha _ (List.getElem_mem hil)) m[i]
  simp only [vE,cE_eq] at hc
  refine CallV_of _ hc.v ?_
  by_cases e:l[i]=m[i]
  ·simp only [↓rA,rB,Nat.reduceEqDiff,gb,gr,g2,g3,g5,hwi,decide_eq_true e]
   exact⟨0,by rw [List.take_succ_eq_append_getElem hi,List.take_succ_eq_append_getElem hil,hq,e],rfl⟩
  ·simp only [↓rA,rB,gb,gr,decide_eq_false e]
   refine ret_done (fb (no' fun e'=>e ?_).symm)
   subst e'
   rfl
 ·simp only [↓rA,rB,Nat.reduceAdd,Nat.reduceEqDiff,tbCB2,gb,gr,g2,g5,h2,he',List.length_map,Int.ofNat_lt,Nat.lt_irrefl]
  rw [List.take_of_length_le (Nat.le_refl _),List.take_of_length_le (by omega)] at hq
  exact ret_done (fb (decide_eq_true (by rw [e0,hq])).symm)
def tbCB3:=(aI (aI (aI Ty.c152 Ty.t231) (aI Ty.t3 (aI Ty.t4 Ty.t81))) (aI (aI Ty.t85 Ty.t87) (aI Ty.t88 (aI Ty.t9 Ty.t90))))
theorem sizeR_ok:∀ x:E,Fit x→OkP Tryz.prog 152 [vE x] (vint (IntKind.i64.wrap (sizeE x))):=by
 intro x
 induction x using E.ind with
 | h hd l ih =>
  intro hf
  have hl:=hf.len
  have ha:=hf.args
  simp only [E.args,big] at hl ha
  rw [vE,cE_mk]
  refine Ok.of_ex Ty.mixed Tryz.func152 rfl (by simp [Tryz.ntmps152]) (by kernel_rfl) fun F w0 I0=>?_
  simp only [↓rA,rB]
  refine fun b1 h1=>?_;replace h1:=newb h1;try simp only [Nb] at h1
  simp only [↓rA,rB,Tryz.results152]
  refine EX_for Ty.mixed (by kernel_rfl) l.length (fun i S=>S.boxes=[(b1,.c (cH hd (vEs l)))]∧S.rows=[]∧S.σ 1=ptr b1∧S.σ 3=vint (IntKind.i64.wrap (1+sizeEs (l.take i)))∧S.σ 4=vint i) ⟨0,?_⟩ (fun i S hi ⟨gb,gr,g1,g3,g4⟩=>?_) (fun S ⟨gb,gr,g1,g3,g4⟩=>?_)
  ·simp only [rB,Nat.reduceEqDiff]
   exact congrArg (fun n=>V.lit (.int .i64 n)) (by decide)
  ·have hwi:=wrap_succ (i:=i) (N:=l.length) hi (by omega)
   have hx:=List.getElem_mem hi
   have hc:=ih l[i] hx (ha _ hx)
   rw [vE,cE_eq] at hc
   simp only [↓rA,rB,Nat.reduceAdd,Nat.reduceEqDiff,tbCB3,gb,g1,g3,g4,Int.ofNat_lt,hi,List.length_map,getD_map _ _ _ hi,cE_eq]
   refine OkF_of _ hc ?_
   simp only [↓rA,rB,Nat.reduceEqDiff,gr,g1,g4,hwi]
   refine⟨0,rfl,?_⟩
   rw [wrapAdd,List.take_succ_eq_append_getElem hi,sizeEs_append]
   exact congrArg (fun n=>V.lit (.int .i64 (IntKind.i64.wrap n))) (by simp only [sizeEs];omega)
  ·simp only [↓rA,rB,Nat.reduceAdd,Nat.reduceEqDiff,tbCB3,gb,gr,g1,g3,g4,Int.ofNat_lt,Nat.lt_irrefl,List.length_map]
   refine ret_done ?_
   rw [sizeE_mk,List.take_of_length_le (Nat.le_refl _)]
   exact congrArg (fun n=>V.lit (.int .i64 (IntKind.i64.wrap n))) (by omega)
def tbCB4:=(aI (aI (aI Ty.c153 Ty.t231) (aI Ty.t3 (aI Ty.t4 Ty.t81))) (aI (aI Ty.t85 Ty.t87) (aI Ty.t88 (aI Ty.t9 Ty.t90))))
theorem depthR_ok:∀ x:E,Fit x→depthE x≤big→OkP Tryz.prog 153 [vE x] (vint (depthE x)):=by
 intro x
 induction x using E.ind with
 | h hd l ih =>
  intro hf hb
  have hl:=hf.len
  have ha:=hf.args
  simp only [E.args,big] at hl ha
  rw [depthE_mk] at hb
  unfold big at hb
  rw [vE,cE_mk]
  refine Ok.of_ex Ty.mixed Tryz.func153 rfl (by simp [Tryz.ntmps153]) (by kernel_rfl) fun F w0 I0=>?_
  simp only [↓rA,rB]
  refine fun b1 h1=>?_;replace h1:=newb h1;try simp only [Nb] at h1
  simp only [↓rA,rB,Tryz.results153]
  refine EX_for Ty.mixed (by kernel_rfl) l.length (fun i S=>S.boxes=[(b1,.c (cH hd (vEs l)))]∧S.rows=[]∧S.σ 1=ptr b1∧S.σ 3=vint (depthEs (l.take i))∧S.σ 4=vint i) ⟨0,?_⟩ (fun i S hi ⟨gb,gr,g1,g3,g4⟩=>?_) (fun S ⟨gb,gr,g1,g3,g4⟩=>?_)
  ·simp only [rB,Nat.reduceEqDiff]
   first | exact rfl | exact⟨rfl,rfl⟩
  ·have hwi:=wrap_succ (i:=i) (N:=l.length) hi (by omega)
   have hx:=List.getElem_mem hi
   have hd:=depthEs_mem hx
   have hc:=ih l[i] hx (ha _ hx) (by unfold big;omega)
   rw [vE,cE_eq] at hc
   simp only [↓rA,rB,Nat.reduceAdd,Nat.reduceEqDiff,tbCB4,gb,g1,g3,g4,Int.ofNat_lt,hi,List.length_map,getD_map _ _ _ hi,cE_eq]
   refine OkF_of _ hc ?_
   simp only [↓rA,rB,Nat.reduceEqDiff,gr,g1,g4,hwi]
   refine⟨0,rfl,?_⟩
   rw [List.take_succ_eq_append_getElem hi,depthEs_append]
   exact congrArg (fun n=>V.lit (.int .i64 n)) (by simp only [depthEs];split <;> omega)
  ·simp only [↓rA,rB,Nat.reduceAdd,Nat.reduceEqDiff,tbCB4,gb,gr,g1,g3,g4,Int.ofNat_lt,Nat.lt_irrefl,List.length_map]
   refine ret_done ?_
   rw [depthE_mk,List.take_of_length_le (Nat.le_refl _),wrap_id (by omega) (by omega)]
   exact rfl
def tbCB5:=(aI (aI (aI Ty.t231 Ty.t3) (aI Ty.t81 Ty.t85)) (aI (aI Ty.t87 Ty.t88) (aI Ty.t9 Ty.t90)))
theorem true_ok:OkP Tryz.prog 166 [] (vE tt):=by
 refine Ok.of_ex Ty.mixed Tryz.func166 rfl (by simp [Tryz.ntmps166]) (by kernel_rfl) fun F w0 I0=>?_
 simp only [↓rA,rB,tbCB5]
 refine fun b0 h0=>?_;replace h0:=newb h0;try simp only [Nb] at h0
 simp only [↓rA,rB,Nat.reduceAdd,Nat.reduceLeDiff,reduceCtorEq,tbCB5,Tryz.results166]
 exact⟨_,[],[],leE (h:=hTT) (l:=[]) (Le.nil 2) (Le.nil 12),List.nil_sublist _,List.nil_sublist _,rfl,rfl,rfl⟩
end Go.Proofs.YtopfanlkbepemaaGreat
set_option linter.unusedSimpArgs false
set_option maxRecDepth 100000
set_option linter.defProp false
namespace Go.Proofs.YtopfanlkbepemaaGreat
open Go.VL Go.Ar Go.Lo Go.Proofs.YtopfanlkbepemaaGreat
def tbOA0:=(aI (aI Ty.t3 Ty.t36) (aI Ty.t4 Ty.t9))
theorem one_ok (l:List Str) (s:Str) (hl:l.length≤1000000):OkP Tryz.prog 175 [vstr s,vstrs l] (vbool (memS l s)):=by
 have fb:∀ {a b:Bool},a=b→V.lit (.bool a)=vbool b:=fun h=>by rw [h]
 refine Ok.of_ex Ty.mixed Tryz.func175 rfl (by simp [Tryz.ntmps175]) (by kernel_rfl) fun F w0 I0=>?_
 simp only [↓rA,rB,Tryz.results175]
 refine EX_for Ty.mixed (by kernel_rfl) l.length (fun i S=>memS (l.take i) s=false∧S.boxes=[]∧S.rows=[]∧S.σ 0=vstr s∧S.σ 1=vstrs l∧S.σ 5=vint i) ⟨0,?_⟩ (fun i S hi ⟨hf,gb,gr,g0,g1,g5⟩=>?_) (fun S ⟨hf,gb,gr,g0,g1,g5⟩=>?_)
 ·simp only [rB,Nat.reduceEqDiff,reduceCtorEq]
  first | exact rfl | exact⟨rfl,rfl⟩
 ·have hwi:=wrap_succ (i:=i) (N:=l.length) hi (by omega)
  by_cases e:l[i]=s
  ·simp only [↓rA,rB,Nat.reduceEqDiff,reduceCtorEq,tbOA0,gb,gr,g0,g1,g5,Int.ofNat_lt,hi,List.length_map,getD_map _ _ _ hi,e]
   exact ret_done (fb (memS_iff.2 (by rw [← e];exact List.getElem_mem hi)).symm)
  ·simp only [↓rA,rB,Nat.reduceEqDiff,reduceCtorEq,tbOA0,gb,gr,g0,g1,g5,Int.ofNat_lt,hi,List.length_map,getD_map _ _ _ hi,e,hwi]
   refine⟨0,?_⟩
   have:memS (l.take (i+1)) s=false:=by
    unfold memS at hf ⊢
    rw [List.take_succ_eq_append_getElem hi,List.any_append,hf]
    simp only [List.any_cons,List.any_nil,Bool.or_false,Bool.false_or]
    exact decide_eq_false fun h=>e h.symm
   first | exact this | exact⟨this,rfl⟩
 ·simp only [↓rA,rB,Nat.reduceEqDiff,tbOA0,gb,gr,g1,g5,Int.ofNat_lt,Nat.lt_irrefl,List.length_map]
  rw [List.take_of_length_le (Nat.le_refl _)] at hf
  exact ret_done (fb hf.symm)
def tbOA1:=(aI Ty.t36 Ty.t9)
theorem operators_ok:OkP Tryz.prog 176 [] (vstrs binL):=by
 refine Ok.of_ex Ty.mixed Tryz.func176 rfl (by simp [Tryz.ntmps176]) (by kernel_rfl) fun F w0 I0=>?_
 simp only [↓rA,rB,Nat.reduceAdd,Nat.reduceLT,Nat.reduceLeDiff,Nat.reduceMul,tbOA1,Tryz.results176]
 exact fun y=>⟨_,[],[],Le.list _ _ _,List.nil_sublist _,List.nil_sublist _,rfl,rfl,rfl⟩
def tbOA2:=(aI Ty.t36 Ty.t9)
theorem aggregates_ok:OkP Tryz.prog 182 [] (vstrs aggL):=by
 refine Ok.of_ex Ty.mixed Tryz.func182 rfl (by simp [Tryz.ntmps182]) (by kernel_rfl) fun F w0 I0=>?_
 simp only [↓rA,rB,Nat.reduceAdd,Nat.reduceLT,Nat.reduceLeDiff,Nat.reduceMul,tbOA2,Tryz.results182]
 exact fun y=>⟨_,[],[],Le.list _ _ _,List.nil_sublist _,List.nil_sublist _,rfl,rfl,rfl⟩
theorem leH {b:Hd} {u c:V} {y:List E} (hu:Le u (vFacs b.unit)) (hc:Le c (vEs y)):Le (.agg (cHu b u c)) (.agg (cH b (vEs y))) :=
 leAgg (.cons (Le.refl _) (.cons (Le.refl _) (.cons (Le.refl _) (.cons (Le.refl _) (.cons (Le.refl _) (.cons (Le.refl _) (.cons (Le.refl _) (.cons hu (.cons (Le.refl _) (.cons (Le.refl _) (.cons (Le.refl _) (.cons hc .nil))))))))))))
theorem flatU_ok (a b:Hd) (x:List E) (u c:V) (ha:a.unit.length≤big) (hu:Le u (vFacs b.unit)) (hc:Le c (vEs [])):OkP Tryz.prog 172 [.agg (cH a (vEs x)),.agg (cHu b u c)] (vbool (decide (a=b))) :=
 Ok.le (.cons (Le.refl _) (.cons (leH hu hc) .nil)) (flat_ok a b x [] ha)
def tbOA3:=(aI Ty.t3 (aI Ty.t4 Ty.t87))
theorem window_ok (wk ws:Int):OkP Tryz.prog 183 [.agg [vint wk,vint ws]] (vbool (okWin wk ws)):=by
 have fb:∀ {a b:Bool},a=b→V.lit (.bool a)=vbool b:=fun h=>by rw [h]
 refine Ok.of_ex Ty.mixed Tryz.func183 rfl (by simp [Tryz.ntmps183]) (by kernel_rfl) fun F w0 I0=>?_
 simp only [↓rA,rB]
 refine fun b1 h1=>?_;replace h1:=newb h1;try simp only [Nb] at h1
 by_cases k1:wk=1
 ·subst k1
  by_cases e:ws=0
  ·simp only [↓rA,rB,Nat.reduceAdd,Nat.reduceEqDiff,tbOA3,Tryz.results183,e]
   exact ret_done (fb (by simp [okWin]))
  ·simp only [↓rA,rB,Nat.reduceAdd,Nat.reduceEqDiff,tbOA3,Tryz.results183,e]
   exact ret_done (fb (by simp [okWin,e]))
 by_cases a:(1:Int) < wk
 case neg =>
  simp only [↓rA,rB,Nat.reduceAdd,Nat.reduceEqDiff,tbOA3,Tryz.results183,k1,a]
  exact ret_done (fb (by rw [okWin,if_pos (by omega)]))
 by_cases b:wk≤4
 case neg =>
  simp only [↓rA,rB,Nat.reduceAdd,Nat.reduceEqDiff,tbOA3,Tryz.results183,k1,a,b]
  exact ret_done (fb (by rw [okWin,if_neg (by omega),if_pos (by omega)]))
 by_cases c:(1:Int)≤ws
 case neg =>
  simp only [↓rA,rB,Nat.reduceAdd,Nat.reduceEqDiff,tbOA3,Tryz.results183,k1,a,b,c]
  refine ret_done (fb ?_)
  rw [okWin,if_neg (by omega),if_neg (by omega)]
  split
  ·rfl
  ·rename_i h
   have hne:¬ ws=0:=fun e=>h fun hh=>k1 (hh.2 e)
   rw [if_pos (by omega)]
 simp only [↓rA,rB,Nat.reduceAdd,Nat.reduceEqDiff,tbOA3,Tryz.results183,k1,a,b,c]
 refine ret_done (fb ?_)
 rw [okWin,if_neg (by omega),if_neg (by omega),if_neg (fun h=>h ⟨fun h=>absurd h k1,fun h=>by omega⟩),if_neg (by omega)]
 by_cases d:ws≤1099511627776
 ·rw [decide_eq_true d,if_neg (by omega)]
 ·rw [decide_eq_false d,if_pos (by omega)]
def tbOA4:=(aI (aI (aI Ty.c125 (aI Ty.c134 Ty.c172)) (aI (aI Ty.t231 Ty.t26) (aI Ty.t3 Ty.t4))) (aI (aI Ty.t81 (aI Ty.t83 Ty.t85)) (aI (aI Ty.t87 Ty.t88) (aI Ty.t9 Ty.t90))))
theorem literal_ok (h:Hd) (l:List E) (hu:h.unit.length≤big) (hk:h.kind=1):OkP Tryz.prog 173 [.agg (cH h (vEs l))] (vbool (okHd h false && decide (h=wantH h))):=by
 have fb:∀ {a b:Bool},a=b→V.lit (.bool a)=vbool b:=fun h=>by rw [h]
 have hw:wantH h={ hd0 1 with val:=h.val,unit:=h.unit,name:=h.name }:=by rw [wantH,if_pos hk]
 have hv:=valR_ok h.val
 have ht:=typeR_ok h.val.kind h.unit h.name
 have hfl:=flatU_ok h { hd0 1 with val:=h.val,unit:=h.unit,name:=h.name } l (vFacs h.unit) nilS hu (Le.refl _) (Le.nil 12)
 rw [hw,okHd,if_pos hk]
 refine Ok.of_ex Ty.mixed Tryz.func173 rfl (by simp [Tryz.ntmps173]) (by kernel_rfl) fun F w0 I0=>?_
 simp only [↓rA,rB]
 refine fun b1 h1=>?_;replace h1:=newb h1;try simp only [Nb] at h1
 simp only [↓rA,rB,Nat.reduceAdd,Nat.reduceEqDiff,Nat.reduceLeDiff,tbOA4]
 refine OkF_of _ hv ?_
 by_cases e:valC h.val=0
 case neg =>
  simp only [↓rA,rB,Nat.reduceEqDiff,Tryz.results173,e]
  exact ret_done (fb (by simp []))
 by_cases e1:h.val.n < 0
 ·simp only [↓rA,rB,Nat.reduceAdd,Nat.reduceEqDiff,tbOA4,Tryz.results173,e,e1]
  exact ret_done (fb (by simp []))
 simp only [↓rA,rB,Nat.reduceAdd,Nat.reduceEqDiff,Nat.reduceLeDiff,tbOA4,e,e1]
 refine fun b3 h3=>?_;replace h3:=newb h3;try simp only [Nb] at h3
 simp only [↓rA,rB,Nat.reduceAdd,Nat.reduceEqDiff,tbOA4]
 refine OkF_of _ ht ?_
 by_cases e2:typeC h.val.kind h.unit h.name=0
 case neg =>
  simp only [↓rA,rB,Nat.reduceEqDiff,Tryz.results173,e2]
  exact ret_done (fb (by simp []))
 simp only [↓rA,rB,Nat.reduceAdd,Nat.reduceEqDiff,Nat.reduceLeDiff,tbOA4,h3,e2]
 refine OkF_of _ hfl ?_
 simp only [↓rA,rB,Nat.reduceEqDiff,Tryz.results173,e2]
 exact ret_done (fb (by simp [e,e1]))
theorem okAgg_eq (h:Hd):okAgg h=(memS aggL h.op && nameB h.table && decide (loP h.op≤h.param) && decide (h.param≤hiP h.op) && okWin h.wk h.ws):=by
 unfold okAgg
 cases memS aggL h.op
 ·rfl
 cases nameB h.table
 ·rfl
 simp only [Bool.true_eq_false,if_false,Bool.true_and]
 by_cases a:h.param < loP h.op
 ·rw [if_pos a,decide_eq_false (by omega)];rfl
 rw [if_neg a,decide_eq_true (show loP h.op≤h.param by omega)]
 by_cases b:hiP h.op < h.param
 ·rw [if_pos b,decide_eq_false (by omega)];rfl
 rw [if_neg b,decide_eq_true (show h.param≤hiP h.op by omega)]
 rfl
def tbOA5:=(aI (aI (aI Ty.c172 (aI Ty.c175 Ty.c182)) (aI (aI Ty.c183 Ty.c66) (aI Ty.t231 Ty.t3))) (aI (aI (aI Ty.t36 Ty.t4) (aI Ty.t81 Ty.t85)) (aI (aI Ty.t87 Ty.t88) (aI Ty.t9 Ty.t90))))
theorem agg10_ok (h:Hd) (l:List E) (hu:h.unit.length≤big) (hk:h.kind=5):OkP Tryz.prog 174 [.agg (cH h (vEs l))] (vbool (okAgg h && decide (h=wantH h))):=by
 have fb:∀ {a b:Bool},a=b→V.lit (.bool a)=vbool b:=fun h=>by rw [h]
 have hw:wantH h={ hd0 5 with op:=h.op,table:=h.table,param:=h.param,wk:=h.wk,ws:=h.ws }:=by simp [wantH,hk]
 have hfl:=flatU_ok h { hd0 5 with op:=h.op,table:=h.table,param:=h.param,wk:=h.wk,ws:=h.ws } l nilS nilS hu (Le.nil 2) (Le.nil 12)
 rw [hw]
 refine Ok.of_ex Ty.mixed Tryz.func174 rfl (by simp [Tryz.ntmps174]) (by kernel_rfl) fun F w0 I0=>?_
 simp only [↓rA,rB]
 refine fun b1 h1=>?_;replace h1:=newb h1;try simp only [Nb] at h1
 have cs:(decide (h.op=sQuant)=true∧decide (h.op=sDecay)=false∧hiP h.op=1000∧loP h.op=1)∨(decide (h.op=sQuant)=false∧decide (h.op=sDecay)=true∧hiP h.op=1073741824∧loP h.op=1)∨(decide (h.op=sQuant)=false∧decide (h.op=sDecay)=false∧hiP h.op=0∧loP h.op=0):=by
  by_cases e1:h.op=sQuant
  ·exact .inl ⟨decide_eq_true e1,decide_eq_false (by rw [e1];decide),by rw [hiP,if_pos e1],by rw [loP,if_pos e1]⟩
  by_cases e2:h.op=sDecay
  ·exact .inr (.inl ⟨decide_eq_false e1,decide_eq_true e2,by rw [hiP,if_neg e1,if_pos e2],by rw [loP,if_neg e1,if_pos e2]⟩)
  ·exact .inr (.inr ⟨decide_eq_false e1,decide_eq_false e2,by rw [hiP,if_neg e1,if_neg e2],by rw [loP,if_neg e1,if_neg e2]⟩)
 rw [okAgg_eq]
 have m1:min (1000:Int) 1=1:=by decide
 have m2:min (1073741824:Int) 1=1:=by decide
 have m3:min (0:Int) 1=0:=by decide
 rcases cs with⟨q1,q2,q3,q4⟩ | ⟨q1,q2,q3,q4⟩ | ⟨q1,q2,q3,q4⟩ <;>
 (
   rw [q3,q4]
   simp only [↓rA,rB,Nat.reduceAdd,Nat.reduceEqDiff,tbOA5,q1,q2]
   refine CallV_of _ aggregates_ok.v ?_
   simp only [↓rA,rB,Nat.reduceEqDiff,tbOA5]
   refine CallV_of _ (one_ok aggL h.op (by decide)).v ?_
   cases em:memS aggL h.op
   ·simp only [↓rA,rB,Nat.reduceEqDiff,Tryz.results174]
    exact ret_done (fb rfl)
   simp only [↓rA,rB,Nat.reduceAdd,Nat.reduceEqDiff,tbOA5]
   refine CallV_of _ (nameR_ok h.table).v ?_
   cases en:nameB h.table
   ·simp only [↓rA,rB,Nat.reduceEqDiff,Tryz.results174]
    exact ret_done (fb rfl)
   simp only [↓rA,rB,Nat.reduceAdd,Nat.reduceEqDiff,Nat.reduceLeDiff,tbOA5]
   refine CallV_of _ (window_ok h.wk h.ws).v ?_
   cases ew:okWin h.wk h.ws
   ·simp only [↓rA,rB,Nat.reduceEqDiff,Tryz.results174]
    exact ret_done (fb (by simp))
   by_cases p1:hiP h.op < h.param
   ·have z:decide (h.param≤hiP h.op)=false:=decide_eq_false (by omega)
    rw [q3] at p1 z
    simp only [↓rA,rB,Nat.reduceAdd,Nat.reduceEqDiff,tbOA5,Tryz.results174,p1]
    exact ret_done (fb (by rw [z];simp))
   have z:decide (h.param≤hiP h.op)=true:=decide_eq_true (by omega)
   by_cases p2:h.param < loP h.op
   ·have z2:decide (loP h.op≤h.param)=false:=decide_eq_false (by omega)
    rw [q3] at p1
    rw [q4] at p2 z2
    simp only [↓rA,rB,Int.reduceLT,Nat.reduceAdd,Nat.reduceEqDiff,tbOA5,Tryz.results174,p1,p2]
    exact ret_done (fb (by rw [z2];simp))
   have z2:decide (loP h.op≤h.param)=true:=decide_eq_true (by omega)
   rw [q3] at p1 z
   rw [q4] at p2 z2
   simp only [↓rA,rB,Int.reduceLT,Nat.reduceAdd,Nat.reduceEqDiff,Nat.reduceLeDiff,tbOA5,p1,p2]
   refine OkF_of _ hfl ?_
   simp only [↓rA,rB,Int.reduceLT,Tryz.results174]
   exact ret_done (fb (by rw [z,z2];rfl)))
def tbOA6:=(aI (aI (aI (aI Ty.c172 Ty.c173) (aI Ty.c174 Ty.c175)) (aI (aI Ty.c176 Ty.c66) (aI Ty.t231 Ty.t3))) (aI (aI (aI Ty.t36 Ty.t4) (aI Ty.t81 Ty.t85)) (aI (aI Ty.t87 Ty.t88) (aI Ty.t9 Ty.t90))))
theorem nodeR_ok (h:Hd) (l:List E) (ins:Bool) (hu:h.unit.length≤big):OkP Tryz.prog 164 [.agg (cH h (vEs l)),vbool ins] (.tup [vint (manyH h.kind),vbool (okHd h ins && decide (h=wantH h))]):=by
 have ft:∀ {n m:Int} {a b:Bool},n=m→a=b→V.tup [V.lit (.int .i64 n),V.lit (.bool a)]=.tup [vint m,vbool b]:=fun h h'=>by rw [h,h']
 have hfn:=flatU_ok h { hd0 h.kind with name:=h.name } l nilS nilS hu (Le.nil 2) (Le.nil 12)
 have hfo:=flatU_ok h { hd0 h.kind with op:=h.op } l nilS nilS hu (Le.nil 2) (Le.nil 12)
 have hlit:=literal_ok h l hu
 have hagg:=agg10_ok h l hu
 obtain⟨k,op,na,ta,va,un,pa,wk,ws⟩:=h
 generalize hN:decide ((⟨k,op,na,ta,va,un,pa,wk,ws⟩:Hd)={ hd0 k with name:=na })=N at hfn
 generalize hO:decide ((⟨k,op,na,ta,va,un,pa,wk,ws⟩:Hd)={ hd0 k with op:=op })=O at hfo
 refine Ok.of_ex Ty.mixed Tryz.func164 rfl (by simp [Tryz.ntmps164]) (by kernel_rfl) fun F w0 I0=>?_
 simp only [↓rA,rB]
 refine fun b2 h2=>?_;replace h2:=newb h2;try simp only [Nb] at h2
 simp only [↓EX_seq,↓EX_ops_nil,↓EX_plain,↓ST_assign,onVal_eq,Todo_eq,ev_const,List.toList_toArray,Tryz.results164]
 refine EX_cut (fun S=>S.boxes=[(b2,.c (cH ⟨k,op,na,ta,va,un,pa,wk,ws⟩ (vEs l)))]∧S.rows=[]∧S.σ 1=vbool ins∧S.σ 2=ptr b2∧S.σ 6=vbool (nameB na && N)) ?_ ?_
 ·simp only [↓rA,rB,Nat.reduceAdd,Nat.reduceEqDiff,tbOA6]
  refine OkF_of _ (nameR_ok na) ?_
  cases en:nameB na
  ·simp only [↓rA,rB,Nat.reduceEqDiff]
  ·simp only [↓rA,rB,Nat.reduceAdd,Nat.reduceEqDiff,Nat.reduceLeDiff,tbOA6]
   refine OkF_of _ hfn ?_
   simp only [↓rA,rB,Nat.reduceEqDiff]
   first | done | exact⟨rfl,rfl⟩ | exact rfl
 rintro S ⟨gb,gr,g1,g2,g6⟩
 simp only [↓rA,rB,Nat.reduceAdd,Nat.reduceEqDiff,Nat.reduceLeDiff,tbOA6,gb,g2]
 refine OkF_of _ hfo ?_
 by_cases k1:k=1
 ·subst k1
  simp only [↓rA,rB,Nat.reduceAdd,Nat.reduceEqDiff,tbOA6,gr,g2]
  refine OkF_of _ (hlit rfl) ?_
  simp only [↓rA,rB,Nat.reduceEqDiff,gr]
  exact ret_done (ft rfl rfl)
 by_cases k2:k=2
 ·subst k2
  simp only [↓rA,rB,Int.reduceEq,Nat.reduceAdd,Nat.reduceEqDiff,tbOA6,gr,g1,g2]
  cases ins
  ·simp only [↓rA,rB,Nat.reduceEqDiff,gr]
   exact ret_done (ft rfl (by simp [okHd]))
  ·simp only [↓rA,rB,Nat.reduceEqDiff,gr,g6]
   exact ret_done (ft rfl (by rw [← hN];simp [okHd,wantH]))
 by_cases k3:k=3
 ·subst k3
  cases ins
  ·simp only [↓rA,rB,Int.reduceEq,Nat.reduceAdd,Nat.reduceEqDiff,tbOA6,gr,g1,g2,g6]
   exact ret_done (ft rfl (by rw [← hN];simp [okHd,wantH]))
  ·simp only [↓rA,rB,Int.reduceEq,Nat.reduceAdd,Nat.reduceEqDiff,tbOA6,gr,g1,g2]
   exact ret_done (ft rfl (by simp [okHd]))
 by_cases k4:k=4
 ·subst k4
  cases ins
  ·simp only [↓rA,rB,Int.reduceEq,Nat.reduceAdd,Nat.reduceEqDiff,tbOA6,gr,g1,g2,g6]
   exact ret_done (ft rfl (by rw [← hN];simp [okHd,wantH]))
  ·simp only [↓rA,rB,Int.reduceEq,Nat.reduceAdd,Nat.reduceEqDiff,tbOA6,gr,g1,g2]
   exact ret_done (ft rfl (by simp [okHd]))
 by_cases k5:k=5
 ·subst k5
  cases ins
  ·simp only [↓rA,rB,Int.reduceEq,Nat.reduceAdd,Nat.reduceEqDiff,tbOA6,gr,g1,g2]
   refine OkF_of _ (hagg rfl) ?_
   simp only [↓rA,rB,Nat.reduceEqDiff,gr]
   exact ret_done (ft rfl (by simp [okHd]))
  ·simp only [↓rA,rB,Int.reduceEq,Nat.reduceAdd,Nat.reduceEqDiff,tbOA6,gr,g1,g2]
   exact ret_done (ft rfl (by simp [okHd]))
 by_cases k6:k=6
 ·subst k6
  cases O
  ·simp only [↓rA,rB,Int.reduceEq,Nat.reduceAdd,Nat.reduceEqDiff,tbOA6,gr,g2]
   exact ret_done (ft rfl (by rw [show decide ((⟨6,op,na,ta,va,un,pa,wk,ws⟩:Hd)=wantH ⟨6,op,na,ta,va,un,pa,wk,ws⟩)=false from hO];simp))
  ·simp only [↓rA,rB,Int.reduceEq,Nat.reduceAdd,Nat.reduceEqDiff,Nat.reduceLT,Nat.reduceLeDiff,Nat.reduceMul,tbOA6,gr,g2]
   refine fun y=>OkF_of _ (Ok.le (.cons (Le.refl _) (.cons (Le.list _ _ _) .nil)) (one_ok unL op (by decide))) ?_
   simp only [↓rA,rB,Nat.reduceEqDiff,gr]
   exact ret_done (ft rfl (by rw [show decide ((⟨6,op,na,ta,va,un,pa,wk,ws⟩:Hd)=wantH ⟨6,op,na,ta,va,un,pa,wk,ws⟩)=true from hO];simp [okHd]))
 by_cases k7:k=7
 ·subst k7
  cases O
  ·simp only [↓rA,rB,Int.reduceEq,Nat.reduceAdd,Nat.reduceEqDiff,tbOA6,gr,g2]
   exact ret_done (ft rfl (by rw [show decide ((⟨7,op,na,ta,va,un,pa,wk,ws⟩:Hd)=wantH ⟨7,op,na,ta,va,un,pa,wk,ws⟩)=false from hO];simp))
  ·simp only [↓rA,rB,Int.reduceEq,Nat.reduceAdd,Nat.reduceEqDiff,tbOA6,gr,g2]
   refine CallV_of _ operators_ok.v ?_
   simp only [↓rA,rB,Nat.reduceEqDiff,tbOA6,gr]
   refine CallV_of _ (one_ok binL op (by decide)).v ?_
   simp only [↓rA,rB,Nat.reduceEqDiff,gr]
   exact ret_done (ft rfl (by rw [show decide ((⟨7,op,na,ta,va,un,pa,wk,ws⟩:Hd)=wantH ⟨7,op,na,ta,va,un,pa,wk,ws⟩)=true from hO];simp [okHd]))
 have bare:∀ k:Int,(k=8∨k=9)→(decide ((⟨k,op,na,ta,va,un,pa,wk,ws⟩:Hd)={ hd0 k with op:=op }) && decide (op=es0))=(okHd ⟨k,op,na,ta,va,un,pa,wk,ws⟩ ins && decide ((⟨k,op,na,ta,va,un,pa,wk,ws⟩:Hd)=wantH ⟨k,op,na,ta,va,un,pa,wk,ws⟩)):=by
  rintro k (rfl | rfl)
  ·rw [show okHd ⟨8,op,na,ta,va,un,pa,wk,ws⟩ ins=true from rfl,show wantH ⟨8,op,na,ta,va,un,pa,wk,ws⟩=hd0 8 from rfl,Bool.true_and]
   by_cases e:op=es0
   ·subst e;simp
   ·rw [decide_eq_false e,Bool.and_false,decide_eq_false (fun h=>e (congrArg Hd.op h))]
  ·rw [show okHd ⟨9,op,na,ta,va,un,pa,wk,ws⟩ ins=true from rfl,show wantH ⟨9,op,na,ta,va,un,pa,wk,ws⟩=hd0 9 from rfl,Bool.true_and]
   by_cases e:op=es0
   ·subst e;simp
   ·rw [decide_eq_false e,Bool.and_false,decide_eq_false (fun h=>e (congrArg Hd.op h))]
 by_cases k8:k=8
 ·subst k8
  have hb:=bare 8 (.inl rfl)
  rw [hO] at hb
  cases O
  ·simp only [↓rA,rB,Int.reduceEq,Nat.reduceAdd,Nat.reduceEqDiff,tbOA6,gr,g2]
   exact ret_done (ft rfl (by rw [← hb];rfl))
  ·simp only [↓rA,rB,Int.reduceEq,Nat.reduceAdd,Nat.reduceEqDiff,tbOA6,gr,g2]
   exact ret_done (ft rfl (by rw [← hb];rfl))
 by_cases k9:k=9
 ·subst k9
  have hb:=bare 9 (.inr rfl)
  rw [hO] at hb
  cases O
  ·simp only [↓rA,rB,Int.reduceEq,Nat.reduceAdd,Nat.reduceEqDiff,tbOA6,gr,g2]
   exact ret_done (ft rfl (by rw [← hb];rfl))
  ·simp only [↓rA,rB,Int.reduceEq,Nat.reduceAdd,Nat.reduceEqDiff,tbOA6,gr,g2]
   exact ret_done (ft rfl (by rw [← hb];rfl))
 simp only [↓rA,rB,Nat.reduceAdd,Nat.reduceEqDiff,tbOA6,gr,g2,k1,k2,k3,k4,k5,k6,k7,k8,k9]
 exact ret_done (ft (by simp [manyH,k4,k5,k6,k7,k8,k9]) (by simp [okHd,k1,k2,k3,k4,k5,k6,k7,k8,k9]))
end Go.Proofs.YtopfanlkbepemaaGreat
set_option linter.unusedSimpArgs false
set_option maxRecDepth 100000
set_option linter.defProp false
namespace Go.Proofs.YtopfanlkbepemaaGreat
open Go.VL Go.Ar Go.Lo Go.Proofs.YtopfanlkbepemaaGreat
theorem proper_true {a:E} {ins:Bool} (hp:properE a ins=true):decide (a=tt)=decide (a.hd=hdTrue):=by
 by_cases e:a.hd=hdTrue
 ·rw [decide_eq_true e]
  refine decide_eq_true ?_
  obtain⟨h,l⟩:=a
  simp only [E.hd] at e
  subst e
  obtain⟨_,_,p3,_,_⟩:=proper_parts hp
  have:(l.length:Int)=0:=p3
  have:l=[]:=List.length_eq_zero_iff.1 (by omega)
  rw [this]
 ·rw [decide_eq_false e]
  exact decide_eq_false fun h=>e (by rw [h];rfl)
theorem properEs_take {l:List E} {i:Nat} {ins:Bool} (h:i < l.length):properEs (l.take (i+1)) ins=(properEs (l.take i) ins && properE l[i] ins):=by
 rw [List.take_succ_eq_append_getElem h,properEs_append]
 simp [properEs]
theorem properEs_fail {l:List E} {i:Nat} {ins:Bool} (h:i < l.length) (hp:properE l[i] ins=false):properEs l ins=false:=by
 rw [← List.take_append_drop (i+1) l,properEs_append,properEs_take h,hp]
 simp
def tbOB0:=(aI (aI (aI Ty.c154 (aI Ty.c164 Ty.c165)) (aI (aI Ty.c166 Ty.t104) (aI Ty.t231 Ty.t3))) (aI (aI Ty.t4 (aI Ty.t81 Ty.t85)) (aI (aI Ty.t87 Ty.t88) (aI Ty.t9 Ty.t90))))
theorem form_ok:∀ x:E,∀ ins:Bool,Fit x→OkP Tryz.prog 154 [vE x,vbool ins] (vbool (properE x ins)):=by
 have fb:∀ {a b:Bool},a=b→V.lit (.bool a)=vbool b:=fun h=>by rw [h]
 intro x
 induction x using E.ind with
 | h hd l ih =>
 intro ins hf
 have hl:=hf.len
 have hu:=hf.unit
 have ha:=hf.args
 simp only [E.args,E.hd] at hl hu ha
 unfold big at hl
 rw [vE,cE_mk,properE_mk]
 refine Ok.of_ex Ty.mixed Tryz.func154 rfl (by simp [Tryz.ntmps154]) (by kernel_rfl) fun F w0 I0=>?_
 simp only [↓rA,rB]
 refine fun b2 h2=>?_;replace h2:=newb h2;try simp only [Nb] at h2
 simp only [↓rA,rB,Nat.reduceAdd,Nat.reduceEqDiff,tbOB0]
 refine OkF_of _ (nodeR_ok hd l ins hu) ?_
 cases e:(okHd hd ins && decide (hd=wantH hd))
 ·simp only [↓rA,rB,Nat.reduceEqDiff,Tryz.results154]
  exact ret_done (fb (by simp))
 by_cases el:(l.length:Int)=manyH hd.kind
 case neg =>
  simp only [↓rA,rB,Nat.reduceAdd,Nat.reduceEqDiff,tbOB0,Tryz.results154,List.length_map,el]
  exact ret_done (fb (by simp []))
 simp only [↓rA,rB,Nat.reduceAdd,Nat.reduceEqDiff,tbOB0,Tryz.results154,List.length_map,el]
 refine EX_for Ty.mixed (by kernel_rfl) l.length (fun i S=>properEs (l.take i) (ins || decide (hd.kind=5))=true∧S.boxes=[(b2,.c (cH hd (vEs l)))]∧S.rows=[]∧S.σ 1=vbool ins∧S.σ 2=ptr b2∧S.σ 5=vint l.length∧S.σ 7=vint i) ⟨0,?_⟩ (fun i S hi ⟨hp,gb,gr,g1,g2,g5,g7⟩=>?_) (fun S ⟨hp,gb,gr,g1,g2,g5,g7⟩=>?_)
 ·simp only [rB,Nat.reduceEqDiff,el]
  first | done | exact rfl | exact⟨rfl,rfl⟩ | exact⟨rfl,rfl,rfl⟩
 ·have hwi:=wrap_succ (i:=i) (N:=l.length) hi (by omega)
  have hx:=List.getElem_mem hi
  have ht:=properEs_take (ins:=ins || decide (hd.kind=5)) hi
  have hb:=properEs_fail (ins:=ins || decide (hd.kind=5)) hi
  have hc:=ih l[i] hx (ins || decide (hd.kind=5)) (ha _ hx)
  rw [vE,cE_eq] at hc
  cases ins
  ·simp only [Bool.false_or] at hc ht hb hp ⊢
   simp only [↓rA,rB,Nat.reduceAdd,Nat.reduceEqDiff,tbOB0,gb,g1,g2,g5,g7,Int.ofNat_lt,hi,List.length_map,getD_map _ _ _ hi,cE_eq]
   refine CallV_of _ hc.v ?_
   cases q:properE l[i] (decide (hd.kind=5))
   ·simp only [↓rA,rB,gb,gr]
    exact ret_done (fb (by rw [hb q];simp))
   ·simp only [↓rA,rB,Nat.reduceEqDiff,gb,gr,g1,g2,g5,g7,hwi]
    exact⟨0,by rw [ht,hp,q];rfl,rfl⟩
  ·simp only [Bool.true_or] at hc ht hb hp ⊢
   simp only [↓rA,rB,Nat.reduceAdd,Nat.reduceEqDiff,tbOB0,gb,g1,g2,g5,g7,Int.ofNat_lt,hi,List.length_map,getD_map _ _ _ hi,cE_eq]
   refine CallV_of _ hc.v ?_
   cases q:properE l[i] true
   ·simp only [↓rA,rB,gb,gr]
    exact ret_done (fb (by rw [hb q];simp))
   ·simp only [↓rA,rB,Nat.reduceEqDiff,gb,gr,g1,g2,g5,g7,hwi]
    exact⟨0,by rw [ht,hp,q];rfl,rfl⟩
 ·rw [List.take_of_length_le (Nat.le_refl _)] at hp
  rw [hp]
  simp only [Bool.true_and]
  by_cases k5:hd.kind=5
  case neg =>
   simp only [↓rA,rB,Nat.reduceAdd,Nat.reduceEqDiff,tbOB0,gb,gr,g2,g5,g7,Int.ofNat_lt,Nat.lt_irrefl,k5]
   exact ret_done (fb (by unfold countOk;simp [k5]))
  by_cases kc:hd.op=sCount
  case neg =>
   simp only [↓rA,rB,Nat.reduceAdd,Nat.reduceEqDiff,tbOB0,gb,gr,g2,g5,g7,Int.ofNat_lt,Nat.lt_irrefl,k5,kc]
   exact ret_done (fb (by unfold countOk;rw [if_neg kc]))
  have l2:l.length=2:=by
   rw [k5] at el
   have:(l.length:Int)=2:=el
   omega
  match l,l2,hp,ha with
  | [a,c],_,hp,ha =>
  have hpa:properE a (ins || decide (hd.kind=5))=true:=properEs_all _ _ |>.1 hp a List.mem_cons_self
  have hs:=sameExprR_ok a (ha a List.mem_cons_self) tt
  rw [proper_true hpa] at hs
  have ht:=true_ok
  rw [vE,cE_eq] at hs
  rw [vE,cE_mk] at ht
  have hco:countOk hd [a,c]=decide (a.hd=hdTrue):=by unfold countOk;rw [if_pos kc,if_pos k5]
  rw [hco]
  rw [vE,cE_mk] at hs
  simp only [↓rA,rB,Int.reduceToNat,Nat.reduceAdd,Nat.reduceEqDiff,tbOB0,gb,g2,g5,g7,Int.ofNat_lt,Nat.lt_irrefl,k5,kc,cE_eq a]
  refine CallV_of _ ht.v ?_
  simp only [↓rA,rB,Nat.reduceEqDiff,tbOB0]
  refine CallV_of _ hs.v ?_
  simp only [↓rA,rB,Nat.reduceEqDiff]
  exact ret_done rfl
def tbOB1:=(aI (aI (aI Ty.c152 (aI Ty.c153 Ty.c154)) (aI Ty.t231 (aI Ty.t26 Ty.t3))) (aI (aI Ty.t4 (aI Ty.t81 Ty.t85)) (aI (aI Ty.t87 Ty.t88) (aI Ty.t9 Ty.t90))))
theorem shapeR_ok (x:E) (hf:Fit x) (hb:depthE x≤big):OkP Tryz.prog 135 [vE x] (vint (shapeC x)):=by
 have fi:∀ {a b:Int},a=b→V.lit (.int .i64 a)=vint b:=fun h=>by rw [h]
 have hs:=sizeR_ok x hf
 have hd:=depthR_ok x hf hb
 have hp:=form_ok x false hf
 rw [vE,cE_eq] at hs hd hp ⊢
 refine Ok.of_ex Ty.mixed Tryz.func135 rfl (by simp [Tryz.ntmps135]) (by kernel_rfl) fun F w0 I0=>?_
 simp only [↓rA,rB]
 refine fun b1 h1=>?_;replace h1:=newb h1;try simp only [Nb] at h1
 simp only [↓rA,rB,Nat.reduceAdd,Nat.reduceEqDiff,tbOB1]
 refine OkF_of _ hs ?_
 by_cases e1:64 < IntKind.i64.wrap (sizeE x:Int)
 ·simp only [↓rA,rB,Nat.reduceEqDiff,Tryz.results135,e1]
  exact ret_done (fi (by rw [shapeC,if_pos e1]))
 simp only [↓rA,rB,Nat.reduceAdd,Nat.reduceEqDiff,tbOB1,e1]
 refine OkF_of _ hd ?_
 by_cases e2:12 < depthE x
 ·have e2':(12:Int) < depthE x:=by omega
  simp only [↓rA,rB,Nat.reduceEqDiff,Tryz.results135,e2']
  exact ret_done (fi (by rw [shapeC,if_neg e1,if_pos e2]))
 have e2':¬ (12:Int) < depthE x:=by omega
 simp only [↓rA,rB,Nat.reduceAdd,Nat.reduceEqDiff,tbOB1,e2']
 refine OkF_of _ hp ?_
 cases e3:properE x false
 ·simp only [↓rA,rB,Tryz.results135]
  exact ret_done (fi (by rw [shapeC,if_neg e1,if_neg e2,if_neg (by rw [e3];decide)]))
 ·simp only [↓rA,rB,Tryz.results135]
  exact ret_done (fi (by rw [shapeC,if_neg e1,if_neg e2,if_pos e3]))
end Go.Proofs.YtopfanlkbepemaaGreat
set_option linter.unusedSimpArgs false
set_option maxRecDepth 100000
set_option linter.defProp false
namespace Go.Lo
open Go.VL Go.Ar
abbrev vTyp (t:Typ):V:=.agg [vint t.kind,vFacs t.unit,vstr t.of]
abbrev typ0:Typ:=⟨0,[],es0⟩
abbrev tab0:Tab:=⟨es0,es0,[],0⟩
abbrev ftr0:Ftr:=⟨es0,es0,typ0,exp0,0⟩
structure Chg where
 kind:Int
 table:Tab
 feature:Ftr
 name:Str
noncomputable instance:DecidableEq Chg:=fun a b=>Classical.propDecidable (a=b)
end Go.Lo
namespace Go.Proofs.YtopfanlkbepemaaGreat
open Go.VL Go.Ar Go.Lo Go.Proofs.YtopfanlkbepemaaGreat
def FitU (t:Typ):Prop:=t.unit.length≤big
def FitT (t:Tab):Prop:=t.fields.length≤big∧∀ f ∈ t.fields,FitU f.typ
def FitF (f:Ftr):Prop:=FitU f.typ∧Fit f.body
def tbCC0:=(aI (aI Ty.t231 Ty.t3) (aI Ty.t4 (aI Ty.t81 Ty.t9)))
theorem sameUnit_ok (u v:List Fac) (hu:u.length≤big):OkP Tryz.prog 146 [vFacs u,vFacs v] (vbool (decide (u=v))):=by
 have fb:∀ {a b:Bool},a=b→V.lit (.bool a)=vbool b:=fun h=>by rw [h]
 unfold big at hu
 refine Ok.of_ex Ty.mixed Tryz.func146 rfl (by simp [Tryz.ntmps146]) (by kernel_rfl) fun F w0 I0=>?_
 by_cases hl:¬ u.length=v.length
 ·have hl':¬ (u.length:Int)=v.length:=by omega
  simp only [↓rA,rB,Nat.reduceEqDiff,reduceCtorEq,tbCC0,Tryz.results146,List.length_map,hl']
  exact ret_done (fb (decide_eq_false fun e=>hl (by rw [e])).symm)
 have hl':(u.length:Int)=v.length:=by omega
 have hl:u.length=v.length:=by omega
 simp only [↓rA,rB,Nat.reduceEqDiff,reduceCtorEq,tbCC0,Tryz.results146,List.length_map,hl']
 refine EX_for Ty.mixed (by kernel_rfl) v.length (fun i S=>u.take i=v.take i∧S.boxes=[]∧S.rows=[]∧S.σ 0=vFacs u∧S.σ 1=vFacs v∧S.σ 5=vint i) ⟨0,?_⟩ (fun i S hi ⟨hf,gb,gr,g0,g1,g5⟩=>?_) (fun S ⟨hf,gb,gr,g0,g1,g5⟩=>?_)
 ·simp only [rB,Nat.reduceEqDiff,reduceCtorEq]
  try exact rfl
 ·have hwi:=wrap_succ (i:=i) (N:=v.length) hi (by omega)
  have hiu:i < u.length:=by omega
  simp only [↓rA,rB,Nat.reduceAdd,Nat.reduceEqDiff,reduceCtorEq,tbCC0,g0,g1,g5,hl',Int.ofNat_lt,hi,List.length_map,getD_map _ _ _ hi,getD_map _ _ _ hiu]
  refine onCond_splitb (fun hc=>?_) (fun hc=>?_)
  ·simp only [↓rA,rB,gb,gr]
   refine ret_done (fb (decide_eq_false fun e=>?_).symm)
   subst e
   simp at hc
  ·simp only [↓rA,rB,Nat.reduceEqDiff,reduceCtorEq,gb,gr,g0,g1,g5,hwi]
   refine⟨0,?_⟩
   rw [List.take_succ_eq_append_getElem hi,List.take_succ_eq_append_getElem hiu,hf]
   have:u[i]=v[i]:=by
    rw [fac_ext]
    simpa using hc
   rw [this]
 ·simp only [↓rA,rB,Nat.reduceEqDiff,reduceCtorEq,tbCC0,gb,gr,g0,g5,hl',List.length_map,Int.ofNat_lt,Nat.lt_irrefl]
  rw [List.take_of_length_le (Nat.le_refl _),List.take_of_length_le (by omega)] at hf
  exact ret_done (fb (decide_eq_true hf).symm)
def tbCC1:=(aI (aI Ty.c146 (aI Ty.t231 Ty.t3)) (aI (aI Ty.t4 Ty.t81) (aI Ty.t83 Ty.t9)))
theorem sameType_ok (a b:Typ) (ha:FitU a):OkP Tryz.prog 122 [vTyp a,vTyp b] (vbool (decide (a=b))):=by
 have fb:∀ {a b:Bool},a=b→V.lit (.bool a)=vbool b:=fun h=>by rw [h]
 obtain⟨k,u,f⟩:=a
 obtain⟨k',u',f'⟩:=b
 have no:∀ {p:Prop},¬ p→((⟨k,u,f⟩:Typ)=⟨k',u',f'⟩→p)→decide ((⟨k,u,f⟩:Typ)=⟨k',u',f'⟩)=false:=fun h h'=>decide_eq_false fun e=>h (h' e)
 refine Ok.of_ex Ty.mixed Tryz.func122 rfl (by simp [Tryz.ntmps122]) (by kernel_rfl) fun F w0 I0=>?_
 simp only [↓rA,rB]
 refine fun b2 h2=>?_;replace h2:=newb h2;try simp only [Nb] at h2
 simp only [↓rA,rB,Nat.reduceEqDiff]
 refine fun b3 h3=>?_;replace h3:=newb h3;try simp only [Nb] at h3
 by_cases e0:k=k'
 case neg =>
  simp only [↓rA,rB,Nat.reduceAdd,Nat.reduceEqDiff,tbCC1,Tryz.results122,h3,e0]
  exact ret_done (fb (no e0 fun e=>by injection e).symm)
 subst e0
 by_cases e1:f=f'
 case neg =>
  simp only [↓rA,rB,Nat.reduceAdd,Nat.reduceEqDiff,tbCC1,Tryz.results122,h3,e1]
  exact ret_done (fb (no e1 fun e=>by injection e).symm)
 subst e1
 simp only [↓rA,rB,Nat.reduceAdd,Nat.reduceEqDiff,tbCC1,h3]
 refine OkF_of _ (sameUnit_ok u u' ha) ?_
 simp only [↓rA,rB,Nat.reduceEqDiff,Tryz.results122]
 exact ret_done (fb (by by_cases e:u=u' <;> simp [e]))
def tbCC2:=(aI (aI (aI Ty.c123 Ty.c146) (aI Ty.t231 (aI Ty.t3 Ty.t4))) (aI (aI Ty.t81 (aI Ty.t85 Ty.t87)) (aI Ty.t88 (aI Ty.t9 Ty.t90))))
theorem sameExpr12_ok:∀ a:E,Fit a→∀ b:E,OkP Tryz.prog 123 [vE a,vE b] (vbool (decide (a=b))):=by
 have fb:∀ {a b:Bool},a=b→V.lit (.bool a)=vbool b:=fun h=>by rw [h]
 intro x
 induction x using E.ind with
 | h a l ih =>
 intro hf y
 obtain⟨b,m⟩:=y
 have hu:=hf.unit
 have hl:=hf.len
 have ha:=hf.args
 simp only [E.args,E.hd,big] at hl ha hu
 rw [vE,vE,cE_mk,cE_mk]
 have no:∀ {p:Prop},¬ p→(a=b→p)→decide (E.mk a l=E.mk b m)=false:=fun h h'=>decide_eq_false fun e=>h (h' (by injection e))
 have no':l ≠ m→decide (E.mk a l=E.mk b m)=false:=fun h=>decide_eq_false fun e=>h (by injection e)
 refine Ok.of_ex Ty.mixed Tryz.func123 rfl (by simp [Tryz.ntmps123]) (by kernel_rfl) fun F w0 I0=>?_
 simp only [↓rA,rB]
 refine fun b1 h1=>?_;replace h1:=newb h1;try simp only [Nb] at h1
 simp only [↓rA,rB,Nat.reduceEqDiff]
 refine fun b2 h2=>?_;replace h2:=newb h2;try simp only [Nb] at h2
 have v4:=valEq a.val b.val
 have v6:=winEq a b
 by_cases e0:a.kind=b.kind
 case neg =>
  simp only [↓rA,rB,Nat.reduceAdd,Nat.reduceEqDiff,tbCC2,Tryz.results123,h2,e0]
  exact ret_done (fb (no e0 fun e=>by rw [e]).symm)
 by_cases e1:a.op=b.op
 case neg =>
  simp only [↓rA,rB,Nat.reduceAdd,Nat.reduceEqDiff,tbCC2,Tryz.results123,h2,e0,e1]
  exact ret_done (fb (no e1 fun e=>by rw [e]).symm)
 by_cases e2:a.name=b.name
 case neg =>
  simp only [↓rA,rB,Nat.reduceAdd,Nat.reduceEqDiff,tbCC2,Tryz.results123,h2,e0,e1,e2]
  exact ret_done (fb (no e2 fun e=>by rw [e]).symm)
 by_cases e3:a.table=b.table
 case neg =>
  simp only [↓rA,rB,Nat.reduceAdd,Nat.reduceEqDiff,tbCC2,Tryz.results123,h2,e0,e1,e2,e3]
  exact ret_done (fb (no e3 fun e=>by rw [e]).symm)
 by_cases e4:a.val=b.val
 case neg =>
  simp only [↓rA,rB,Nat.reduceAdd,Nat.reduceEqDiff,Nat.reduceLeDiff,tbCC2,Tryz.results123,h2,v4,e0,e1,e2,e3,e4]
  exact ret_done (fb (no e4 fun e=>by rw [e]).symm)
 by_cases e5:a.param=b.param
 case neg =>
  simp only [↓rA,rB,Nat.reduceAdd,Nat.reduceEqDiff,Nat.reduceLeDiff,tbCC2,Tryz.results123,h2,e0,e1,e2,e3,e4,e5]
  exact ret_done (fb (no e5 fun e=>by rw [e]).symm)
 by_cases e6:a.wk=b.wk∧a.ws=b.ws
 case neg =>
  simp only [↓rA,rB,Nat.reduceAdd,Nat.reduceEqDiff,Nat.reduceLeDiff,tbCC2,Tryz.results123,h2,v6,e0,e1,e2,e3,e4,e5,e6]
  exact ret_done (fb (no e6 fun e=>by rw [e];exact⟨rfl,rfl⟩).symm)
 by_cases he:¬ l.length=m.length
 ·have he':¬ (l.length:Int)=m.length:=by omega
  simp only [↓rA,rB,Nat.reduceAdd,Nat.reduceEqDiff,Nat.reduceLeDiff,tbCC2,Tryz.results123,h2,e0,e1,e2,e3,e4,e5,e6,List.length_map,he']
  exact ret_done (fb (no' fun e=>he (by rw [e])).symm)
 have he':(l.length:Int)=m.length:=by omega
 simp only [↓rA,rB,Nat.reduceAdd,Nat.reduceEqDiff,Nat.reduceLeDiff,tbCC2,h2,e0,e1,e2,e3,e4,e5,e6,List.length_map,he']
 refine OkF_of _ (sameUnit_ok a.unit b.unit hu) ?_
 by_cases e7:a.unit=b.unit
 case neg =>
  simp only [↓rA,rB,Nat.reduceEqDiff,Tryz.results123,decide_eq_false e7]
  exact ret_done (fb (no e7 fun e=>by rw [e]).symm)
 have eh:a=b:=by rw [hd_ext];exact⟨e0,e1,e2,e3,by rw [e4];exact⟨rfl,rfl,rfl⟩,e7,e5,e6.1,e6.2⟩
 simp only [↓rA,rB,Nat.reduceEqDiff,Tryz.results123,decide_eq_true e7]
 refine EX_for Ty.mixed (by kernel_rfl) m.length (fun i S=>l.take i=m.take i∧S.boxes=[(b2,.c (cH b (vEs m))),(b1,.c (cH a (vEs l)))]∧S.rows=[]∧S.σ 2=ptr b1∧S.σ 3=ptr b2∧S.σ 5=vint i) ⟨0,?_⟩ (fun i S hi ⟨hq,gb,gr,g2,g3,g5⟩=>?_) (fun S ⟨hq,gb,gr,g2,g3,g5⟩=>?_)
 ·simp only [rB,Nat.reduceEqDiff]
  try exact rfl
 ·have hwi:=wrap_succ (i:=i) (N:=m.length) hi (by omega)
  have hil:i < l.length:=by omega
  simp only [↓rA,rB,Nat.reduceAdd,Nat.reduceEqDiff,tbCC2,gb,g2,g3,g5,h2,he',Int.ofNat_lt,hi,List.length_map,getD_map _ _ _ hi,getD_map _ _ _ hil,cE_eq]
  have hc:=ih l[i] (List.getElem_mem hil) (ha _ (List.getElem_mem hil)) m[i]
  simp only [vE,cE_eq] at hc
  refine CallV_of _ hc.v ?_
  by_cases e:l[i]=m[i]
  ·simp only [↓rA,rB,Nat.reduceEqDiff,gb,gr,g2,g3,g5,hwi,decide_eq_true e]
   exact⟨0,by rw [List.take_succ_eq_append_getElem hi,List.take_succ_eq_append_getElem hil,hq,e],rfl⟩
  ·simp only [↓rA,rB,gb,gr,decide_eq_false e]
   refine ret_done (fb (no' fun e'=>e ?_).symm)
   subst e'
   rfl
 ·simp only [↓rA,rB,Nat.reduceAdd,Nat.reduceEqDiff,tbCC2,gb,gr,g2,g5,h2,he',List.length_map,Int.ofNat_lt,Nat.lt_irrefl]
  rw [List.take_of_length_le (Nat.le_refl _),List.take_of_length_le (by omega)] at hq
  exact ret_done (fb (decide_eq_true (by rw [eh,hq])).symm)
def tbCC3:=(aI (aI (aI Ty.c122 Ty.t156) (aI Ty.t231 (aI Ty.t3 Ty.t4))) (aI (aI Ty.t78 Ty.t80) (aI Ty.t81 (aI Ty.t83 Ty.t9))))
theorem sameTable_ok (a b:Tab) (hf:FitT a):OkP Tryz.prog 89 [.agg (cTab a),.agg (cTab b)] (vbool (decide (a=b))):=by
 have fb:∀ {a b:Bool},a=b→V.lit (.bool a)=vbool b:=fun h=>by rw [h]
 obtain⟨n,en,l,k⟩:=a
 obtain⟨n',en',m,k'⟩:=b
 obtain⟨hl,hfu⟩:=hf
 have hl:l.length≤1099511627776:=hl
 have no:∀ {p:Prop},¬ p→((⟨n,en,l,k⟩:Tab)=⟨n',en',m,k'⟩→p)→decide ((⟨n,en,l,k⟩:Tab)=⟨n',en',m,k'⟩)=false:=fun h h'=>decide_eq_false fun e=>h (h' e)
 refine Ok.of_ex Ty.mixed Tryz.func89 rfl (by simp [Tryz.ntmps89]) (by kernel_rfl) fun F w0 I0=>?_
 simp only [↓rA,rB]
 refine fun b1 h1=>?_;replace h1:=newb h1;try simp only [Nb] at h1
 simp only [↓rA,rB,Nat.reduceEqDiff]
 refine fun b2 h2=>?_;replace h2:=newb h2;try simp only [Nb] at h2
 by_cases e0:n=n'
 case neg =>
  simp only [↓rA,rB,Nat.reduceAdd,Nat.reduceEqDiff,tbCC3,Tryz.results89,h2,e0]
  exact ret_done (fb (no e0 fun e=>by injection e).symm)
 subst e0
 by_cases e1:en=en'
 case neg =>
  simp only [↓rA,rB,Nat.reduceAdd,Nat.reduceEqDiff,tbCC3,Tryz.results89,h2,e1]
  exact ret_done (fb (no e1 fun e=>by injection e).symm)
 subst e1
 by_cases e2:k=k'
 case neg =>
  simp only [↓rA,rB,Nat.reduceAdd,Nat.reduceEqDiff,tbCC3,Tryz.results89,h2,e2]
  exact ret_done (fb (no e2 fun e=>by injection e).symm)
 subst e2
 by_cases he:l.length=m.length
 case neg =>
  have he':¬ (l.length:Int)=m.length:=by omega
  simp only [↓rA,rB,Nat.reduceAdd,Nat.reduceEqDiff,tbCC3,Tryz.results89,h2,List.length_map,he']
  exact ret_done (fb (no he fun e=>by injection e with _ _ e _;rw [e]).symm)
 have he':(l.length:Int)=m.length:=by omega
 simp only [↓rA,rB,Nat.reduceAdd,Nat.reduceEqDiff,tbCC3,Tryz.results89,h2,List.length_map,he']
 refine EX_for Ty.mixed (by kernel_rfl) m.length (fun i S=>l.take i=m.take i∧S.boxes=[(b2,.c (cTab ⟨n,en,m,k⟩)),(b1,.c (cTab ⟨n,en,l,k⟩))]∧S.rows=[]∧S.σ 2=ptr b1∧S.σ 3=ptr b2∧S.σ 5=vint i) ⟨0,?_⟩ (fun i S hi ⟨hq,gb,gr,g2,g3,g5⟩=>?_) (fun S ⟨hq,gb,gr,g2,g3,g5⟩=>?_)
 ·simp only [rB,Nat.reduceEqDiff]
  try exact rfl
 ·have hwi:=wrap_succ (i:=i) (N:=m.length) hi (by omega)
  have hil:i < l.length:=by omega
  have hc:=sameType_ok l[i].typ m[i].typ (hfu _ (List.getElem_mem hil))
  have stop:¬ l[i]=m[i]→decide ((⟨n,en,l,k⟩:Tab)=⟨n,en,m,k⟩)=false:=fun h=>no h fun e=>by
   injection e with _ _ e _
   subst e
   rfl
  simp only [↓rA,rB,Nat.reduceAdd,Nat.reduceEqDiff,tbCC3,gb,g2,g3,g5,h2,he',Int.ofNat_lt,hi,List.length_map,getD_map _ _ _ hi,getD_map _ _ _ hil]
  refine CallV_of _ hc.v ?_
  by_cases e:l[i].typ=m[i].typ
  case neg =>
   simp only [↓rA,rB,Nat.reduceEqDiff,gb,gr,decide_eq_false e]
   exact ret_done (fb (stop fun h=>e (by rw [h])).symm)
  by_cases e':l[i].name=m[i].name
  case neg =>
   simp only [↓rA,rB,Nat.reduceAdd,Nat.reduceEqDiff,tbCC3,gb,gr,g2,g3,g5,h2,decide_eq_true e,Int.ofNat_lt,hi,hil,List.length_map,getD_map _ _ _ hi,getD_map _ _ _ hil,e']
   exact ret_done (fb (stop fun h=>e' (by rw [h])).symm)
  simp only [↓rA,rB,Nat.reduceAdd,Nat.reduceEqDiff,tbCC3,gb,gr,g2,g3,g5,h2,decide_eq_true e,Int.ofNat_lt,hi,hil,List.length_map,getD_map _ _ _ hi,getD_map _ _ _ hil,e',hwi]
  have ee:l[i]=m[i]:=by
   generalize l[i]=x at *
   generalize m[i]=y at *
   cases x;cases y;simp only at e e';rw [e,e']
  exact⟨0,by rw [List.take_succ_eq_append_getElem hi,List.take_succ_eq_append_getElem hil,hq,ee],rfl⟩
 ·simp only [↓rA,rB,Nat.reduceAdd,Nat.reduceEqDiff,tbCC3,gb,gr,g2,g5,h2,he',List.length_map,Int.ofNat_lt,Nat.lt_irrefl]
  rw [List.take_of_length_le (Nat.le_refl _),List.take_of_length_le (by omega)] at hq
  exact ret_done (fb (decide_eq_true (by rw [hq])).symm)
def tbCC4:=(aI (aI (aI Ty.c122 (aI Ty.c123 Ty.t231)) (aI Ty.t3 (aI Ty.t4 Ty.t81))) (aI (aI Ty.t83 (aI Ty.t85 Ty.t87)) (aI (aI Ty.t88 Ty.t9) (aI Ty.t90 Ty.t92))))
theorem sameFeature_ok (a b:Ftr) (hf:FitF a):OkP Tryz.prog 90 [.agg (cFtr a),.agg (cFtr b)] (vbool (decide (a=b))):=by
 have fb:∀ {a b:Bool},a=b→V.lit (.bool a)=vbool b:=fun h=>by rw [h]
 have ht:=sameType_ok a.typ b.typ hf.1
 have hx:=sameExpr12_ok a.body hf.2 b.body
 simp only [vE,cE_eq] at hx
 simp only [cFtr_eq]
 refine Ok.of_ex Ty.mixed Tryz.func90 rfl (by simp [Tryz.ntmps90]) (by kernel_rfl) fun F w0 I0=>?_
 simp only [↓rA,rB]
 refine fun b1 h1=>?_;replace h1:=newb h1;try simp only [Nb] at h1
 simp only [↓rA,rB,Nat.reduceEqDiff]
 refine fun b2 h2=>?_;replace h2:=newb h2;try simp only [Nb] at h2
 simp only [↓rA,rB,Nat.reduceAdd,Nat.reduceEqDiff,Nat.reduceLeDiff,tbCC4,h2]
 refine OkF_of _ ht ?_
 simp only [↓rA,rB,Nat.reduceAdd,Nat.reduceEqDiff,Nat.reduceLeDiff,tbCC4,h2]
 refine OkF_of _ hx ?_
 by_cases e0:a.typ=b.typ
 case neg =>
  simp only [↓rA,rB,Nat.reduceEqDiff,Tryz.results90,decide_eq_false e0]
  exact ret_done (fb (decide_eq_false fun e=>e0 (by rw [e])).symm)
 by_cases e1:a.body=b.body
 case neg =>
  simp only [↓rA,rB,Nat.reduceEqDiff,Tryz.results90,decide_eq_true e0,decide_eq_false e1]
  exact ret_done (fb (decide_eq_false fun e=>e1 (by rw [e])).symm)
 by_cases e2:a.name=b.name
 case neg =>
  simp only [↓rA,rB,Nat.reduceAdd,Nat.reduceEqDiff,tbCC4,Tryz.results90,h2,decide_eq_true e0,decide_eq_true e1,e2]
  exact ret_done (fb (decide_eq_false fun e=>e2 (by rw [e])).symm)
 by_cases e3:a.entity=b.entity
 case neg =>
  simp only [↓rA,rB,Nat.reduceAdd,Nat.reduceEqDiff,tbCC4,Tryz.results90,h2,decide_eq_true e0,decide_eq_true e1,e2,e3]
  exact ret_done (fb (decide_eq_false fun e=>e3 (by rw [e])).symm)
 by_cases e4:a.version=b.version
 case neg =>
  simp only [↓rA,rB,Nat.reduceAdd,Nat.reduceEqDiff,tbCC4,Tryz.results90,h2,decide_eq_true e0,decide_eq_true e1,e2,e3,e4]
  exact ret_done (fb (decide_eq_false fun e=>e4 (by rw [e])).symm)
 simp only [↓rA,rB,Nat.reduceAdd,Nat.reduceEqDiff,tbCC4,Tryz.results90,h2,decide_eq_true e0,decide_eq_true e1,e2,e3,e4]
 refine ret_done (fb (decide_eq_true ?_).symm)
 cases a;cases b
 simp only at e0 e1 e2 e3 e4
 rw [e0,e1,e2,e3,e4]
end Go.Proofs.YtopfanlkbepemaaGreat
set_option linter.unusedSimpArgs false
set_option maxRecDepth 100000
set_option linter.defProp false
namespace Go.Lo
open Go.VL Go.Ar
structure Fct where
 src:Str
 seq:Int
 kind:Int
 ref:Int
 table:Str
 key:Str
 event:Int
 fields:List Val
 deriving DecidableEq
structure Ers where
 kind:Int
 entity:Str
 key:Str
 src:Str
 seq:Int
 deriving DecidableEq
structure Etr where
 no:Int
 tick:Int
 kind:Int
 fact:Fct
 erasure:Ers
 change:Chg
abbrev cFct (f:Fct):List V:=[vstr f.src,vint f.seq,vint f.kind,vint f.ref,vstr f.table,vstr f.key,vint f.event,.list none 3 (f.fields.map cVal)]
abbrev cErs (e:Ers):List V:=[vint e.kind,vstr e.entity,vstr e.key,vstr e.src,vint e.seq]
abbrev cG (c:Chg) (h:Hd) (a:V):List V:=vint c.kind::vstr c.table.name::vstr c.table.entity::.list none 4 (c.table.fields.map cFld)::vint c.table.keep::(cF c.feature h a++[vstr c.name])
def cChange (c:Chg):List V:=cG c c.feature.body.hd (vEs c.feature.body.args)
theorem cChange_eq (c:Chg):cChange c=cG c c.feature.body.hd (vEs c.feature.body.args):=rfl
def cEtr (e:Etr):List V:=vint e.no::vint e.tick::vint e.kind::(cFct e.fact++(cErs e.erasure++cChange e.change))
end Go.Lo
namespace Go.Proofs.YtopfanlkbepemaaGreat
open Go.VL Go.Ar Go.Lo Go.Proofs.YtopfanlkbepemaaGreat
abbrev OkB (P:Program) (f:FuncId) (zs:List V):Prop:=Ok P f zs [] fun v bs rs=>(∃ b:Bool,v=vbool b)∧bs=[]∧rs=[]
abbrev OkI (P:Program) (f:FuncId) (zs:List V):Prop:=Ok P f zs [] fun v bs rs=>(∃ n:Int,v=vint n)∧bs=[]∧rs=[]
def tbCD0:=(aI (aI Ty.t3 Ty.t4) (aI Ty.t5 Ty.t9))
theorem key15_ok (s:Str) (hs:s.size≤1099511627776):OkB Tryz.prog 67 [vstr s]:=by
 refine Ok.of_ex Ty.mixed Tryz.func67 rfl (by simp [Tryz.ntmps67]) (by kernel_rfl) fun F w0 I0=>?_
 simp only [↓rA,rB,Tryz.results67]
 refine EX_for Ty.mixed (by kernel_rfl) s.size (fun i S=>S.boxes=[]∧S.rows=[]∧S.σ 0=vstr s∧S.σ 3=vint i) ⟨0,?_⟩ (fun i S hi ⟨gb,gr,g0,g3⟩=>?_) (fun S ⟨gb,gr,g0,g3⟩=>?_)
 ·simp only [rB,reduceCtorEq]
  try exact rfl
 ·have hwi:=wrap_succ (i:=i) (N:=s.size) hi (by omega)
  simp only [↓rA,rB,Nat.reduceEqDiff,reduceCtorEq,tbCD0,g0,g3,Int.ofNat_lt,hi]
  generalize s.data.toList.getD i 0=c
  repeat' (first
   | exact⟨_,[],[],Le.refl _,List.nil_sublist _,List.nil_sublist _,⟨_,rfl⟩,rfl,rfl⟩
   | exact⟨0,rfl⟩
   | exact⟨0,trivial⟩
   | (refine onGuard_splitb (fun hc=>?_) (fun hc=>?_) <;> simp only [↓rA,rB,Int.reduceEq,Int.reduceLE,Int.reduceLT,Int.reduceToNat,Nat.reduceAdd,Nat.reduceEqDiff,Nat.reduceLT,Nat.reduceLeDiff,Nat.reduceMul,Nat.reduceSub,reduceCtorEq,tbCD0,Tryz.results67,gb,gr,g0,g3,Int.ofNat_lt,hi,hwi,hc])
   | (refine onGuard_splitf (fun hc=>?_) (fun hc=>?_) <;> simp only [↓rA,rB,Nat.reduceEqDiff,reduceCtorEq,tbCD0,gb,gr,g0,g3,Int.ofNat_lt,hi,hc])
   | (refine onCond_splitb (fun hc=>?_) (fun hc=>?_) <;> simp only [↓rA,rB,Nat.reduceEqDiff,reduceCtorEq,gb,gr,g0,g3,hwi,hc]))
 ·simp only [↓rA,rB,Nat.reduceEqDiff,reduceCtorEq,tbCD0,g0,g3,Int.ofNat_lt,Nat.lt_irrefl]
  repeat' (first
   | exact⟨_,[],[],Le.refl _,List.nil_sublist _,List.nil_sublist _,⟨_,rfl⟩,rfl,rfl⟩
   | (refine onGuard_splitb (fun hc=>?_) (fun hc=>?_) <;> simp only [↓rA,rB,Nat.reduceEqDiff,reduceCtorEq,tbCD0,gb,gr,g0,hc]))
def tbCD1:=(aI (aI Ty.t3 (aI Ty.t4 Ty.t40)) (aI (aI Ty.t41 Ty.t75) (aI Ty.t85 Ty.t9)))
theorem noFact_ok (f:Fct):OkB Tryz.prog 61 [.agg (cFct f)]:=by
 refine Ok.of_ex Ty.mixed Tryz.func61 rfl (by simp [Tryz.ntmps61]) (by kernel_rfl) fun F w0 I0=>?_
 simp only [↓rA,rB]
 refine fun b1 h1=>?_;replace h1:=newb h1;try simp only [Nb] at h1
 simp only [↓rA,rB,Nat.reduceAdd,Nat.reduceEqDiff,Nat.reduceLeDiff,tbCD1]
 repeat' (first
  | exact⟨_,[],[],Le.refl _,List.nil_sublist _,List.nil_sublist _,⟨_,rfl⟩,rfl,rfl⟩
  | (refine onGuard_splitb (fun hc=>?_) (fun hc=>?_) <;> simp only [↓rA,rB,Nat.reduceAdd,Nat.reduceEqDiff,tbCD1,Tryz.results61,List.length_map,hc]))
def tbCD2:=(aI (aI Ty.c66 (aI Ty.c67 Ty.t3)) (aI (aI Ty.t4 Ty.t40) (aI Ty.t77 Ty.t9)))
theorem erasure_ok (e:Ers) (hk:e.key.size≤1099511627776):OkB Tryz.prog 38 [.agg (cErs e)]:=by
 refine Ok.of_ex Ty.mixed Tryz.func38 rfl (by simp [Tryz.ntmps38]) (by kernel_rfl) fun F w0 I0=>?_
 simp only [↓rA,rB]
 refine fun b1 h1=>?_;replace h1:=newb h1;try simp only [Nb] at h1
 by_cases e1:e.kind=1
 ·simp only [↓rA,rB,Nat.reduceAdd,Nat.reduceEqDiff,tbCD2,e1]
  refine OkF_of _ (nameR_ok e.entity) ?_
  simp only [↓rA,rB,Nat.reduceAdd,Nat.reduceEqDiff,tbCD2]
  refine OkF_with [] _ (List.Perm.refl _) (key15_ok e.key hk) ?_
  rintro v bs rs ⟨⟨b,rfl⟩,rfl,rfl⟩
  cases nameB e.entity <;> cases b <;> simp only [↓rA,rB,Nat.reduceAdd,Nat.reduceEqDiff,tbCD2,Tryz.results38] <;>
  repeat' (first
   | exact⟨_,[],[],Le.refl _,List.nil_sublist _,List.nil_sublist _,⟨_,rfl⟩,rfl,rfl⟩
   | (refine onGuard_splitb (fun hc=>?_) (fun hc=>?_) <;> simp only [↓rA,rB,Int.reduceEq,Int.reduceLE,Int.reduceLT,Int.reduceToNat,Nat.reduceAdd,Nat.reduceEqDiff,Nat.reduceLT,Nat.reduceLeDiff,Nat.reduceMul,Nat.reduceSub,reduceCtorEq,tbCD2,Tryz.results38,h1,hc]))
 simp only [↓rA,rB,Nat.reduceAdd,Nat.reduceEqDiff,tbCD2,e1]
 refine OkF_of _ (nameR_ok e.src) ?_
 cases nameB e.src <;> simp only [↓rA,rB,Nat.reduceAdd,Nat.reduceEqDiff,tbCD2] <;>
 repeat' (first
  | exact⟨_,[],[],Le.refl _,List.nil_sublist _,List.nil_sublist _,⟨_,rfl⟩,rfl,rfl⟩
  | (refine onGuard_splitb (fun hc=>?_) (fun hc=>?_) <;> simp only [↓rA,rB,Nat.reduceAdd,Nat.reduceEqDiff,tbCD2,Tryz.results38,hc]))
theorem leTab0:Le (.agg [vstr es0,vstr es0,nilS,vint 0]) (.agg (cTab tab0)):=leAgg (.cons (Le.refl _) (.cons (Le.refl _) (.cons (Le.nil 4) (.cons (Le.refl _) .nil))))
abbrev zFt:List V:=[vstr es0,vstr es0,vint 0,nilS,vstr es0,vint 0,vstr es0,vstr es0,vstr es0,vint 0,vint 0,vstr es0,nilS,vint 0,vint 0,vint 0,nilS,vint 0]
theorem leFtr0:Le (.agg zFt) (.agg (cFtr ftr0)) :=
 leAgg (.cons (Le.refl _) (.cons (Le.refl _) (.cons (Le.refl _) (.cons (Le.nil 2) (.cons (Le.refl _) (.cons (Le.refl _) (.cons (Le.refl _) (.cons (Le.refl _) (.cons (Le.refl _) (.cons (Le.refl _) (.cons (Le.refl _) (.cons (Le.refl _) (.cons (Le.nil 2) (.cons (Le.refl _) (.cons (Le.refl _) (.cons (Le.refl _) (.cons (Le.nil 12) (.cons (Le.refl _) .nil))))))))))))))))))
def FitC (c:Chg):Prop:=FitT c.table∧FitF c.feature
def tbCD3:=(aI (aI (aI (aI Ty.c89 Ty.c90) (aI Ty.t156 Ty.t231)) (aI (aI Ty.t3 Ty.t4) (aI Ty.t78 Ty.t80))) (aI (aI (aI Ty.t81 Ty.t83) (aI Ty.t85 Ty.t87)) (aI (aI Ty.t88 Ty.t9) (aI Ty.t90 (aI Ty.t92 Ty.t94)))))
theorem noChange_ok (c:Chg) (hf:FitC c):OkB Tryz.prog 62 [.agg (cChange c)]:=by
 have ht:=Ok.le (.cons (Le.refl _) (.cons leTab0 .nil)) (sameTable_ok c.table tab0 hf.1)
 have hx:=Ok.le (.cons (Le.refl _) (.cons leFtr0 .nil)) (sameFeature_ok c.feature ftr0 hf.2)
 simp only [cFtr_eq] at hx
 simp only [cChange_eq]
 refine Ok.of_ex Ty.mixed Tryz.func62 rfl (by simp [Tryz.ntmps62]) (by kernel_rfl) fun F w0 I0=>?_
 simp only [↓rA,rB]
 refine fun b1 h1=>?_;replace h1:=newb h1;try simp only [Nb] at h1
 simp only [↓rA,rB,Nat.reduceAdd,Nat.reduceEqDiff,Nat.reduceLeDiff,tbCD3]
 refine OkF_of _ ht ?_
 simp only [↓rA,rB,Nat.reduceAdd,Nat.reduceEqDiff,Nat.reduceLeDiff,tbCD3]
 refine OkF_of _ hx ?_
 generalize decide (c.table=tab0)=p
 generalize decide (c.feature=ftr0)=q
 cases p <;> cases q <;> simp only [↓rA,rB,Nat.reduceAdd,Nat.reduceEqDiff,tbCD3,Tryz.results62] <;>
 repeat' (first
  | exact⟨_,[],[],Le.refl _,List.nil_sublist _,List.nil_sublist _,⟨_,rfl⟩,rfl,rfl⟩
  | (refine onGuard_splitb (fun hc=>?_) (fun hc=>?_) <;> simp only [↓rA,rB,Nat.reduceAdd,Nat.reduceEqDiff,tbCD3,Tryz.results62,hc]))
def tbCD4:=(aI (aI (aI (aI Ty.c61 Ty.c62) (aI Ty.t156 (aI Ty.t231 Ty.t3))) (aI (aI Ty.t4 (aI Ty.t40 Ty.t41)) (aI Ty.t75 (aI Ty.t77 Ty.t78)))) (aI (aI (aI Ty.t80 Ty.t81) (aI Ty.t83 (aI Ty.t85 Ty.t87))) (aI (aI Ty.t88 (aI Ty.t9 Ty.t90)) (aI Ty.t92 (aI Ty.t94 Ty.t96)))))
theorem form15_ok (e:Etr) (hf:FitC e.change):OkB Tryz.prog 35 [.agg (cEtr e)]:=by
 have h1':=noFact_ok e.fact
 have h2':=noChange_ok e.change hf
 simp only [cEtr,cChange_eq] at h2' ⊢
 refine Ok.of_ex Ty.mixed Tryz.func35 rfl (by simp [Tryz.ntmps35]) (by kernel_rfl) fun F w0 I0=>?_
 simp only [↓rA,rB]
 refine fun b1 h1=>?_;replace h1:=newb h1;try simp only [Nb] at h1
 simp only [↓rA,rB,Nat.reduceAdd,Nat.reduceEqDiff,Nat.reduceLeDiff,tbCD4]
 refine OkF_with [] _ (List.Perm.refl _) h1' ?_
 rintro v bs rs ⟨⟨p,rfl⟩,rfl,rfl⟩
 simp only [↓rA,rB,Nat.reduceAdd,Nat.reduceEqDiff,tbCD4]
 refine OkF_with [] _ (List.Perm.refl _) h2' ?_
 rintro v bs rs ⟨⟨q,rfl⟩,rfl,rfl⟩
 simp only [↓rA,rB,Nat.reduceAdd,Nat.reduceEqDiff,Nat.reduceLeDiff,tbCD4]
 rcases(by omega:e.kind=1∨e.kind=2∨e.kind=3∨(¬ e.kind=1∧¬ e.kind=2∧¬ e.kind=3)) with k | k | k | k <;> cases p <;> cases q <;> simp only [↓rA,rB,Int.reduceEq,Nat.reduceAdd,Nat.reduceEqDiff,tbCD4,Tryz.results35,k] <;>
 repeat' (first
  | (refine onGuard_splitb (fun hc=>?_) (fun hc=>?_) <;> simp only [↓rA,rB,Int.reduceEq,Nat.reduceAdd,Nat.reduceEqDiff,tbCD4,Tryz.results35,k,hc])
  | (refine onGuard_splitf (fun hc=>?_) (fun hc=>?_) <;> simp only [↓rA,rB,Int.reduceEq,Int.reduceLE,Int.reduceLT,Int.reduceToNat,Nat.reduceAdd,Nat.reduceEqDiff,Nat.reduceLT,Nat.reduceLeDiff,Nat.reduceMul,Nat.reduceSub,reduceCtorEq,tbCD4,Tryz.results35,h1,k,hc])
  | exact⟨_,[],[],Le.refl _,List.nil_sublist _,List.nil_sublist _,⟨_,rfl⟩,rfl,rfl⟩)
def keyS (s:Str):Bool:=!decide (s=es0) && (decide (s.size≤32) && s.data.toList.all (okCh 33))
def formedB (f:Fct):Bool :=
 nameB f.src && (decide (1≤f.seq) && decide (f.seq≤1099511627776)) &&
 (if f.kind=1 then decide (f.ref=0) else if f.kind=2∨f.kind=3 then decide (1≤f.ref) && decide (f.ref < f.seq) else false) &&
 (if f.kind=3 then decide (f.table=es0) && (decide (f.key=es0) && (decide (f.event=0) && decide (f.fields.length=0))) else keyS f.key && (decide (0≤f.event) && decide (f.event≤1099511627776)))
def tbCD5:=(aI (aI (aI Ty.c66 Ty.c91) (aI Ty.t3 Ty.t4)) (aI (aI Ty.t40 Ty.t41) (aI Ty.t75 (aI Ty.t85 Ty.t9))))
theorem formed_ok (f:Fct):OkP Tryz.prog 63 [.agg (cFct f)] (vbool (formedB f)):=by
 have fb:∀ {a b:Bool},a=b→V.lit (.bool a)=vbool b:=fun h=>by rw [h]
 obtain⟨src,seq,kind,ref,table,key,event,fields⟩:=f
 refine Ok.of_ex Ty.mixed Tryz.func63 rfl (by simp [Tryz.ntmps63]) (by kernel_rfl) fun F w0 I0=>?_
 simp only [↓rA,rB]
 refine fun b1 h1=>?_;replace h1:=newb h1;try simp only [Nb] at h1
 simp only [↓rA,rB,Nat.reduceAdd,Nat.reduceEqDiff,tbCD5]
 refine OkF_of _ (nameR_ok src) ?_
 cases e0:nameB src
 ·simp only [↓rA,rB,Nat.reduceEqDiff,Tryz.results63]
  exact ret_done (fb (by simp [formedB,e0]))
 by_cases e1:seq < 1
 ·simp only [↓rA,rB,Nat.reduceAdd,Nat.reduceEqDiff,tbCD5,Tryz.results63,e1]
  exact ret_done (fb (by simp [formedB,show ¬ 1≤seq by omega]))
 by_cases e2:1099511627776 < seq
 ·simp only [↓rA,rB,Nat.reduceAdd,Nat.reduceEqDiff,tbCD5,Tryz.results63,e1,e2]
  exact ret_done (fb (by simp [formedB,show ¬ seq≤1099511627776 by omega]))
 have e1':1≤seq:=by omega
 have e2':seq≤1099511627776:=by omega
 have key':=key_ok key
 rcases(by omega:kind=1∨kind=2∨kind=3∨(¬ kind=1∧¬ kind=2∧¬ kind=3)) with rfl | rfl | rfl | k0
 ·by_cases e3:ref=0
  case neg =>
   simp only [↓rA,rB,Nat.reduceAdd,Nat.reduceEqDiff,tbCD5,Tryz.results63,e1,e2,e3]
   exact ret_done (fb (by simp [formedB,e3]))
  simp only [↓rA,rB,Int.reduceEq,Nat.reduceAdd,Nat.reduceEqDiff,tbCD5,e1,e2,e3]
  refine OkF_of _ key' ?_
  have hk:formedB ⟨src,seq,1,ref,table,key,event,fields⟩=(keyS key && (decide (0≤event) && decide (event≤1099511627776))):=by simp [formedB,e0,e1',e2',e3]
  rw [hk]
  unfold keyS
  generalize (!decide (key=es0) && (decide (key.size≤32) && key.data.toList.all (okCh 33)))=b
  cases b
  ·simp only [↓rA,rB,Nat.reduceEqDiff,Tryz.results63]
   exact ret_done rfl
  by_cases e4:0≤event
  case neg =>
   simp only [↓rA,rB,Nat.reduceAdd,Nat.reduceEqDiff,tbCD5,Tryz.results63,e4]
   exact ret_done (fb (by simp []))
  simp only [↓rA,rB,Nat.reduceAdd,Nat.reduceEqDiff,tbCD5,Tryz.results63,e4]
  exact ret_done (fb (by simp []))
 ·by_cases e3:ref < 1
  ·simp only [↓rA,rB,Int.reduceEq,Nat.reduceAdd,Nat.reduceEqDiff,tbCD5,Tryz.results63,e1,e2,e3]
   exact ret_done (fb (by simp [formedB,show ¬ 1≤ref by omega]))
  by_cases e3':seq≤ref
  ·simp only [↓rA,rB,Int.reduceEq,Nat.reduceAdd,Nat.reduceEqDiff,tbCD5,Tryz.results63,e1,e2,e3,e3']
   exact ret_done (fb (by simp [formedB,show ¬ ref < seq by omega]))
  simp only [↓rA,rB,Int.reduceEq,Nat.reduceAdd,Nat.reduceEqDiff,tbCD5,e1,e2,e3,e3']
  refine OkF_of _ key' ?_
  have hk:formedB ⟨src,seq,2,ref,table,key,event,fields⟩=(keyS key && (decide (0≤event) && decide (event≤1099511627776))):=by simp [formedB,e0,e1',e2',show 1≤ref by omega,show ref < seq by omega]
  rw [hk]
  unfold keyS
  generalize (!decide (key=es0) && (decide (key.size≤32) && key.data.toList.all (okCh 33)))=b
  cases b
  ·simp only [↓rA,rB,Nat.reduceEqDiff,Tryz.results63]
   exact ret_done rfl
  by_cases e4:0≤event
  case neg =>
   simp only [↓rA,rB,Nat.reduceAdd,Nat.reduceEqDiff,tbCD5,Tryz.results63,e4]
   exact ret_done (fb (by simp []))
  simp only [↓rA,rB,Nat.reduceAdd,Nat.reduceEqDiff,tbCD5,Tryz.results63,e4]
  exact ret_done (fb (by simp []))
 ·by_cases e3:ref < 1
  ·simp only [↓rA,rB,Int.reduceEq,Nat.reduceAdd,Nat.reduceEqDiff,tbCD5,Tryz.results63,e1,e2,e3]
   exact ret_done (fb (by simp [formedB,show ¬ 1≤ref by omega]))
  by_cases e3':seq≤ref
  ·simp only [↓rA,rB,Int.reduceEq,Nat.reduceAdd,Nat.reduceEqDiff,tbCD5,Tryz.results63,e1,e2,e3,e3']
   exact ret_done (fb (by simp [formedB,show ¬ ref < seq by omega]))
  have hk:formedB ⟨src,seq,3,ref,table,key,event,fields⟩=(decide (table=es0) && (decide (key=es0) && (decide (event=0) && decide (fields.length=0)))):=by simp [formedB,e0,e1',e2',show 1≤ref by omega,show ref < seq by omega]
  rw [hk]
  by_cases t1:table=es0
  case neg =>
   simp only [↓rA,rB,Int.reduceEq,Nat.reduceAdd,Nat.reduceEqDiff,tbCD5,Tryz.results63,e1,e2,e3,e3',t1]
   exact ret_done (fb (by simp []))
  by_cases t2:key=es0
  case neg =>
   simp only [↓rA,rB,Int.reduceEq,Nat.reduceAdd,Nat.reduceEqDiff,tbCD5,Tryz.results63,e1,e2,e3,e3',t1,t2]
   exact ret_done (fb (by simp []))
  by_cases t3:event=0
  case neg =>
   simp only [↓rA,rB,Int.reduceEq,Nat.reduceAdd,Nat.reduceEqDiff,tbCD5,Tryz.results63,e1,e2,e3,e3',t1,t2,t3]
   exact ret_done (fb (by simp []))
  by_cases t4:fields.length=0
  case neg =>
   have t4':¬ (fields.length:Int)=0:=by omega
   simp only [↓rA,rB,Int.reduceEq,Nat.reduceAdd,Nat.reduceEqDiff,tbCD5,Tryz.results63,e1,e2,e3,e3',t1,t2,t3,List.length_map,t4']
   exact ret_done (fb (by simp [t4]))
  have t4':(fields.length:Int)=0:=by omega
  simp only [↓rA,rB,Int.reduceEq,Nat.reduceAdd,Nat.reduceEqDiff,tbCD5,Tryz.results63,e1,e2,e3,e3',t1,t2,t3,List.length_map,t4']
  exact ret_done (fb (by simp [t4]))
 ·simp only [↓rA,rB,Nat.reduceAdd,Nat.reduceEqDiff,tbCD5,Tryz.results63,e1,e2,k0]
  exact ret_done (fb (by simp [formedB,k0]))
end Go.Proofs.YtopfanlkbepemaaGreat
set_option linter.unusedSimpArgs false
set_option maxRecDepth 100000
set_option linter.defProp false
namespace Go.Proofs.YtopfanlkbepemaaGreat
open Go.VL Go.Ar Go.Lo Go.Proofs.YtopfanlkbepemaaGreat
def tbCE0:=(aI (aI (aI Ty.t231 (aI Ty.t3 Ty.t4)) (aI Ty.t61 (aI Ty.t81 Ty.t83))) (aI (aI Ty.t85 (aI Ty.t87 Ty.t88)) (aI Ty.t9 (aI Ty.t90 Ty.t92))))
theorem index14_ok (l:List Ftr) (s:Str) (hl:l.length≤1000000):Ok Tryz.prog 128 [vFtrs l,vstr s,vint 0] [] fun v bs rs=>(∃ k:Int,v=vint k∧(k=-1∨0≤k∧k < l.length))∧bs=[]∧rs=[]:=by
 refine Ok.of_ex Ty.mixed Tryz.func128 rfl (by simp [Tryz.ntmps128]) (by kernel_rfl) fun F w0 I0=>?_
 simp only [↓rA,rB,Nat.reduceEqDiff,Tryz.results128]
 refine EX_for Ty.mixed (by kernel_rfl) l.length (fun i S=>S.boxes=[]∧S.rows=[]∧S.σ 0=vFtrs l∧S.σ 1=vstr s∧S.σ 7=vint i) ⟨0,?_⟩ (fun i S hi ⟨gb,gr,g0,g1,g7⟩=>?_) (fun S ⟨gb,gr,g0,g1,g7⟩=>?_)
 ·simp only [rB,Nat.reduceEqDiff,reduceCtorEq]
  try exact rfl
 ·have hwi:=wrap_succ (i:=i) (N:=l.length) hi (by omega)
  simp only [↓rA,rB,Nat.reduceEqDiff,reduceCtorEq,tbCE0,g0,g1,g7,Int.ofNat_lt,hi,List.length_map,getD_map _ _ _ hi,cFtr_eq]
  refine onCond_splitb (fun hc=>?_) (fun hc=>?_)
  ·simp only [↓rA,rB,Nat.reduceEqDiff,gb,gr,g7]
   exact⟨_,[],[],Le.refl _,List.nil_sublist _,List.nil_sublist _,⟨i,rfl,.inr ⟨by omega,by omega⟩⟩,rfl,rfl⟩
  ·simp only [↓rA,rB,Nat.reduceEqDiff,reduceCtorEq,gb,gr,g0,g1,g7,hwi]
   first | exact⟨0,rfl⟩ | exact⟨0,trivial⟩
 ·simp only [↓rA,rB,Nat.reduceEqDiff,reduceCtorEq,tbCE0,gb,gr,g0,g7,Int.ofNat_lt,Nat.lt_irrefl,List.length_map]
  exact⟨_,[],[],Le.refl _,List.nil_sublist _,List.nil_sublist _,⟨-1,rfl,.inl rfl⟩,rfl,rfl⟩
def tbCE1:=(aI (aI (aI Ty.t231 (aI Ty.t3 Ty.t4)) (aI Ty.t61 (aI Ty.t81 Ty.t83))) (aI (aI Ty.t85 (aI Ty.t87 Ty.t88)) (aI Ty.t9 (aI Ty.t90 Ty.t92))))
theorem last14_ok (l:List Ftr) (s:Str) (hl:l.length≤1000000):Ok Tryz.prog 132 [vFtrs l,vstr s] [] fun v bs rs=>(∃ k:Int,v=vint k∧(k=-1∨0≤k∧k < l.length))∧bs=[]∧rs=[]:=by
 refine Ok.of_ex Ty.mixed Tryz.func132 rfl (by simp [Tryz.ntmps132]) (by kernel_rfl) fun F w0 I0=>?_
 simp only [↓rA,rB,Tryz.results132]
 refine EX_for Ty.mixed (by kernel_rfl) l.length (fun i S=>S.boxes=[]∧S.rows=[]∧S.σ 0=vFtrs l∧S.σ 1=vstr s∧S.σ 6=vint i∧∃ k:Int,S.σ 5=vint k∧(k=-1∨0≤k∧k < l.length)) ⟨0,?_⟩ (fun i S hi ⟨gb,gr,g0,g1,g6,k,g5,hk⟩=>?_) (fun S ⟨gb,gr,g0,g1,g6,k,g5,hk⟩=>?_)
 ·simp only [rB,Nat.reduceEqDiff,reduceCtorEq]
  first | exact⟨rfl,-1,rfl,.inl rfl⟩ | exact⟨-1,rfl,.inl rfl⟩
 ·have hwi:=wrap_succ (i:=i) (N:=l.length) hi (by omega)
  simp only [↓rA,rB,Nat.reduceEqDiff,reduceCtorEq,tbCE1,g0,g1,g6,Int.ofNat_lt,hi,List.length_map,getD_map _ _ _ hi,cFtr_eq]
  refine onCond_splitb (fun hc=>?_) (fun hc=>?_)
  ·simp only [↓rA,rB,Nat.reduceEqDiff,reduceCtorEq,gb,gr,g0,g1,g6,hwi]
   exact⟨0,i,rfl,.inr ⟨by omega,by omega⟩⟩
  ·simp only [↓rA,rB,Nat.reduceEqDiff,reduceCtorEq,gb,gr,g0,g1,g5,g6,hwi]
   exact⟨0,k,rfl,hk⟩
 ·simp only [↓rA,rB,Nat.reduceEqDiff,reduceCtorEq,tbCE1,gb,gr,g0,g5,g6,Int.ofNat_lt,Nat.lt_irrefl,List.length_map]
  exact⟨_,[],[],Le.refl _,List.nil_sublist _,List.nil_sublist _,⟨k,rfl,hk⟩,rfl,rfl⟩
def tbCE2:=(aI (aI (aI Ty.t231 Ty.t3) (aI Ty.t61 (aI Ty.t81 Ty.t83))) (aI (aI Ty.t85 (aI Ty.t87 Ty.t88)) (aI Ty.t9 (aI Ty.t90 Ty.t92))))
theorem without_ok (l:List Ftr) (k:Nat) (hk:k < l.length) (hl:l.length≤1000000):OkP Tryz.prog 131 [vFtrs l,vint k] (vFtrs (l.take k++l.drop (k+1))):=by
 have hwi:=wrap_succ (i:=k) (N:=l.length) hk (by omega)
 have hk1:(k:Int)≤l.length:=by omega
 refine Ok.of_ex Ty.mixed Tryz.func131 rfl (by simp [Tryz.ntmps131]) (by kernel_rfl) fun F w0 I0=>?_
 simp only [↓rA,rB]
 refine Or2.l ?_
 simp only [↓rA,rB,Nat.reduceAdd,Nat.reduceEqDiff,Nat.reduceLT,Nat.reduceMul,reduceCtorEq,tbCE2,Tryz.results131]
 intro y1
 simp only [rB,List.length_map,hwi]
 have h1:(List.take k (l.map cFtr)).length=k:=by rw [List.length_take,List.length_map];omega
 have h2:(List.drop (k+1) (l.map cFtr)).length=l.length - (k+1):=by rw [List.length_drop,List.length_map]
 refine⟨by omega,by rw [h1];omega,fun y2=>⟨by omega,by rw [h1,h2];omega,fun y3=>⟨_,[],[],?_,List.nil_sublist _,List.nil_sublist _,rfl,rfl,rfl⟩⟩⟩
 rw [vFtrs,List.map_append,List.map_take,List.map_drop]
 exact Le.list _ _ _
def insN (l:List Ftr) (s:Str):Nat:=(l.takeWhile fun g=>leS g.name s).length
theorem insN_le (l:List Ftr) (s:Str):insN l s≤l.length:=by
 unfold insN
 exact(List.takeWhile_prefix _).length_le
theorem insN_at {l:List Ftr} {s:Str} {i:Nat} (h:i≤insN l s) (hi:i < l.length):(leS l[i].name s=true↔i < insN l s):=by
 induction l generalizing i with
 | nil=>simp at hi
 | cons x r ih =>
  unfold insN at h ⊢
  rw [List.takeWhile_cons] at h ⊢
  cases e:leS x.name s
  ·rw [e] at h
   simp only [Bool.false_eq_true,if_false,List.length_nil] at h ⊢
   have:i=0:=by omega
   subst this
   simp [e]
  ·rw [e] at h
   simp only [if_true,List.length_cons] at h ⊢
   cases i with
   | zero=>simp [e]
   | succ i =>
    have:=ih (i:=i) (by unfold insN;omega) (by simpa using hi)
    unfold insN at this
    simp only [List.getElem_cons_succ]
    rw [this]
    omega
def tbCE3:=(aI (aI (aI Ty.t231 (aI Ty.t3 Ty.t4)) (aI Ty.t61 (aI Ty.t81 Ty.t83))) (aI (aI Ty.t85 (aI Ty.t87 Ty.t88)) (aI Ty.t9 (aI Ty.t90 Ty.t92))))
theorem insert14_ok (l:List Ftr) (f:Ftr) (hl:l.length≤1000000):OkP Tryz.prog 130 [vFtrs l,.agg (cFtr f)] (vFtrs (l.take (insN l f.name)++(f::l.drop (insN l f.name)))):=by
 simp only [cFtr_eq]
 refine Ok.of_exM [(5,4)] Ty.mixed Tryz.func130 rfl (by simp [Tryz.ntmps130]) (by kernel_rfl) fun F w0 I0=>?_
 simp only [↓rA,rB]
 refine fun b3 h3=>?_;replace h3:=newb h3;try simp only [Nb] at h3
 simp only [↓rA,rB,Tryz.results130]
 refine EX_while Ty.mixed (by kernel_rfl) (fun i:Nat=>l.length - i) (fun i S=>i≤insN l f.name∧S.boxes=[(b3,.c (cF f f.body.hd (vEs f.body.args)))]∧S.rows=[]∧S.σ 0=vFtrs l∧S.σ 3=ptr b3∧S.σ 5=vint i) 0 ⟨0,?_⟩ (fun i S ⟨hi,gb,gr,g0,g3,g5⟩=>?_)
 ·simp only [rB,Nat.reduceEqDiff,reduceCtorEq]
  try exact rfl
 ·have hle:=insN_le l f.name
  by_cases hlt:i < l.length
  case neg =>
   have e:insN l f.name=i:=by omega
   rw [e]
   have hk2:(i:Int)≤l.length:=by omega
   simp only [↓rA,rB,Nat.reduceEqDiff,reduceCtorEq,tbCE3,g0,g5,hlt,Int.ofNat_lt,List.length_map]
   refine Or2.l ?_
   try simp only [↓rA,rB,Nat.reduceAdd,Nat.reduceEqDiff,Nat.reduceLT,Nat.reduceLeDiff,Nat.reduceMul,reduceCtorEq,tbCE3,gb,gr,g0,g3,g5,List.length_map]
   intro y1
   have q1:(List.take i (l.map cFtr)).length=i:=by rw [List.length_take,List.length_map];omega
   have q2:(List.drop i (l.map cFtr)).length=l.length - i:=by rw [List.length_drop,List.length_map]
   refine⟨by omega,by rw [q1];omega,fun y2 y3=>takeRF_2 ?_⟩
   simp only [↓rA,rB,Nat.reduceAdd,Nat.reduceEqDiff,Nat.reduceLT,reduceCtorEq,tbCE3,g0,g5,List.length_map,q1]
   refine⟨by omega,fun y4=>⟨by omega,takeRF_1 ?_⟩⟩
   simp only [↓rA,rB,reduceCtorEq,gb,List.length_map,q1,q2,List.length_append]
   refine⟨by omega,fun y5=>⟨_,[],[],?_,List.nil_sublist _,List.nil_sublist _,rfl,rfl,rfl⟩⟩
   rw [vFtrs,List.map_append,List.map_cons,List.map_take,List.map_drop,cFtr_eq f]
   refine fun w I x hx=>?_
   have:=Le.list _ _ _ w I x hx
   rwa [List.append_assoc] at this
  ·have hwi:=wrap_succ (i:=i) (N:=l.length) hlt (by omega)
   have ha:=insN_at hi hlt
   unfold leS at ha
   simp only [↓rA,rB,Nat.reduceAdd,Nat.reduceEqDiff,reduceCtorEq,tbCE3,gb,g0,g3,g5,Int.ofNat_lt,hlt,List.length_map,getD_map _ _ _ hlt,cFtr_eq l[i]]
   refine onCond_splitb (fun hc=>?_) (fun hc=>?_)
   ·simp only [↓rA,rB,Nat.reduceEqDiff,reduceCtorEq,gb,gr,g0,g3,g5,hwi]
    have:=ha.1 hc
    exact⟨i+1,by omega,0,by omega,rfl,rfl⟩
   ·have e:insN l f.name=i:=by
     have:¬ i < insN l f.name:=fun h=>by rw [ha.2 h] at hc;cases hc
     omega
    rw [e]
    have hk2:(i:Int)≤l.length:=by omega
    simp only [↓rA,rB,hc,List.length_map]
    refine Or2.l ?_
    try simp only [↓rA,rB,Nat.reduceAdd,Nat.reduceEqDiff,Nat.reduceLT,Nat.reduceLeDiff,Nat.reduceMul,reduceCtorEq,tbCE3,gb,gr,g0,g3,g5,List.length_map]
    intro y1
    have q1:(List.take i (l.map cFtr)).length=i:=by rw [List.length_take,List.length_map];omega
    have q2:(List.drop i (l.map cFtr)).length=l.length - i:=by rw [List.length_drop,List.length_map]
    refine⟨by omega,by rw [q1];omega,fun y2 y3=>takeRF_2 ?_⟩
    simp only [↓rA,rB,Nat.reduceAdd,Nat.reduceEqDiff,Nat.reduceLT,reduceCtorEq,tbCE3,g0,g5,List.length_map,q1]
    refine⟨by omega,fun y4=>⟨by omega,takeRF_1 ?_⟩⟩
    simp only [↓rA,rB,reduceCtorEq,gb,List.length_map,q1,q2,List.length_append]
    refine⟨by omega,fun y5=>⟨_,[],[],?_,List.nil_sublist _,List.nil_sublist _,rfl,rfl,rfl⟩⟩
    rw [vFtrs,List.map_append,List.map_cons,List.map_take,List.map_drop,cFtr_eq f]
    refine fun w I x hx=>?_
    have:=Le.list _ _ _ w I x hx
    rwa [List.append_assoc] at this
end Go.Proofs.YtopfanlkbepemaaGreat
set_option linter.unusedSimpArgs false
set_option maxRecDepth 100000
set_option linter.defProp false
namespace Go.Proofs.YtopfanlkbepemaaGreat
open Go.VL Go.Ar Go.Lo Go.Proofs.YtopfanlkbepemaaGreat
abbrev OkTI (P:Program) (f:FuncId) (zs:List V):Prop:=Ok P f zs [] fun v bs rs=>(∃ (t:Typ) (n:Int),v=.tup [vTyp t,vint n]∧FitU t)∧bs=[]∧rs=[]
theorem finTI (k:Int) (u:V) (uu:List Fac) (o:Str) (n:Int) (X:List (Nat × B)) (Y:List Row) (hu:Le u (vFacs uu)) (hl:uu.length≤big) :
  ∃ v bs' rs',Le (.tup [.agg [vint k,u,vstr o],vint n]) v∧bs'.Sublist X∧rs'.Sublist Y∧(∃ (t:Typ) (n:Int),v=.tup [vTyp t,vint n]∧FitU t)∧bs'=[]∧rs'=[] :=
 ⟨_,[],[],leTup (.cons (leAgg (.cons (Le.refl _) (.cons hu (.cons (Le.refl _) .nil)))) (.cons (Le.refl _) .nil)),List.nil_sublist _,List.nil_sublist _,⟨⟨k,uu,o⟩,n,rfl,hl⟩,rfl,rfl⟩
theorem finTI0 (k:Int) (o:Str) (n:Int) (X:List (Nat × B)) (Y:List Row) :
  ∃ v bs' rs',Le (.tup [.agg [vint k,nilS,vstr o],vint n]) v∧bs'.Sublist X∧rs'.Sublist Y∧(∃ (t:Typ) (n:Int),v=.tup [vTyp t,vint n]∧FitU t)∧bs'=[]∧rs'=[] :=
 finTI k nilS [] o n X Y (Le.nil 2) (by simp [big])
theorem finI (n:Int) (X:List (Nat × B)) (Y:List Row):∃ v bs' rs',Le (vint n) v∧bs'.Sublist X∧rs'.Sublist Y∧(∃ n:Int,v=vint n)∧bs'=[]∧rs'=[] :=
 ⟨_,[],[],Le.refl _,List.nil_sublist _,List.nil_sublist _,⟨n,rfl⟩,rfl,rfl⟩
def tbCF0:=(aI (aI (aI Ty.c156 Ty.t231) (aI Ty.t26 Ty.t3)) (aI (aI Ty.t4 Ty.t81) (aI Ty.t83 Ty.t9)))
theorem both_ok (a b:Typ) (ha:FitU a):OkI Tryz.prog 137 [vTyp a,vTyp b]:=by
 refine Ok.of_ex Ty.mixed Tryz.func137 rfl (by simp [Tryz.ntmps137]) (by kernel_rfl) fun F w0 I0=>?_
 simp only [↓rA,rB]
 refine fun b1 h1=>?_;replace h1:=newb h1;try simp only [Nb] at h1
 simp only [↓rA,rB,Nat.reduceEqDiff]
 refine fun b2 h2=>?_;replace h2:=newb h2;try simp only [Nb] at h2
 simp only [↓rA,rB,Nat.reduceAdd,Nat.reduceEqDiff,tbCF0,h2]
 repeat' (first
  | (refine onCond_splitb (fun hc=>?_) (fun hc=>?_) <;> (first | (subst hc;try simp only [↓rA,rB,Int.reduceEq,Int.reduceLE,Int.reduceLT,Int.reduceToNat,Nat.reduceAdd,Nat.reduceEqDiff,Nat.reduceLT,Nat.reduceLeDiff,Nat.reduceMul,Nat.reduceSub,reduceCtorEq,tbCF0,Tryz.results137,h1,h2]) | (try simp only [↓rA,rB,Nat.reduceAdd,Nat.reduceEqDiff,tbCF0,Tryz.results137,h2,hc])))
  | (refine onGuard_splitb (fun hc=>?_) (fun hc=>?_) <;> (first | (subst hc;try simp only [↓rA,rB,Int.reduceEq,Int.reduceLE,Int.reduceLT,Int.reduceToNat,Nat.reduceAdd,Nat.reduceEqDiff,Nat.reduceLT,Nat.reduceLeDiff,Nat.reduceMul,Nat.reduceSub,reduceCtorEq,tbCF0,Tryz.results137,h1,h2]) | (try simp only [↓rA,rB,Int.reduceEq,Int.reduceLE,Int.reduceLT,Int.reduceToNat,Nat.reduceAdd,Nat.reduceEqDiff,Nat.reduceLT,Nat.reduceLeDiff,Nat.reduceMul,Nat.reduceSub,reduceCtorEq,tbCF0,Tryz.results137,h1,h2,hc])))
  | (refine onGuard_splitf (fun hc=>?_) (fun hc=>?_) <;> (first | (subst hc;try simp only [↓rA,rB,Int.reduceEq,Int.reduceLE,Int.reduceLT,Int.reduceToNat,Nat.reduceAdd,Nat.reduceEqDiff,Nat.reduceLT,Nat.reduceLeDiff,Nat.reduceMul,Nat.reduceSub,reduceCtorEq,tbCF0,Tryz.results137,h1,h2]) | (try simp only [↓rA,rB,Nat.reduceAdd,Nat.reduceEqDiff,tbCF0,Tryz.results137,h2,hc])))
  | (refine OkF_of _ (same07_ok _ _ ha) ?_;try simp only [↓rA,rB])
  | exact finI _ _ _)
def tbCF1:=(aI (aI Ty.c156 (aI Ty.t231 Ty.t3)) (aI (aI Ty.t4 Ty.t81) (aI Ty.t83 Ty.t9)))
theorem sameType10_ok (a b:Typ) (ha:FitU a):OkB Tryz.prog 184 [vTyp a,vTyp b]:=by
 refine Ok.of_ex Ty.mixed Tryz.func184 rfl (by simp [Tryz.ntmps184]) (by kernel_rfl) fun F w0 I0=>?_
 simp only [↓rA,rB]
 refine fun b1 h1=>?_;replace h1:=newb h1;try simp only [Nb] at h1
 simp only [↓rA,rB,Nat.reduceEqDiff]
 refine fun b2 h2=>?_;replace h2:=newb h2;try simp only [Nb] at h2
 simp only [↓rA,rB,Nat.reduceAdd,Nat.reduceEqDiff,tbCF1,h2]
 repeat' (first
  | (refine onCond_splitb (fun hc=>?_) (fun hc=>?_) <;> (first | (subst hc;try simp only [↓rA,rB,Int.reduceEq,Int.reduceLE,Int.reduceLT,Int.reduceToNat,Nat.reduceAdd,Nat.reduceEqDiff,Nat.reduceLT,Nat.reduceLeDiff,Nat.reduceMul,Nat.reduceSub,reduceCtorEq,tbCF1,Tryz.results184,h1,h2]) | (try simp only [↓rA,rB,Nat.reduceEqDiff,Tryz.results184,hc])))
  | (refine onGuard_splitb (fun hc=>?_) (fun hc=>?_) <;> (first | (subst hc;try simp only [↓rA,rB,Int.reduceEq,Int.reduceLE,Int.reduceLT,Int.reduceToNat,Nat.reduceAdd,Nat.reduceEqDiff,Nat.reduceLT,Nat.reduceLeDiff,Nat.reduceMul,Nat.reduceSub,reduceCtorEq,tbCF1,Tryz.results184,h1,h2]) | (try simp only [↓rA,rB,Nat.reduceAdd,Nat.reduceEqDiff,tbCF1,Tryz.results184,h2,hc])))
  | (refine onGuard_splitf (fun hc=>?_) (fun hc=>?_) <;> (first | (subst hc;try simp only [↓rA,rB,Int.reduceEq,Int.reduceLE,Int.reduceLT,Int.reduceToNat,Nat.reduceAdd,Nat.reduceEqDiff,Nat.reduceLT,Nat.reduceLeDiff,Nat.reduceMul,Nat.reduceSub,reduceCtorEq,tbCF1,Tryz.results184,h1,h2]) | (try simp only [↓rA,rB,Int.reduceEq,Int.reduceLE,Int.reduceLT,Int.reduceToNat,Nat.reduceAdd,Nat.reduceEqDiff,Nat.reduceLT,Nat.reduceLeDiff,Nat.reduceMul,Nat.reduceSub,reduceCtorEq,tbCF1,Tryz.results184,h1,h2,hc])))
  | (refine OkF_of _ (same07_ok _ _ ha) ?_;try simp only [↓rA,rB,Nat.reduceEqDiff])
  | exact⟨_,[],[],Le.refl _,List.nil_sublist _,List.nil_sublist _,⟨_,rfl⟩,rfl,rfl⟩)
def tbCF2:=(aI (aI (aI Ty.c150 (aI Ty.c175 Ty.t231)) (aI (aI Ty.t26 Ty.t3) (aI Ty.t36 Ty.t4))) (aI (aI Ty.t81 (aI Ty.t83 Ty.t85)) (aI (aI Ty.t87 Ty.t88) (aI Ty.t9 Ty.t90))))
theorem overAll_ok (x:E) (a c:Typ) (ha:FitU a):OkTI Tryz.prog 179 [vE x,vTyp a,vTyp c]:=by
 simp only [vE,cE_eq]
 refine Ok.of_ex Ty.mixed Tryz.func179 rfl (by simp [Tryz.ntmps179]) (by kernel_rfl) fun F w0 I0=>?_
 simp only [↓rA,rB]
 refine fun b1 h1=>?_;replace h1:=newb h1;try simp only [Nb] at h1
 simp only [↓rA,rB,Nat.reduceEqDiff]
 refine fun b2 h2=>?_;replace h2:=newb h2;try simp only [Nb] at h2
 simp only [↓rA,rB,Nat.reduceEqDiff]
 refine fun b3 h3=>?_;replace h3:=newb h3;try simp only [Nb] at h3
 simp only [↓rA,rB,tbCF2]
 refine fun b6 h6=>?_;replace h6:=newb h6;try simp only [Nb] at h6
 simp only [↓rA,rB,Nat.reduceAdd,Nat.reduceEqDiff,tbCF2,h6]
 by_cases e:c.kind=1
 case neg =>
  simp only [↓rA,rB,Nat.reduceAdd,Nat.reduceEqDiff,tbCF2,Tryz.results179,e]
  exact finTI0 _ _ _ _ _
 simp only [↓rA,rB,Nat.reduceAdd,Nat.reduceEqDiff,Nat.reduceLT,Nat.reduceLeDiff,Nat.reduceMul,tbCF2,h2,h3,h6,e]
 intro y1
 refine OkF_of _ (Ok.le (.cons (Le.refl _) (.cons (Le.list _ _ _) .nil)) (one_ok [⟨#[115,117,109]⟩,⟨#[109,101,97,110]⟩,⟨#[113,117,97,110,116,105,108,101]⟩,⟨#[100,101,99,97,121]⟩] x.hd.op (by decide))) ?_
 simp only [↓rA,rB,Nat.reduceAdd,Nat.reduceEqDiff,Nat.reduceLT,Nat.reduceLeDiff,Nat.reduceMul,tbCF2,h2,h3,h6]
 intro y2
 refine OkF_of _ (Ok.le (.cons (Le.refl _) (.cons (Le.list _ _ _) .nil)) (one_ok [⟨#[109,105,110]⟩,⟨#[109,97,120]⟩] x.hd.op (by decide))) ?_
 simp only [↓rA,rB,Nat.reduceEqDiff]
 generalize memS [⟨#[115,117,109]⟩,⟨#[109,101,97,110]⟩,⟨#[113,117,97,110,116,105,108,101]⟩,⟨#[100,101,99,97,121]⟩] x.hd.op=p
 generalize memS [⟨#[109,105,110]⟩,⟨#[109,97,120]⟩] x.hd.op=q
 repeat' (first
  | (refine onCond_splitb (fun hc=>?_) (fun hc=>?_) <;> (first | (subst hc;try simp only [↓rA,rB,Int.reduceEq,Int.reduceLE,Int.reduceLT,Int.reduceToNat,Nat.reduceAdd,Nat.reduceEqDiff,Nat.reduceLT,Nat.reduceLeDiff,Nat.reduceMul,Nat.reduceSub,reduceCtorEq,tbCF2,Tryz.results179,h1,h2,h3,h6]) | (try simp only [↓rA,rB,Nat.reduceAdd,Nat.reduceEqDiff,Nat.reduceLeDiff,tbCF2,Tryz.results179,h2,h3,h6,hc])))
  | (refine onGuard_splitb (fun hc=>?_) (fun hc=>?_) <;> (first | (subst hc;try simp only [↓rA,rB,Nat.reduceAdd,Nat.reduceEqDiff,tbCF2,h2,h3,h6]) | (try simp only [↓rA,rB,Nat.reduceAdd,Nat.reduceEqDiff,tbCF2,h2,h3,h6,hc])))
  | (refine onGuard_splitf (fun hc=>?_) (fun hc=>?_) <;> (first | (subst hc;try simp only [↓rA,rB,Int.reduceEq,Int.reduceLE,Int.reduceLT,Int.reduceToNat,Nat.reduceAdd,Nat.reduceEqDiff,Nat.reduceLT,Nat.reduceLeDiff,Nat.reduceMul,Nat.reduceSub,reduceCtorEq,tbCF2,Tryz.results179,h1,h2,h3,h6]) | (try simp only [↓rA,rB,Nat.reduceAdd,Nat.reduceEqDiff,tbCF2,Tryz.results179,h2,h3,h6,hc])))
  | (refine OkF_of _ (number_ok _ _ _) ?_;try simp only [↓rA,rB,Nat.reduceEqDiff])
  | exact finTI0 _ _ _ _ _
  | exact finTI _ _ _ _ _ _ _ (Le.refl _) ha)
abbrev vSc (c:Cat) (e:Str) (t:Tab):V:=.agg (cCat c++(vstr e::cTab t))
structure KFit (n:Nat) (c:Cat):Prop where
 lt:c.tables.length≤n
 lf:c.features.length≤n
 ld:c.drafts.length≤n
 lp:c.past.length≤n
 ft:∀ t ∈ c.tables,FitT t
 ff:∀ f ∈ c.features,FitF f∧depthE f.body≤big
 fd:∀ f ∈ c.drafts,FitF f∧depthE f.body≤big
 fp:∀ f ∈ c.past,FitF f∧depthE f.body≤big
 sf:∀ f ∈ c.features,sizeE f.body≤1000000
 sd:∀ f ∈ c.drafts,sizeE f.body≤1000000
 sp:∀ f ∈ c.past,sizeE f.body≤1000000
def tbCF3:=(aI (aI (aI (aI Ty.t156 Ty.t231) (aI Ty.t235 Ty.t26)) (aI (aI Ty.t3 Ty.t4) (aI Ty.t60 (aI Ty.t61 Ty.t63)))) (aI (aI (aI Ty.t78 Ty.t80) (aI Ty.t81 (aI Ty.t83 Ty.t85))) (aI (aI Ty.t87 Ty.t88) (aI Ty.t9 (aI Ty.t90 Ty.t92)))))
theorem field10_ok (c:Cat) (e:Str) (t:Tab) (n:Str) (ht:FitT t):OkTI Tryz.prog 177 [vSc c e t,vstr n]:=by
 obtain⟨hl,hu⟩:=ht
 unfold big at hl
 refine Ok.of_ex Ty.mixed Tryz.func177 rfl (by simp [Tryz.ntmps177]) (by kernel_rfl) fun F w0 I0=>?_
 simp only [↓rA,rB]
 refine fun b2 h2=>?_;replace h2:=newb h2;try simp only [Nb] at h2
 simp only [↓rA,rB,tbCF3]
 refine fun b4 h4=>?_;replace h4:=newb h4;try simp only [Nb] at h4
 simp only [↓rA,rB,Tryz.results177]
 refine EX_for Ty.mixed (by kernel_rfl) t.fields.length (fun i S=>S.boxes=[(b4,.c [vint 0,nilS,vstr es0]),(b2,.c (cCat c++(vstr e::cTab t)))]∧S.rows=[]∧S.σ 1=vstr n∧S.σ 2=ptr b2∧S.σ 4=ptr b4∧S.σ 6=vint i) ⟨0,?_⟩ (fun i S hi ⟨gb,gr,g1,g2,g4,g6⟩=>?_) (fun S ⟨gb,gr,g1,g2,g4,g6⟩=>?_)
 ·simp only [rB,Nat.reduceEqDiff]
  try exact rfl
 ·have hwi:=wrap_succ (i:=i) (N:=t.fields.length) hi (by omega)
  have hui:=hu _ (List.getElem_mem hi)
  simp only [↓rA,rB,Nat.reduceAdd,Nat.reduceEqDiff,tbCF3,gb,g1,g2,g6,h4,Int.ofNat_lt,hi,List.length_map,getD_map _ _ _ hi]
  refine onCond_splitb (fun hc=>?_) (fun hc=>?_)
  ·simp only [↓rA,rB,Nat.reduceAdd,Nat.reduceEqDiff,tbCF3,gb,gr,g2,g4,g6,h4,Int.ofNat_lt,hi,List.length_map,getD_map _ _ _ hi]
   exact finTI _ _ _ _ _ _ _ (Le.refl _) hui
  ·simp only [↓rA,rB,Nat.reduceEqDiff,gb,gr,g1,g2,g4,g6,hwi]
   first | exact⟨0,rfl⟩ | exact⟨0,trivial⟩ | exact⟨0,rfl,rfl⟩
 ·simp only [↓rA,rB,Nat.reduceAdd,Nat.reduceEqDiff,tbCF3,gb,gr,g2,g4,g6,h4,Int.ofNat_lt,Nat.lt_irrefl,List.length_map]
  exact finTI0 _ _ _ _ _
end Go.Proofs.YtopfanlkbepemaaGreat
set_option linter.unusedSimpArgs false
set_option maxRecDepth 100000
set_option linter.defProp false
namespace Go.Proofs.YtopfanlkbepemaaGreat
open Go.VL Go.Ar Go.Lo Go.Proofs.YtopfanlkbepemaaGreat
def tbCG0:=(aI (aI (aI (aI Ty.t156 Ty.t231) (aI Ty.t235 Ty.t26)) (aI (aI Ty.t3 Ty.t4) (aI Ty.t60 (aI Ty.t61 Ty.t63)))) (aI (aI (aI Ty.t78 Ty.t80) (aI Ty.t81 (aI Ty.t83 Ty.t85))) (aI (aI Ty.t87 Ty.t88) (aI Ty.t9 (aI Ty.t90 Ty.t92)))))
theorem feature10_ok (c:Cat) (e:Str) (t:Tab) (n en:Str) (hl:c.features.length≤1000000) (hf:∀ f ∈ c.features,FitF f∧depthE f.body≤big):OkTI Tryz.prog 178 [vSc c e t,vstr n,vstr en]:=by
 refine Ok.of_ex Ty.mixed Tryz.func178 rfl (by simp [Tryz.ntmps178]) (by kernel_rfl) fun F w0 I0=>?_
 simp only [↓rA,rB]
 refine fun b3 h3=>?_;replace h3:=newb h3;try simp only [Nb] at h3
 simp only [↓rA,rB,tbCG0]
 refine fun b6 h6=>?_;replace h6:=newb h6;try simp only [Nb] at h6
 simp only [↓rA,rB,Tryz.results178]
 refine EX_for Ty.mixed (by kernel_rfl) c.features.length (fun i S=>S.boxes=[(b6,.c [vint 0,nilS,vstr es0]),(b3,.c (cCat c++(vstr e::cTab t)))]∧S.rows=[]∧S.σ 1=vstr n∧S.σ 2=vstr en∧S.σ 3=ptr b3∧S.σ 6=ptr b6∧S.σ 8=vint i) ⟨0,?_⟩ (fun i S hi ⟨gb,gr,g1,g2,g3,g6,g8⟩=>?_) (fun S ⟨gb,gr,g1,g2,g3,g6,g8⟩=>?_)
 ·simp only [rB,Nat.reduceEqDiff]
  try exact rfl
 ·have hwi:=wrap_succ (i:=i) (N:=c.features.length) hi (by omega)
  have hui:=(hf _ (List.getElem_mem hi)).1.1
  simp only [↓rA,rB,Nat.reduceAdd,Nat.reduceEqDiff,tbCG0,gb,gr,g3,g8,h6,Int.ofNat_lt,hi,List.length_map,getD_map _ _ _ hi,cFtr_eq]
  refine fun b9 h9=>?_;replace h9:=newb h9;try simp only [Nb] at h9
  have hn:=And.intro h3 (And.intro h6 h9)
  simp only [↓rA,rB,Nat.reduceAdd,Nat.reduceEqDiff,tbCG0,gb,g1]
  refine onCond_splitb (fun hc=>?_) (fun hc=>?_)
  ·simp only [↓rA,rB,Nat.reduceEqDiff,gr,g1,g2,g3,g6,g8,hwi]
   first | exact⟨0,rfl⟩ | exact⟨0,trivial⟩ | exact⟨1,rfl,rfl⟩ | exact⟨1,rfl⟩
  ·simp only [↓rA,rB,Nat.reduceAdd,Nat.reduceEqDiff,tbCG0,g2]
   refine onCond_splitb (fun hc=>?_) (fun hc=>?_)
   ·simp only [↓rA,rB,Nat.reduceAdd,Nat.reduceEqDiff,tbCG0,gr,g6,hn]
    exact finTI0 _ _ _ _ _
   ·simp only [↓rA,rB,Nat.reduceAdd,Nat.reduceEqDiff,Nat.reduceLeDiff,tbCG0,gr,g6,hn]
    exact finTI _ _ _ _ _ _ _ (Le.refl _) hui
 ·simp only [↓rA,rB,Nat.reduceAdd,Nat.reduceEqDiff,tbCG0,gb,gr,g3,g6,g8,h6,Int.ofNat_lt,Nat.lt_irrefl,List.length_map]
  exact finTI0 _ _ _ _ _
abbrev cat0:Cat:=⟨[],[],[],[]⟩
def tbCG1:=(aI (aI (aI (aI Ty.t156 Ty.t231) (aI Ty.t235 Ty.t26)) (aI (aI Ty.t3 Ty.t4) (aI Ty.t60 (aI Ty.t61 Ty.t63)))) (aI (aI (aI Ty.t78 Ty.t80) (aI Ty.t81 (aI Ty.t83 Ty.t85))) (aI (aI Ty.t87 Ty.t88) (aI Ty.t9 (aI Ty.t90 Ty.t92)))))
theorem within_ok (n:Nat) (c:Cat) (e:Str) (t:Tab) (s:Str) (hn:n≤1000000) (hk:KFit n c):Ok Tryz.prog 167 [vSc c e t,vstr s] [] fun v bs rs =>
  (∃ (c':Cat) (e':Str) (t':Tab) (k:Int),v=.tup [vSc c' e' t',vint k]∧(k=0→KFit n c'∧FitT t'))∧bs=[]∧rs=[]:=by
 have hl:c.tables.length≤1000000:=Nat.le_trans hk.lt hn
 have bad:∀ (k:Int),¬ k=0→∀ (X:List (Nat × B)) (Y:List Row),∃ v bs' rs',Le (.tup [.agg [nilS,nilS,nilS,nilS,vstr es0,vstr es0,vstr es0,nilS,vint 0],vint k]) v∧bs'.Sublist X∧rs'.Sublist Y∧(∃ (c':Cat) (e':Str) (t':Tab) (k:Int),v=.tup [vSc c' e' t',vint k]∧(k=0→KFit n c'∧FitT t'))∧bs'=[]∧rs'=[]:=fun k hk0 X Y =>
  ⟨_,[],[],leTup (.cons (leAgg (.cons (Le.nil 4) (.cons (Le.nil 18) (.cons (Le.nil 18) (.cons (Le.nil 18) (.cons (Le.refl _) (.cons (Le.refl _) (.cons (Le.refl _) (.cons (Le.nil 4) (.cons (Le.refl _) .nil)))))))))) (.cons (Le.refl _) .nil)),List.nil_sublist _,List.nil_sublist _,⟨cat0,es0,tab0,k,rfl,fun h=>absurd h hk0⟩,rfl,rfl⟩
 refine Ok.of_ex Ty.mixed Tryz.func167 rfl (by simp [Tryz.ntmps167]) (by kernel_rfl) fun F w0 I0=>?_
 simp only [↓rA,rB]
 refine fun b2 h2=>?_;replace h2:=newb h2;try simp only [Nb] at h2
 simp only [↓rA,rB,tbCG1]
 refine fun b4 h4=>?_;replace h4:=newb h4;try simp only [Nb] at h4
 simp only [↓rA,rB,Tryz.results167]
 refine EX_for Ty.mixed (by kernel_rfl) c.tables.length (fun i S=>S.boxes=[(b4,.c [nilS,nilS,nilS,nilS,vstr es0,vstr es0,vstr es0,nilS,vint 0]),(b2,.c (cCat c++(vstr e::cTab t)))]∧S.rows=[]∧S.σ 1=vstr s∧S.σ 2=ptr b2∧S.σ 4=ptr b4∧S.σ 6=vint i) ⟨0,?_⟩ (fun i S hi ⟨gb,gr,g1,g2,g4,g6⟩=>?_) (fun S ⟨gb,gr,g1,g2,g4,g6⟩=>?_)
 ·simp only [rB,Nat.reduceEqDiff]
  try exact rfl
 ·have hwi:=wrap_succ (i:=i) (N:=c.tables.length) hi (by omega)
  have hft:=hk.ft _ (List.getElem_mem hi)
  simp only [↓rA,rB,Nat.reduceAdd,Nat.reduceEqDiff,tbCG1,gb,gr,g2,g6,h4,Int.ofNat_lt,hi,List.length_map,getD_map _ _ _ hi]
  refine fun b7 h7=>?_;replace h7:=newb h7;try simp only [Nb] at h7
  have hh:=And.intro h2 (And.intro h4 h7)
  simp only [↓rA,rB,Nat.reduceAdd,Nat.reduceEqDiff,tbCG1,gb,g1]
  refine onCond_splitb (fun hc=>?_) (fun hc=>?_)
  ·simp only [↓rA,rB,Nat.reduceEqDiff,gr,g1,g2,g4,g6,hwi]
   first | exact⟨0,rfl⟩ | exact⟨0,trivial⟩ | exact⟨1,rfl,rfl⟩ | exact⟨1,rfl⟩
  ·simp only [↓rA,rB,Nat.reduceAdd,Nat.reduceEqDiff,tbCG1,g2,hh]
   refine onCond_splitb (fun hc=>?_) (fun hc=>?_)
   ·simp only [↓rA,rB,Nat.reduceAdd,Nat.reduceEqDiff,tbCG1,gr,g4,hh]
    exact bad _ (by decide) _ _
   ·simp only [↓rA,rB,Nat.reduceAdd,Nat.reduceEqDiff,Nat.reduceLeDiff,tbCG1,gr,g2,g4,hh]
    exact⟨_,[],[],Le.refl _,List.nil_sublist _,List.nil_sublist _,⟨c,es0,c.tables[i],0,rfl,fun _=>⟨hk,hft⟩⟩,rfl,rfl⟩
 ·simp only [↓rA,rB,Nat.reduceAdd,Nat.reduceEqDiff,tbCG1,gb,gr,g2,g4,g6,h4,Int.ofNat_lt,Nat.lt_irrefl,List.length_map]
  exact bad _ (by decide) _ _
end Go.Proofs.YtopfanlkbepemaaGreat
set_option linter.unusedSimpArgs false
set_option maxRecDepth 100000
set_option linter.defProp false
namespace Go.Proofs.YtopfanlkbepemaaGreat
open Go.VL Go.Ar Go.Lo Go.Proofs.YtopfanlkbepemaaGreat
abbrev vu (n:Int):V:=.lit (.int .u64 n)
def Wd (v:V):Prop:=∃ a b,v=.agg [vint a,vu b]
def BI (n:Nat) (v:V) (bs:List (Nat × B)):Prop :=
 ∃ (g c:Nat) (es:List Int) (rest:List V),es.length=n∧n≤c∧rest.length=c - n∧v=.lit (.slice (some ⟨g,0,none⟩) n c)∧bs=[(g,.c (es.map vint++rest))]
def BI0 (n:Nat) (v:V) (bs:List (Nat × B)):Prop:=(n=0∧v=nilS∧bs=[])∨(0 < n∧BI n v bs)
abbrev slI (g n c:Nat):V:=.lit (.slice (some ⟨g,0,none⟩) n c)
theorem bi_one {g c:Nat} {x:Int} (h:1≤c):BI0 1 (slI g 1 c) [(g,.c ([[vint x]].flatten++anys ((c - 1) * 1)))] :=
 .inr ⟨Nat.one_pos,g,c,[x],anys ((c - 1) * 1),rfl,h,by simp [anys],rfl,by simp⟩
theorem bi_next {g' c' i:Nat} {es:List Int} {rest:List V} {x:Int} (he:es.length=i) (h:i+1≤c'):BI0 (i+1) (slI g' (i+1) c') [(g',.c ((es.map vint++rest).take (i * 1)++[[vint x]].flatten++anys ((c' - (i+1)) * 1)))]:=by
 subst he
 refine .inr ⟨Nat.succ_pos _,g',c',es++[x],anys ((c' - (es.length+1)) * 1),by simp,h,by simp [anys],rfl,?_⟩
 rw [Nat.mul_one,List.take_left' (by rw [List.length_map])]
 simp
theorem bi_nextB {g' c' i:Nat} {es:List Int} {rest:List V} {x:Int} (he:es.length=i) (h:i+1≤c'):BI (i+1) (slI g' (i+1) c') [(g',.c ((es.map vint++rest).take (i * 1)++[[vint x]].flatten++anys ((c' - (i+1)) * 1)))] :=
 ((bi_next he h).resolve_left fun h=>absurd h.1 (Nat.succ_ne_zero _)).2
theorem sng {g b:Nat} {x:B} (h:b ≠ g∧g ≠ b):∀ p ∈ [(g,x)],¬ p.1=b∧¬ b=p.1:=fun p hp=>by
 rw [List.mem_singleton.1 hp];exact h.symm
def tbCH0:=(aI (aI Ty.t175 Ty.t268) (aI Ty.t3 Ty.t4))
theorem of_ok (x:Int):Ok Tryz.prog 191 [vint x] [] fun v bs rs=>Wd v∧bs=[]∧rs=[]:=by
 refine Ok.of_ex Ty.mixed Tryz.func191 rfl (by simp [Tryz.ntmps191]) (by kernel_rfl) fun F w0 I0=>?_
 simp only [↓rA,rB,tbCH0]
 refine fun b2 h2=>?_;replace h2:=newb h2;try simp only [Nb] at h2
 simp only [↓rA,rB,reduceCtorEq]
 refine onCond_splitb (fun hc=>?_) (fun hc=>?_)
 ·simp only [↓rA,rB,Nat.reduceAdd,Nat.reduceEqDiff,Nat.reduceLeDiff,reduceCtorEq,tbCH0,Tryz.results191]
  exact⟨_,[],[],Le.refl _,List.nil_sublist _,List.nil_sublist _,⟨_,_,rfl⟩,rfl,rfl⟩
 ·simp only [↓rA,rB,Nat.reduceAdd,Nat.reduceEqDiff,reduceCtorEq,tbCH0,Tryz.results191]
  exact⟨_,[],[],Le.refl _,List.nil_sublist _,List.nil_sublist _,⟨_,_,rfl⟩,rfl,rfl⟩
def tbCH1:=(aI (aI Ty.t160 Ty.t175) (aI Ty.t268 (aI Ty.t3 Ty.t4)))
theorem digits_ok (v:V) (hv:Wd v):Ok Tryz.prog 194 [v] [] fun v bs rs=>BI 8 v bs∧rs=[]:=by
 obtain⟨a,b,rfl⟩:=hv
 refine Ok.of_ex Ty.mixed Tryz.func194 rfl (by simp [Tryz.ntmps194]) (by kernel_rfl) fun F w0 I0=>?_
 simp only [↓rA,rB]
 refine fun b1 h1=>?_;replace h1:=newb h1;try simp only [Nb] at h1
 simp only [↓rA,rB,Nat.reduceEqDiff,tbCH1,Tryz.results194]
 refine EX_forS Ty.mixed (by kernel_rfl) 4 (fun i S=>∃ u bs,BI0 i u bs∧(∀ p ∈ bs,p.1 ≠ b1∧b1 ≠ p.1)∧S.boxes=bs++[(b1,.c [vint a,vu b])]∧S.rows=[]∧S.σ 1=ptr b1∧S.σ 3=u∧(∃ t,S.σ 4=vu t)∧(∃ t,S.σ 5=vu t)∧S.σ 6=vint i) ⟨_,_,List.Sublist.refl _,List.Sublist.refl _,?_⟩ (fun i S hi ⟨u,bs,hb,hd,gb,gr,g1,g3,⟨t,g4⟩,⟨t',g5⟩,g6⟩=>?_) (fun S ⟨u,bs,hb,hd,gb,gr,g1,g3,⟨t,g4⟩,⟨t',g5⟩,g6⟩=>?_)
 ·simp only [rB,Nat.reduceEqDiff]
  exact⟨_,[],.inl ⟨rfl,rfl,rfl⟩,by simp,rfl,rfl,⟨_,rfl⟩,⟨_,rfl⟩⟩
 ·have hwi:=wrap_succ (i:=i) (N:=4) hi (by omega)
  rcases hb with⟨rfl,rfl,rfl⟩ | ⟨h0,g,c,es,rest,he,hc,hr,rfl,rfl⟩
  ·simp only [↓rA,rB,Int.reduceEq,Int.reduceLT,Nat.reduceAdd,Nat.reduceEqDiff,Nat.reduceLT,Nat.reduceLeDiff,Nat.reduceMul,tbCH1,g3,g4,g6]
   intro y
   refine Or2.r ?_
   simp only [↓rA,rB,Nat.reduceLT,Nat.reduceLeDiff,Nat.reduceMul,tbCH1,gb,gr]
   refine fun g c hg hc=>?_
   have n:=newb hg
   simp only [↓rA,rB,Int.reduceEq,Nat.reduceEqDiff,g4,g6]
   refine⟨_,[],List.Sublist.refl _,List.nil_sublist _,?_⟩
   simp only [rB,Nat.reduceEqDiff,gb,g1,g5]
   exact⟨_,[_],bi_one hc,sng n.1,rfl,rfl,⟨_,rfl⟩,⟨_,rfl⟩,rfl⟩
  ·have hd:g ≠ b1∧b1 ≠ g:=hd _ (List.mem_singleton.2 rfl)
   have hi4:(i:Int) < 4:=by omega
   simp only [↓rA,rB,Int.reduceEq,Nat.reduceEqDiff,Nat.reduceLT,Nat.reduceLeDiff,Nat.reduceMul,tbCH1,g3,g4,g6,hi4]
   intro y
   refine Or2.r ?_
   simp only [↓rA,rB,Nat.reduceLT,tbCH1,gb,gr]
   refine⟨⟨by simp [he,hr];omega,hc,by omega⟩,fun g' c' hg hc'=>?_⟩
   have hrem:remB [(g,B.c (List.map vint es++rest)),(b1,B.c [vint a,vu b])] g=[(b1,B.c [vint a,vu b])]:=by
    simp [remB,hd.2]
   replace hg:¬ g' ∈ blks (remB [(g,B.c (List.map vint es++rest)),(b1,B.c [vint a,vu b])] g) _:=hg
   rw [hrem] at hg
   have n:=newb hg
   simp only [↓rA,rB,Int.reduceEq,Nat.reduceEqDiff,gb,g4,g6,hwi,hrem]
   refine⟨_,[],List.Sublist.refl _,List.nil_sublist _,?_⟩
   simp only [rB,Nat.reduceEqDiff,g1,g5]
   exact⟨_,[_],bi_next he hc',sng n.1,rfl,rfl,⟨_,rfl⟩,⟨_,rfl⟩⟩
 ·have h4:=hb.resolve_left (fun h=>absurd h.1 (by decide))
  obtain⟨_,g,c,es,rest,he,hc,hr,rfl,rfl⟩:=h4
  have hd:g ≠ b1∧b1 ≠ g:=hd _ (List.mem_singleton.2 rfl)
  have q4:¬ ((4:Nat):Int) < 4:=by decide
  simp only [↓rA,rB,g6,q4]
  refine EX_forS Ty.mixed (by kernel_rfl) 4 (fun i S=>∃ u bs,BI (4+i) u bs∧(∀ p ∈ bs,p.1 ≠ b1∧b1 ≠ p.1)∧S.boxes=bs++[(b1,.c [vint a,vu b])]∧S.rows=[]∧S.σ 1=ptr b1∧S.σ 3=u∧(∃ t,S.σ 5=vu t)∧S.σ 7=vint i) ⟨_,_,List.Sublist.refl _,List.Sublist.refl _,?_⟩ (fun i S hi ⟨u,bs,hb,hd,gb,gr,g1,g3,⟨t',g5⟩,g7⟩=>?_) (fun S ⟨u,bs,hb,hd,gb,gr,g1,g3,⟨t',g5⟩,g7⟩=>?_)
  ·simp only [rB,Nat.reduceEqDiff,gb,gr,g1,g3,g5]
   exact⟨_,[_],⟨g,c,es,rest,he,hc,hr,rfl,rfl⟩,sng hd.symm,rfl,rfl,⟨_,rfl⟩⟩
  ·have hwi:=wrap_succ (i:=i) (N:=4) hi (by omega)
   obtain⟨g,c,es,rest,he,hc,hr,rfl,rfl⟩:=hb
   have hd:g ≠ b1∧b1 ≠ g:=hd _ (List.mem_singleton.2 rfl)
   have hi4:(i:Int) < 4:=by omega
   simp only [↓rA,rB,Int.reduceEq,Nat.reduceEqDiff,Nat.reduceLT,Nat.reduceLeDiff,Nat.reduceMul,tbCH1,g3,g5,g7,hi4]
   intro y
   refine Or2.r ?_
   simp only [↓rA,rB,Nat.reduceLT,tbCH1,gb,gr]
   refine⟨⟨by simp [he,hr];omega,hc,by omega⟩,fun g' c' hg hc'=>?_⟩
   have hrem:remB [(g,B.c (List.map vint es++rest)),(b1,B.c [vint a,vu b])] g=[(b1,B.c [vint a,vu b])]:=by
    simp [remB,hd.2]
   replace hg:¬ g' ∈ blks (remB [(g,B.c (List.map vint es++rest)),(b1,B.c [vint a,vu b])] g) _:=hg
   rw [hrem] at hg
   have n:=newb hg
   simp only [↓rA,rB,Int.reduceEq,Nat.reduceEqDiff,gb,g5,g7,hwi,hrem]
   refine⟨_,[],List.Sublist.refl _,List.nil_sublist _,?_⟩
   simp only [rB,Nat.reduceEqDiff,g1]
   exact⟨_,[_],bi_nextB he hc',sng n.1,rfl,rfl,⟨_,rfl⟩⟩
  ·obtain⟨g,c,es,rest,he,hc,hr,rfl,rfl⟩:=hb
   have hd:g ≠ b1∧b1 ≠ g:=hd _ (List.mem_singleton.2 rfl)
   simp only [↓rA,rB,Nat.reduceAdd,Nat.reduceEqDiff,gb,gr,g3,g7,q4]
   refine⟨_,[_],[],Le.refl _,?_,List.nil_sublist _,⟨g,c,es,rest,he,hc,hr,rfl,rfl⟩,rfl⟩
   exact List.Sublist.cons_cons _ (List.nil_sublist _)
end Go.Proofs.YtopfanlkbepemaaGreat
set_option linter.unusedSimpArgs false
set_option maxRecDepth 100000
set_option linter.defProp false
namespace Go.Proofs.YtopfanlkbepemaaGreat
open Go.VL Go.Ar Go.Lo Go.Proofs.YtopfanlkbepemaaGreat
abbrev lI (y:Option Value) (es:List Int):V:=.list y 1 (es.map fun x=>[vint x])
theorem wrap_dec {m:Nat} (h:m≤1000):IntKind.i64.wrap ((m:Int) - 1)=(m:Int) - 1:=wrap_id (by omega) (by omega)
def tbCI0:=(aI Ty.t160 (aI Ty.t3 Ty.t4))
theorem below_ok (y y':Option Value) (a b:List Int) (ha:a.length=8) (hb:b.length=8):Ok Tryz.prog 199 [lI y a,lI y' b] [] fun v bs rs=>(∃ t,v=.lit (.bool t))∧bs=[]∧rs=[]:=by
 refine Ok.of_ex Ty.mixed Tryz.func199 rfl (by simp [Tryz.ntmps199]) (by kernel_rfl) fun F w0 I0=>?_
 simp only [↓rA,rB,Tryz.results199]
 refine EX_while Ty.mixed (by kernel_rfl) (fun k=>k) (fun(k:Nat) S=>k≤8∧S.boxes=[]∧S.rows=[]∧S.σ 0=lI y a∧S.σ 1=lI y' b∧S.σ 5=vint ((k:Int) - 1)) 8 ⟨0,?_⟩ (fun k S ⟨hk,gb,gr,g0,g1,g5⟩=>?_)
 ·simp only [rB,Nat.reduceEqDiff,reduceCtorEq]
  first | done | trivial | rfl | exact⟨Nat.le_refl _,rfl⟩
 ·rcases k with _ | m
  ·have q:¬ 0≤((0:Nat):Int) - 1:=by decide
   simp only [↓rA,rB,g5]
   exact⟨_,[],[],Le.refl _,List.nil_sublist _,List.nil_sublist _,⟨_,rfl⟩,rfl,rfl⟩
  ·have e:(((m+1:Nat)):Int) - 1=(m:Int):=by omega
   rw [e] at g5
   have q:(0:Int)≤(m:Int):=by omega
   have hm:m < 8:=by omega
   have hia:m < a.length:=by omega
   have hib:m < b.length:=by omega
   have hd:=wrap_dec (m:=m) (by omega)
   simp only [↓rA,rB,Nat.reduceEqDiff,reduceCtorEq,tbCI0,g0,g1,g5,q,Int.ofNat_lt,hm,ha,hb,List.length_map,getD_map _ _ _ hia,getD_map _ _ _ hib]
   refine onCond_splitb (fun hc=>?_) (fun hc=>?_)
   ·simp only [↓rA,rB,Nat.reduceEqDiff,reduceCtorEq,tbCI0,gb,gr,g0,g1,g5,q,Int.ofNat_lt,hm,ha,hb,List.length_map,getD_map _ _ _ hia,getD_map _ _ _ hib]
    exact⟨_,[],[],Le.refl _,List.nil_sublist _,List.nil_sublist _,⟨_,rfl⟩,rfl,rfl⟩
   ·simp only [↓rA,rB,Nat.reduceEqDiff,reduceCtorEq,gb,gr,g0,g1,g5,hd]
    exact⟨m,Nat.lt_succ_self _,0,by omega,rfl⟩
def tbCI1:=(aI Ty.t160 (aI Ty.t3 Ty.t4))
set_option maxHeartbeats 1000000 in
theorem carry_raw (y:Option Value) (a:List Int) (ha:a.length=8):Ok Tryz.prog 196 [lI y a] [] fun v bs rs=>BI 8 v bs∧rs=[]:=by
 refine Ok.of_ex Ty.mixed Tryz.func196 rfl (by simp [Tryz.ntmps196]) (by kernel_rfl) fun F w0 I0=>?_
 simp only [↓rA,rB,Tryz.results196]
 refine EX_forS Ty.mixed (by kernel_rfl) 8 (fun i S=>∃ u bs,BI0 i u bs∧S.boxes=bs∧S.rows=[]∧S.σ 0=lI y a∧S.σ 3=u∧(∃ t,S.σ 4=vint t)∧S.σ 5=vint i) ⟨_,_,List.Sublist.refl _,List.Sublist.refl _,?_⟩ (fun i S hi ⟨u,bs,hb,gb,gr,g0,g3,⟨t,g4⟩,g5⟩=>?_) (fun S ⟨u,bs,hb,gb,gr,g0,g3,⟨t,g4⟩,g5⟩=>?_)
 ·simp only [rB,Nat.reduceEqDiff,reduceCtorEq]
  exact⟨_,[],.inl ⟨rfl,rfl,rfl⟩,rfl,rfl,⟨_,rfl⟩⟩
 ·have hwi:=wrap_succ (i:=i) (N:=8) hi (by omega)
  have hia:i < a.length:=by omega
  have hi8:(i:Int) < 8:=by omega
  rcases hb with⟨rfl,rfl,rfl⟩ | ⟨h0,g,c,es,rest,he,hc,hr,rfl,rfl⟩
  ·simp only [↓rA,rB,Int.reduceEq,Int.reduceLT,Int.reduceToNat,Nat.reduceAdd,Nat.reduceEqDiff,reduceCtorEq,tbCI1,g0,g4,g5,ha,List.length_map,getD_map _ _ _ hia]
   refine onCond_splitb (fun hc=>?_) (fun hc=>?_) <;>
   ·simp only [↓rA,rB,Nat.reduceEqDiff,Nat.reduceLT,Nat.reduceLeDiff,Nat.reduceMul,tbCI1,g3]
    intro y
    refine Or2.r ?_
    simp only [↓rA,rB,Nat.reduceLT,Nat.reduceLeDiff,Nat.reduceMul,tbCI1,gb,gr]
    refine fun g c hg hc=>?_
    simp only [↓rA,rB,Nat.reduceEqDiff,g5]
    refine⟨_,[],List.Sublist.refl _,List.nil_sublist _,?_⟩
    simp only [rB,Nat.reduceEqDiff,reduceCtorEq,gb,g0]
    exact⟨_,[_],bi_one hc,rfl,rfl,⟨_,rfl⟩,rfl⟩
  ·have hrem:remB [(g,B.c (List.map vint es++rest))] g=[]:=by simp [remB]
   simp only [↓rA,rB,Int.reduceEq,Nat.reduceEqDiff,reduceCtorEq,tbCI1,g0,g4,g5,Int.ofNat_lt,hi,hi8,ha,List.length_map,getD_map _ _ _ hia]
   refine onCond_splitb (fun hc=>?_) (fun hc=>?_) <;>
   ·simp only [↓rA,rB,Nat.reduceEqDiff,Nat.reduceLT,Nat.reduceLeDiff,Nat.reduceMul,tbCI1,g3]
    intro y
    refine Or2.r ?_
    simp only [↓rA,rB,Nat.reduceLT,tbCI1,gb,gr]
    refine⟨⟨by simp [he,hr];omega,by assumption,by omega⟩,fun g' c' hg hc'=>?_⟩
    replace hg:¬ g' ∈ blks (remB [(g,B.c (List.map vint es++rest))] g) _:=hg
    simp only [↓rA,rB,Nat.reduceEqDiff,gb,g5,hwi,hrem]
    refine⟨_,[],List.Sublist.refl _,List.nil_sublist _,?_⟩
    simp only [rB,Nat.reduceEqDiff,reduceCtorEq,g0]
    exact⟨_,[_],bi_next he hc',rfl,rfl,⟨_,rfl⟩⟩
 ·obtain⟨_,g,c,es,rest,he,hc,hr,rfl,rfl⟩:=hb.resolve_left (fun h=>absurd h.1 (by decide))
  have q:¬ ((8:Nat):Int) < 8:=by decide
  simp only [↓rA,rB,Nat.reduceEqDiff,gb,gr,g3,g5,q]
  exact⟨_,[_],[],Le.refl _,List.Sublist.refl _,List.nil_sublist _,⟨g,c,es,rest,he,hc,hr,rfl,rfl⟩,rfl⟩
end Go.Proofs.YtopfanlkbepemaaGreat
set_option linter.unusedSimpArgs false
set_option maxRecDepth 100000
set_option linter.defProp false
namespace Go.Proofs.YtopfanlkbepemaaGreat
open Go.VL Go.Ar Go.Lo Go.Proofs.YtopfanlkbepemaaGreat
def IL (v:V):Prop:=∃ y es,es.length=8∧v=lI y es
theorem li_flat (es:List Int):(es.map fun x=>[vint x]).flatten=es.map vint:=by
 induction es with
 | nil=>rfl
 | cons a l ih=>simp only [List.map_cons,List.flatten_cons,ih];rfl
theorem bi_frozen {g c:Nat} {es:List Int} {rest:List V} {n:Nat} (he:es.length=n) (hc:n≤c):Frozen g n c 1 (es.map vint++rest) (es.map fun x=>[vint x]) :=
 ⟨by rw [li_flat,Nat.mul_one,List.take_left' (by rw [List.length_map,he])],fun e h=>by obtain⟨x,_,rfl⟩:=List.mem_map.1 h;rfl,by rw [List.length_map,he],hc⟩
theorem bi_list {f:FuncId} {args:List V} {bs0:List (Nat × B)} (h:Ok Tryz.prog f args bs0 fun v bs rs=>BI 8 v bs∧rs=[]):Ok Tryz.prog f args bs0 fun v bs rs=>IL v∧bs=[]∧rs=[]:=by
 refine Ok.freeze h fun v bs rs h=>?_
 obtain⟨⟨g,c,es,rest,he,hc,hr,rfl,rfl⟩,rfl⟩:=h
 exact .inr ⟨g,8,c,1,_,_,[],_,List.Perm.refl _,bi_frozen he hc,.here,⟨_,es,he,rfl⟩,rfl,rfl⟩
theorem bi_con {f:FuncId} {args:List V} {v:V} {bs:List (Nat × B)} {Q:V→List (Nat × B)→List Row→Prop} (h:∀ y es,es.length=8→Ok Tryz.prog f (lI y es::args) [] Q) (hb:BI 8 v bs):Ok Tryz.prog f (v::args) bs Q:=by
 obtain⟨g,c,es,rest,he,hc,hr,rfl,rfl⟩:=hb
 exact Ok.consume (bi_frozen he hc) (.cons .here (FzL.refl _)) (h _ es he)
theorem digits_list (v:V) (hv:Wd v):Ok Tryz.prog 194 [v] [] fun v bs rs=>IL v∧bs=[]∧rs=[]:=bi_list (digits_ok v hv)
theorem carry_ok (v:V) (hv:IL v):Ok Tryz.prog 196 [v] [] fun v bs rs=>IL v∧bs=[]∧rs=[]:=by
 obtain⟨y,es,he,rfl⟩:=hv
 exact bi_list (carry_raw y es he)
theorem carry_bi (v:V) (bs:List (Nat × B)) (hv:BI 8 v bs):Ok Tryz.prog 196 [v] bs fun v bs rs=>IL v∧bs=[]∧rs=[] :=
 bi_con (fun y es he=>bi_list (carry_raw y es he)) hv
def tbCJ0:=(aI (aI Ty.t160 Ty.t175) (aI Ty.t268 (aI Ty.t3 Ty.t4)))
theorem make_ok (v:V) (hv:IL v):Ok Tryz.prog 195 [v] [] fun v bs rs=>Wd v∧bs=[]∧rs=[]:=by
 obtain⟨y,a,ha,rfl⟩:=hv
 refine Ok.of_ex Ty.mixed Tryz.func195 rfl (by simp [Tryz.ntmps195]) (by kernel_rfl) fun F w0 I0=>?_
 simp only [↓rA,rB,tbCJ0]
 refine fun b2 h2=>?_;replace h2:=newb h2;try simp only [Nb] at h2
 simp only [↓rA,rB,Tryz.results195]
 refine EX_while Ty.mixed (by kernel_rfl) (fun k=>k) (fun(k:Nat) S=>k≤4∧(∃ x,S.boxes=[(b2,x)]∧x=.c [vint 0,vu 0])∧S.rows=[]∧S.σ 0=lI y a∧S.σ 2=ptr b2∧(∃ t,S.σ 3=vu t)∧(∃ t,S.σ 4=vu t)∧S.σ 5=vint ((k:Int) - 1)) 4 ⟨0,?_⟩ (fun k S ⟨hk,⟨x,gb,hx⟩,gr,g0,g2,⟨t3,g3⟩,⟨t4,g4⟩,g5⟩=>?_)
 ·simp only [rB,Nat.reduceEqDiff,reduceCtorEq]
  exact⟨⟨_,rfl,rfl⟩,⟨_,rfl⟩,⟨_,rfl⟩,rfl⟩
 ·subst hx
  rcases k with _ | m
  ·have q:¬ (0:Int)≤0 - 1:=by decide
   simp only [↓rA,rB,Nat.reduceAdd,Nat.reduceEqDiff,Nat.reduceLeDiff,tbCJ0,gb,gr,g2,g3,g4,g5,q]
   exact⟨_,[],[],Le.refl _,List.nil_sublist _,List.nil_sublist _,⟨_,_,rfl⟩,rfl,rfl⟩
  ·have e:(((m+1:Nat)):Int) - 1=(m:Int):=by omega
   rw [e] at g5
   have q:(0:Int)≤(m:Int):=by omega
   have hm:m < 8:=by omega
   have hm':m+4 < 8:=by omega
   have hia:m < a.length:=by omega
   have hib:m+4 < a.length:=by omega
   have hd:=wrap_dec (m:=m) (by omega)
   have hp:IntKind.i64.wrap ((m:Int)+4)=((m+4:Nat):Int):=by rw [wrap_id (by omega) (by omega)];omega
   simp only [↓rA,rB,Nat.reduceEqDiff,reduceCtorEq,tbCJ0,gb,gr,g0,g2,g3,g4,g5,q,hp,Int.ofNat_lt,hm,hm',ha,hd,List.length_map,getD_map _ _ _ hia,getD_map _ _ _ hib]
   exact⟨m,Nat.lt_succ_self _,0,by omega,⟨_,rfl,rfl⟩,⟨_,rfl⟩,⟨_,rfl⟩,rfl⟩
def tbCJ1:=(aI (aI Ty.c196 Ty.t160) (aI Ty.t3 Ty.t4))
set_option maxHeartbeats 1000000 in
theorem twice_ok (v:V) (hv:IL v) (n:Int):Ok Tryz.prog 198 [v,vint n] [] fun v bs rs=>IL v∧bs=[]∧rs=[]:=by
 obtain⟨y,a,ha,rfl⟩:=hv
 refine Ok.of_ex Ty.mixed Tryz.func198 rfl (by simp [Tryz.ntmps198]) (by kernel_rfl) fun F w0 I0=>?_
 simp only [↓rA,rB,Tryz.results198]
 refine EX_forS Ty.mixed (by kernel_rfl) 8 (fun i S=>∃ u bs,BI0 i u bs∧S.boxes=bs∧S.rows=[]∧S.σ 0=lI y a∧S.σ 1=vint n∧S.σ 5=u∧S.σ 6=vint i) ⟨_,_,List.Sublist.refl _,List.Sublist.refl _,?_⟩ (fun i S hi ⟨u,bs,hb,gb,gr,g0,g1,g5,g6⟩=>?_) (fun S ⟨u,bs,hb,gb,gr,g0,g1,g5,g6⟩=>?_)
 ·simp only [rB,Nat.reduceEqDiff,reduceCtorEq]
  exact⟨_,[],.inl ⟨rfl,rfl,rfl⟩,rfl,rfl⟩
 ·have hwi:=wrap_succ (i:=i) (N:=8) hi (by omega)
  have hia:i < a.length:=by omega
  have hi8:(i:Int) < 8:=by omega
  rcases hb with⟨rfl,rfl,rfl⟩ | ⟨h0,g,c,es,rest,he,hc,hr,rfl,rfl⟩
  ·simp only [↓rA,rB,Int.reduceLT,Int.reduceToNat,Nat.reduceAdd,Nat.reduceEqDiff,Nat.reduceLT,Nat.reduceLeDiff,Nat.reduceMul,reduceCtorEq,tbCJ1,g0,g5,g6,ha,List.length_map,getD_map _ _ _ hia]
   intro y
   refine Or2.r ?_
   simp only [↓rA,rB,Nat.reduceLT,Nat.reduceLeDiff,Nat.reduceMul,tbCJ1,gb,gr]
   refine fun g c hg hc=>?_
   simp only [↓rA,rB,Nat.reduceEqDiff,g6]
   refine⟨_,[],List.Sublist.refl _,List.nil_sublist _,?_⟩
   simp only [rB,Nat.reduceEqDiff,reduceCtorEq,gb,g0,g1]
   exact⟨_,[_],bi_one hc,rfl,rfl,rfl⟩
  ·have hrem:remB [(g,B.c (List.map vint es++rest))] g=[]:=by simp [remB]
   simp only [↓rA,rB,Nat.reduceEqDiff,Nat.reduceLT,Nat.reduceLeDiff,Nat.reduceMul,reduceCtorEq,tbCJ1,g0,g5,g6,Int.ofNat_lt,hi,hi8,ha,List.length_map,getD_map _ _ _ hia]
   intro y
   refine Or2.r ?_
   simp only [↓rA,rB,Nat.reduceLT,tbCJ1,gb,gr]
   refine⟨⟨by simp [he,hr];omega,by assumption,by omega⟩,fun g' c' hg hc'=>?_⟩
   replace hg:¬ g' ∈ blks (remB [(g,B.c (List.map vint es++rest))] g) _:=hg
   simp only [↓rA,rB,Nat.reduceEqDiff,gb,g6,hwi,hrem]
   refine⟨_,[],List.Sublist.refl _,List.nil_sublist _,?_⟩
   simp only [rB,Nat.reduceEqDiff,reduceCtorEq,g0,g1]
   exact⟨_,[_],bi_next he hc',rfl,rfl⟩
 ·obtain⟨_,g,c,es,rest,he,hc,hr,rfl,rfl⟩:=hb.resolve_left (fun h=>absurd h.1 (by decide))
  have q:¬ ((8:Nat):Int) < 8:=by decide
  obtain⟨e0,es',rfl⟩:∃ e0 es',es=e0::es':=by
   cases es with
   | nil=>cases he
   | cons a l=>exact⟨a,l,rfl⟩
  simp only [↓rA,rB,Int.reduceToNat,Nat.reduceAdd,Nat.reduceEqDiff,Nat.reduceLeDiff,Nat.reduceMul,tbCJ1,gb,g1,g5,g6,q]
  refine OkF_with [_] [] (List.Perm.refl _) (carry_bi _ _ ⟨g,c,IntKind.i64.wrap (e0+n)::es',rest,by simpa using he,hc,hr,rfl,rfl⟩) ?_
  rintro v bs rs ⟨hv,rfl,rfl⟩
  simp only [↓rA,rB]
  exact⟨_,[],[],Le.refl _,List.nil_sublist _,List.nil_sublist _,hv,rfl,rfl⟩
theorem twice_bi (v:V) (bs:List (Nat × B)) (hv:BI 8 v bs) (n:Int):Ok Tryz.prog 198 [v,vint n] bs fun v bs rs=>IL v∧bs=[]∧rs=[] :=
 bi_con (fun y es he=>twice_ok _ ⟨y,es,he,rfl⟩ n) hv
def tbCJ2:=(aI (aI Ty.c196 Ty.t160) (aI Ty.t3 Ty.t4))
set_option maxHeartbeats 1000000 in
theorem minus_ok (v w:V) (hv:IL v) (hw:IL w):Ok Tryz.prog 200 [v,w] [] fun v bs rs=>IL v∧bs=[]∧rs=[]:=by
 obtain⟨y,a,ha,rfl⟩:=hv
 obtain⟨y',a',ha',rfl⟩:=hw
 refine Ok.of_exM [(5,4)] Ty.mixed Tryz.func200 rfl (by simp [Tryz.ntmps200]) (by kernel_rfl) fun F w0 I0=>?_
 simp only [↓rA,rB,Tryz.results200]
 refine EX_forS Ty.mixed (by kernel_rfl) 8 (fun i S=>((i=0∧S.σ 5=nilS∧S.rows=[])∨∃ z es,es.length=i∧S.σ 5=lI (some z) es∧S.rows=[⟨z,1,3⟩])∧S.boxes=[]∧S.σ 0=lI y a∧S.σ 1=lI y' a'∧S.σ 6=vint i) ⟨_,_,List.Sublist.refl _,List.Sublist.refl _,?_⟩ (fun i S hi ⟨hb,gb,g0,g1,g6⟩=>?_) (fun S ⟨hb,gb,g0,g1,g6⟩=>?_)
 ·simp only [rB,Nat.reduceEqDiff,reduceCtorEq]
 ·have hwi:=wrap_succ (i:=i) (N:=8) hi (by omega)
  have hia:i < a.length:=by omega
  have hia':i < a'.length:=by omega
  have hi8:(i:Int) < 8:=by omega
  rcases hb with⟨rfl,g5,gr⟩ | ⟨z,es,he,g5,gr⟩
  ·simp only [↓rA,rB,Int.reduceLT,Int.reduceToNat,Nat.reduceAdd,Nat.reduceEqDiff,Nat.reduceLT,Nat.reduceLeDiff,Nat.reduceMul,reduceCtorEq,tbCJ2,g0,g1,g5,g6,hi,ha,ha',List.length_map,getD_map _ _ _ hia,getD_map _ _ _ hia']
   intro y1 y2
   refine⟨[],[⟨y2,1,3⟩],List.nil_sublist _,?_,?_⟩
   ·exact List.Sublist.cons_cons _ (List.nil_sublist _)
   simp only [rB,Nat.reduceEqDiff,reduceCtorEq,g0,g1]
   exact⟨⟨y2,[_],rfl,rfl,rfl⟩,rfl⟩
  ·simp only [↓rA,rB,Nat.reduceEqDiff,Nat.reduceLT,Nat.reduceLeDiff,Nat.reduceMul,reduceCtorEq,tbCJ2,gr,g0,g1,g5,g6,Int.ofNat_lt,hi,hi8,ha,ha',List.length_map,getD_map _ _ _ hia,getD_map _ _ _ hia']
   intro y1
   refine takeRF_2 ?_
   simp only [↓rA,rB,Nat.reduceEqDiff,reduceCtorEq,g6,hwi,List.length_map,he]
   refine⟨by omega,fun y2=>?_⟩
   refine⟨[],[⟨y2,1,3⟩],List.nil_sublist _,List.Sublist.cons_cons _ (List.nil_sublist _),?_⟩
   simp only [rB,Nat.reduceEqDiff,reduceCtorEq,g0,g1]
   refine⟨y2,es++[IntKind.i64.wrap (a[i] - a'[i])],by rw [List.length_append,he];rfl,?_,rfl⟩
   rw [lI,List.map_append]
   rfl
 ·obtain⟨h,_⟩ | ⟨z,es,he,g5,gr⟩:=hb
  ·cases h
  have q:¬ ((8:Nat):Int) < 8:=by decide
  simp only [↓rA,rB,Nat.reduceEqDiff,tbCJ2,gb,g5,g6,q]
  refine OkF_with [] _ (List.Perm.refl _) (carry_ok _ ⟨_,es,he,rfl⟩) ?_
  rintro v bs rs ⟨hv,rfl,rfl⟩
  simp only [↓rA,rB]
  exact⟨_,[],[],Le.refl _,List.nil_sublist _,List.nil_sublist _,hv,rfl,rfl⟩
end Go.Proofs.YtopfanlkbepemaaGreat
set_option linter.unusedSimpArgs false
set_option maxRecDepth 100000
set_option linter.defProp false
namespace Go.Proofs.YtopfanlkbepemaaGreat
open Go.VL Go.Ar Go.Lo Go.Proofs.YtopfanlkbepemaaGreat
theorem dropM {A R:List V} {n:Nat} (h:A.length=n):(A++R).drop n=R:=List.drop_left' h
theorem cutM {A R:List V} {v w:V} {n:Nat} (h:A.length=n):(A++v::R).take n++[w]++(A++v::R).drop (n+1)=A++w::R:=by
 subst h
 rw [List.take_left,← List.drop_drop,List.drop_left,List.append_assoc]
 rfl
theorem split_at {es:List Int} {i:Nat} (h:i < es.length):∃ A B,A.length=i∧es.map vint=A++vint es[i]::B∧∀ z,(es.set i z).map vint=A++vint z::B:=by
 induction es generalizing i with
 | nil=>cases h
 | cons a l ih =>
  cases i with
  | zero=>exact⟨[],l.map vint,rfl,rfl,fun _=>rfl⟩
  | succ i =>
   obtain⟨A,B,h1,h2,h3⟩:=ih (Nat.lt_of_succ_lt_succ h)
   exact⟨vint a::A,B,by rw [List.length_cons,h1],by simp [h2],fun z=>by simp [h3]⟩
def tbCK0:=(aI (aI (aI Ty.c194 Ty.c195) (aI Ty.c196 Ty.t160)) (aI (aI Ty.t175 Ty.t268) (aI Ty.t3 Ty.t4)))
theorem add_ok (v w:V) (hv:Wd v) (hw:Wd w):Ok Tryz.prog 192 [v,w] [] fun v bs rs=>Wd v∧bs=[]∧rs=[]:=by
 obtain⟨a,b,rfl⟩:=hv
 obtain⟨a',b',rfl⟩:=hw
 refine Ok.of_ex Ty.mixed Tryz.func192 rfl (by simp [Tryz.ntmps192]) (by kernel_rfl) fun F w0 I0=>?_
 simp only [↓rA,rB]
 refine fun b2 h2=>?_;replace h2:=newb h2;try simp only [Nb] at h2
 simp only [↓rA,rB,Nat.reduceEqDiff]
 refine fun b3 h3=>?_;replace h3:=newb h3;try simp only [Nb] at h3
 simp only [↓rA,rB,tbCK0]
 refine fun b4 h4=>?_;replace h4:=newb h4;try simp only [Nb] at h4
 simp only [↓rA,rB,Nat.reduceAdd,Nat.reduceEqDiff,tbCK0,h3,h4]
 refine OkF_withN [] _ (List.Perm.refl _) (digits_ok _ ⟨a,b,rfl⟩) ?_
 rintro v bs rs ⟨⟨g,c,es,rest,he,hc,hr,rfl,rfl⟩,rfl⟩ hnd
 simp only [List.map_cons,List.map_nil,List.nodup_cons,List.mem_cons,List.not_mem_nil,or_false,not_or,List.cons_append,List.nil_append] at hnd
 have n4:b4 ≠ g∧g ≠ b4:=⟨Ne.symm hnd.1.1,hnd.1.1⟩
 have n3:b3 ≠ g∧g ≠ b3:=⟨Ne.symm hnd.1.2.1,hnd.1.2.1⟩
 have n2:b2 ≠ g∧g ≠ b2:=⟨Ne.symm hnd.1.2.2,hnd.1.2.2⟩
 have hh:=And.intro n2 (And.intro n3 (And.intro n4 (And.intro h2 (And.intro h3 h4))))
 simp only [↓rA,rB,Nat.reduceAdd,Nat.reduceEqDiff,tbCK0,hh]
 refine OkF_with [] _ (List.Perm.refl _) (digits_list _ ⟨a',b',rfl⟩) ?_
 rintro v bs rs ⟨⟨y,es',he',rfl⟩,rfl,rfl⟩
 simp only [↓rA,rB,Tryz.results192]
 refine EX_for Ty.mixed (by kernel_rfl) 8 (fun i S=>(∃ es:List Int,es.length=8∧S.boxes=[(g,.c (es.map vint++rest)),(b4,.c [vint 0,vu 0]),(b3,.c [vint a',vu b']),(b2,.c [vint a,vu b])])∧S.rows=[]∧S.σ 4=ptr b4∧S.σ 5=slI g 8 c∧S.σ 6=lI y es'∧S.σ 7=vint i) ⟨0,?_⟩ (fun i S hi ⟨⟨es,he,gb⟩,gr,g4,g5,g6,g7⟩=>?_) (fun S ⟨⟨es,he,gb⟩,gr,g4,g5,g6,g7⟩=>?_)
 ·simp only [rB,Nat.reduceEqDiff]
  exact⟨es,he,rfl⟩
 ·have hwi:=wrap_succ (i:=i) (N:=8) hi (by omega)
  have hi8:(i:Int) < 8:=by omega
  have hie:i < es.length:=by omega
  have hie':i < es'.length:=by omega
  obtain⟨A,B,hA,e1,e2⟩:=split_at hie
  have hA1:A.length=i * 1:=by omega
  rw [e1,List.append_assoc,List.cons_append] at gb
  simp only [↓rA,rB,Nat.reduceEqDiff,tbCK0,gb,gr,g4,g5,g6,g7,hwi,Int.ofNat_lt,hi,he',List.length_map,getD_map _ _ _ hie',dropM hA1,hi8]
  refine⟨by rw [List.length_append,List.length_cons];omega,0,es.set i (IntKind.i64.wrap (es[i]+es'[i])),by rw [List.length_set];exact he,?_⟩
  rw [List.drop_zero,e2,cutM hA1,List.append_assoc,List.cons_append]
 ·have q:¬ ((8:Nat):Int) < 8:=by decide
  simp only [↓rA,rB,Nat.reduceEqDiff,tbCK0,gb,g5,g7,q]
  refine OkF_with [_] _ (List.Perm.refl _) (carry_bi _ _ ⟨g,c,es,rest,he,hc,hr,rfl,rfl⟩) ?_
  rintro v bs rs ⟨hv,rfl,rfl⟩
  simp only [↓rA,rB,tbCK0]
  refine OkF_with [] _ (List.Perm.refl _) (make_ok _ hv) ?_
  rintro v bs rs ⟨⟨x,x',rfl⟩,rfl,rfl⟩
  simp only [↓rA,rB,Nat.reduceAdd,Nat.reduceEqDiff,tbCK0,g4]
  exact⟨_,[],[],Le.refl _,List.nil_sublist _,List.nil_sublist _,⟨_,_,rfl⟩,rfl,rfl⟩
def tbCK1:=(aI (aI (aI Ty.c194 Ty.c195) (aI Ty.c196 Ty.t160)) (aI (aI Ty.t175 Ty.t268) (aI Ty.t3 Ty.t4)))
theorem sub_ok (v w:V) (hv:Wd v) (hw:Wd w):Ok Tryz.prog 202 [v,w] [] fun v bs rs=>Wd v∧bs=[]∧rs=[]:=by
 obtain⟨a,b,rfl⟩:=hv
 obtain⟨a',b',rfl⟩:=hw
 refine Ok.of_ex Ty.mixed Tryz.func202 rfl (by simp [Tryz.ntmps202]) (by kernel_rfl) fun F w0 I0=>?_
 simp only [↓rA,rB]
 refine fun b2 h2=>?_;replace h2:=newb h2;try simp only [Nb] at h2
 simp only [↓rA,rB,Nat.reduceEqDiff]
 refine fun b3 h3=>?_;replace h3:=newb h3;try simp only [Nb] at h3
 simp only [↓rA,rB,tbCK1]
 refine fun b4 h4=>?_;replace h4:=newb h4;try simp only [Nb] at h4
 simp only [↓rA,rB,Nat.reduceAdd,Nat.reduceEqDiff,tbCK1,h3,h4]
 refine OkF_withN [] _ (List.Perm.refl _) (digits_ok _ ⟨a,b,rfl⟩) ?_
 rintro v bs rs ⟨⟨g,c,es,rest,he,hc,hr,rfl,rfl⟩,rfl⟩ hnd
 simp only [List.map_cons,List.map_nil,List.nodup_cons,List.mem_cons,List.not_mem_nil,or_false,not_or,List.cons_append,List.nil_append] at hnd
 have n4:b4 ≠ g∧g ≠ b4:=⟨Ne.symm hnd.1.1,hnd.1.1⟩
 have n3:b3 ≠ g∧g ≠ b3:=⟨Ne.symm hnd.1.2.1,hnd.1.2.1⟩
 have n2:b2 ≠ g∧g ≠ b2:=⟨Ne.symm hnd.1.2.2,hnd.1.2.2⟩
 have hh:=And.intro n2 (And.intro n3 (And.intro n4 (And.intro h2 (And.intro h3 h4))))
 simp only [↓rA,rB,Nat.reduceAdd,Nat.reduceEqDiff,tbCK1,hh]
 refine OkF_with [] _ (List.Perm.refl _) (digits_list _ ⟨a',b',rfl⟩) ?_
 rintro v bs rs ⟨⟨y,es',he',rfl⟩,rfl,rfl⟩
 simp only [↓rA,rB,Tryz.results202]
 refine EX_for Ty.mixed (by kernel_rfl) 8 (fun i S=>(∃ es:List Int,es.length=8∧S.boxes=[(g,.c (es.map vint++rest)),(b4,.c [vint 0,vu 0]),(b3,.c [vint a',vu b']),(b2,.c [vint a,vu b])])∧S.rows=[]∧S.σ 4=ptr b4∧S.σ 5=slI g 8 c∧S.σ 6=lI y es'∧S.σ 7=vint i) ⟨0,?_⟩ (fun i S hi ⟨⟨es,he,gb⟩,gr,g4,g5,g6,g7⟩=>?_) (fun S ⟨⟨es,he,gb⟩,gr,g4,g5,g6,g7⟩=>?_)
 ·simp only [rB,Nat.reduceEqDiff]
  exact⟨es,he,rfl⟩
 ·have hwi:=wrap_succ (i:=i) (N:=8) hi (by omega)
  have hi8:(i:Int) < 8:=by omega
  have hie:i < es.length:=by omega
  have hie':i < es'.length:=by omega
  obtain⟨A,B,hA,e1,e2⟩:=split_at hie
  have hA1:A.length=i * 1:=by omega
  rw [e1,List.append_assoc,List.cons_append] at gb
  simp only [↓rA,rB,Nat.reduceEqDiff,tbCK1,gb,gr,g4,g5,g6,g7,hwi,Int.ofNat_lt,hi,he',List.length_map,getD_map _ _ _ hie',dropM hA1,hi8]
  refine⟨by rw [List.length_append,List.length_cons];omega,0,es.set i (IntKind.i64.wrap (es[i] - es'[i])),by rw [List.length_set];exact he,?_⟩
  rw [List.drop_zero,e2,cutM hA1,List.append_assoc,List.cons_append]
 ·have q:¬ ((8:Nat):Int) < 8:=by decide
  simp only [↓rA,rB,Nat.reduceEqDiff,tbCK1,gb,g5,g7,q]
  refine OkF_with [_] _ (List.Perm.refl _) (carry_bi _ _ ⟨g,c,es,rest,he,hc,hr,rfl,rfl⟩) ?_
  rintro v bs rs ⟨hv,rfl,rfl⟩
  simp only [↓rA,rB,tbCK1]
  refine OkF_with [] _ (List.Perm.refl _) (make_ok _ hv) ?_
  rintro v bs rs ⟨⟨x,x',rfl⟩,rfl,rfl⟩
  simp only [↓rA,rB,Nat.reduceAdd,Nat.reduceEqDiff,tbCK1,g4]
  exact⟨_,[],[],Le.refl _,List.nil_sublist _,List.nil_sublist _,⟨_,_,rfl⟩,rfl,rfl⟩
def tbCK2:=(aI (aI Ty.c191 Ty.c202) (aI Ty.t175 (aI Ty.t268 Ty.t3)))
theorem neg01_ok (v:V) (hv:Wd v):Ok Tryz.prog 201 [v] [] fun v bs rs=>Wd v∧bs=[]∧rs=[]:=by
 obtain⟨a,b,rfl⟩:=hv
 refine Ok.of_exM [(1,3)] Ty.mixed Tryz.func201 rfl (by simp [Tryz.ntmps201]) (by kernel_rfl) fun F w0 I0=>?_
 simp only [↓rA,rB]
 refine fun b1 h1=>?_;replace h1:=newb h1;try simp only [Nb] at h1
 simp only [↓rA,rB,tbCK2]
 refine fun b2 h2=>?_;replace h2:=newb h2;try simp only [Nb] at h2
 have hh:=And.intro h1 h2
 simp only [↓rA,rB,Tryz.results201]
 refine EX_invA Ty.mixed (by kernel_rfl) (by kernel_rfl) (fun L S=>S.rows=[]∧S.σ 1=ptr b1∧S.σ 2=ptr b2∧(∃ x x',S.boxes=[(b2,.c [vint x,vu x']),(b1,.c [vint a,vu b])])∧(L 0=true→Wd (S.σ 3))∧(L 1=true→S.σ 4=.agg [vint a,vu b])∧(L 2=true→Wd (S.σ 5))) ?_ ?_ ?_
 ·exact⟨rfl,rfl,rfl,⟨_,_,rfl⟩,(fun h=>by cases h),(fun h=>by cases h),(fun h=>by cases h)⟩
 ·intro L S i o ho hL he ⟨gr,g1,g2,⟨x,x',gb⟩,f0,f1,f2⟩
  match i,ho with
  | 0,ho =>
   cases ho
   simp only [↓rA,rB,tbCK2,gb]
   refine OkF_with [] _ (List.Perm.refl _) (of_ok 0) ?_
   rintro v bs rs ⟨hv,rfl,rfl⟩
   simp only [↓rA,rB,Nat.reduceEqDiff,gr,g1,g2]
   exact⟨⟨_,_,rfl⟩,fun _=>hv,f1,f2⟩
  | 1,ho =>
   cases ho
   simp only [↓rA,rB,Nat.reduceAdd,Nat.reduceEqDiff,tbCK2,gr,gb,g1,g2,hh]
   exact⟨⟨_,_,rfl⟩,f0,fun _=>trivial,f2⟩
  | 2,ho =>
   cases ho
   have q0:=f0 (he ⟨0,.data⟩ (by simp) rfl)
   have q1:=f1 (he ⟨1,.data⟩ (by simp) rfl)
   simp only [↓rA,rB,tbCK2,gb,q1]
   refine OkF_with [] _ (List.Perm.refl _) (sub_ok _ _ q0 ⟨a,b,rfl⟩) ?_
   rintro v bs rs ⟨hv,rfl,rfl⟩
   simp only [↓rA,rB,Nat.reduceEqDiff,gr,g1,g2]
   exact⟨⟨_,_,rfl⟩,f0,f1,fun _=>hv⟩
  | 3,ho =>
   cases ho
   obtain⟨y,y',q2⟩:=f2 (he ⟨2,.data⟩ (by simp) rfl)
   simp only [↓rA,rB,Nat.reduceAdd,tbCK2,gr,gb,g1,g2,q2]
   exact⟨⟨_,_,rfl⟩,f0,f1,fun _=>⟨_,_,rfl⟩⟩
 ·intro L S hL ⟨gr,g1,g2,⟨x,x',gb⟩,f0,f1,f2⟩
  simp only [↓rA,rB,Nat.reduceAdd,tbCK2,gr,gb,g2]
  exact⟨_,[],[],Le.refl _,List.nil_sublist _,List.nil_sublist _,⟨_,_,rfl⟩,rfl,rfl⟩
def tbCK3:=(aI (aI Ty.c194 (aI Ty.c201 Ty.t160)) (aI (aI Ty.t175 Ty.t268) (aI Ty.t3 Ty.t4)))
theorem size_ok (v:V) (hv:Wd v):Ok Tryz.prog 197 [v] [] fun v bs rs=>IL v∧bs=[]∧rs=[]:=by
 obtain⟨a,b,rfl⟩:=hv
 refine Ok.of_ex Ty.mixed Tryz.func197 rfl (by simp [Tryz.ntmps197]) (by kernel_rfl) fun F w0 I0=>?_
 simp only [↓rA,rB]
 refine fun b1 h1=>?_;replace h1:=newb h1;try simp only [Nb] at h1
 simp only [↓rA,rB,Nat.reduceAdd,Nat.reduceEqDiff,tbCK3]
 refine onCond_splitb (fun hc=>?_) (fun hc=>?_)
 ·simp only [↓rA,rB,Nat.reduceAdd,Nat.reduceEqDiff,tbCK3]
  refine OkF_with [] _ (List.Perm.refl _) (neg01_ok _ ⟨a,b,rfl⟩) ?_
  rintro v bs rs ⟨hv,rfl,rfl⟩
  simp only [↓rA,rB,tbCK3]
  refine OkF_with [] _ (List.Perm.refl _) (digits_list _ hv) ?_
  rintro v bs rs ⟨hv,rfl,rfl⟩
  simp only [↓rA,rB,Tryz.results197]
  exact⟨_,[],[],Le.refl _,List.nil_sublist _,List.nil_sublist _,hv,rfl,rfl⟩
 ·simp only [↓rA,rB,Nat.reduceAdd,Nat.reduceEqDiff,tbCK3]
  refine OkF_with [] _ (List.Perm.refl _) (digits_list _ ⟨a,b,rfl⟩) ?_
  rintro v bs rs ⟨hv,rfl,rfl⟩
  simp only [↓rA,rB,Tryz.results197]
  exact⟨_,[],[],Le.refl _,List.nil_sublist _,List.nil_sublist _,hv,rfl,rfl⟩
end Go.Proofs.YtopfanlkbepemaaGreat
