/- Merged out of my texts W1 W2 LA W3 W4 CA U0 U1 W5 W6 LB LS LC LD LE LF W7 W8 U2. -/
import Derived.Shelf.Strings.OnBuilder
import Derived.KernelRfl
import Derived.Test.YtohdpcjaoiebkaaGreatDoorProg
import Derived.Shelf.Strconv.Itoa3
import Derived.Test.YtohdpcjaoiebkaaGreatDoorKa
import Derived.Test.YtohdpcjaoiebkaaGreatDoorKVT
import Derived.Test.YtohdpcjaoiebkaaGreatDoorKTy
import Derived.Test.YtohdpcjaoiebkaaGreatDoorKVFn
import Derived.Lib.ItoaLen
import Derived.Test.YtohdpcjaoiebkaaGreatDoorKVK
import Derived.Lib.IndexMore
import Derived.Lib.ItoaNum
import Derived.Lib.Join
import Derived.Shelf.Strings.Search3
import Derived.Test.YtohdpcjaoiebkaaGreatDoorKVH
set_option linter.unusedSimpArgs false
set_option linter.unusedVariables false
namespace Go.Proofs
open Go.Shelf
def Tryz.lays156_ren:Go.Shelf.Ren:=⟨fun | 156=>128 | 165=>152 | 166=>153 | 169=>154 | 240=>165 | 241=>166 | 276=>179 | 277=>180 | n=>n,fun | 31=>69 | 9=>9 | 3=>3 | 4=>4 | 0=>0 | 20=>20 | 72=>190 | 76=>194 | 70=>188 | 37=>91 | 75=>193 | 127=>203 | 164=>211 | 5=>5 | 80=>79 | n=>n,fun | n=>n⟩
theorem Tryz.lays156:Go.Proofs.Lays.n156 Tryz.prog Tryz.lays156_ren:={
 mixed:=by kernel_rfl
 f156:=Tryz.func128.trans (congrArg some (by kernel_rfl))
 f165:=Tryz.func152.trans (congrArg some (by kernel_rfl))
 f166:=Tryz.func153.trans (congrArg some (by kernel_rfl))
 f169:=Tryz.func154.trans (congrArg some (by kernel_rfl))
 f240:=Tryz.func165.trans (congrArg some (by kernel_rfl))
 f241:=Tryz.func166.trans (congrArg some (by kernel_rfl))
 f276:=Tryz.func179.trans (congrArg some (by kernel_rfl))
 f277:=Tryz.func180.trans (congrArg some (by kernel_rfl))
 t0:=Tryz.underlying0
 a0:=Tryz.isAgg0
 z0:=Tryz.sizeOf0
 v0:=Tryz.zeroValue0
 t3:=Tryz.underlying3
 a3:=Tryz.isAgg3
 z3:=Tryz.sizeOf3
 v3:=Tryz.zeroValue3
 t4:=Tryz.underlying4
 a4:=Tryz.isAgg4
 z4:=Tryz.sizeOf4
 v4:=Tryz.zeroValue4
 t9:=Tryz.underlying9
 a9:=Tryz.isAgg9
 z9:=Tryz.sizeOf9
 v9:=Tryz.zeroValue9
 t20:=Tryz.underlying20
 a20:=Tryz.isAgg20
 z20:=Tryz.sizeOf20
 v20:=Tryz.zeroValue20
 t31:=Tryz.underlying69
 a31:=Tryz.isAgg69
 z31:=Tryz.sizeOf69
 v31:=Tryz.zeroValue69
 t37:=Tryz.underlying91
 a37:=Tryz.isAgg91
 z37:=Tryz.sizeOf91
 v37:=Tryz.zeroValue91
 t70:=Tryz.underlying188
 a70:=Tryz.isAgg188
 z70:=Tryz.sizeOf188
 v70:=Tryz.zeroValue188
 t72:=Tryz.underlying190
 a72:=Tryz.isAgg190
 z72:=Tryz.sizeOf190
 v72:=Tryz.zeroValue190
 t75:=Tryz.underlying193
 a75:=Tryz.isAgg193
 z75:=Tryz.sizeOf193
 v75:=Tryz.zeroValue193
 t76:=Tryz.underlying194
 a76:=Tryz.isAgg194
 z76:=Tryz.sizeOf194
 v76:=Tryz.zeroValue194
 t127:=Tryz.underlying203
 a127:=Tryz.isAgg203
 z127:=Tryz.sizeOf203
 v127:=Tryz.zeroValue203
 t164:=Tryz.underlying211
 a164:=Tryz.isAgg211
 z164:=Tryz.sizeOf211
 v164:=Tryz.zeroValue211 }
end Go.Proofs
namespace Go.Proofs
open Go.Shelf
def Tryz.lays171_ren:Go.Shelf.Ren:=⟨fun | 171=>98 | 243=>136 | 246=>157 | 283=>168 | 284=>169 | 285=>170 | 286=>171 | 129=>89 | 317=>181 | 318=>182 | 319=>183 | 320=>184 | 337=>192 | 338=>193 | n=>n,fun | 3=>3 | 9=>9 | 2=>2 | 4=>4 | 171=>204 | 0=>0 | 53=>143 | 37=>91 | 5=>5 | 173=>206 | 212=>216 | 51=>141 | 20=>20 | 213=>217 | 46=>106 | 232=>229 | 233=>230 | n=>n,fun | 17=>3 | 18=>5 | 19=>6 | n=>n⟩
theorem Tryz.lays171:Go.Proofs.LaysM.n171 Tryz.prog Tryz.lays171_ren:={
 mixed:=by kernel_rfl
 f129:=Tryz.func89.trans (congrArg some (by kernel_rfl))
 f171:=Tryz.func98.trans (congrArg some (by kernel_rfl))
 f243:=Tryz.func136.trans (congrArg some (by kernel_rfl))
 f246:=Tryz.func157.trans (congrArg some (by kernel_rfl))
 f283:=Tryz.func168.trans (congrArg some (by kernel_rfl))
 f284:=Tryz.func169.trans (congrArg some (by kernel_rfl))
 f285:=Tryz.func170.trans (congrArg some (by kernel_rfl))
 f286:=Tryz.func171.trans (congrArg some (by kernel_rfl))
 f317:=Tryz.func181.trans (congrArg some (by kernel_rfl))
 f318:=Tryz.func182.trans (congrArg some (by kernel_rfl))
 f319:=Tryz.func183.trans (congrArg some (by kernel_rfl))
 f320:=Tryz.func184.trans (congrArg some (by kernel_rfl))
 f337:=Tryz.func192.trans (congrArg some (by kernel_rfl))
 f338:=Tryz.func193.trans (congrArg some (by kernel_rfl))
 t0:=Tryz.underlying0
 a0:=Tryz.isAgg0
 z0:=Tryz.sizeOf0
 v0:=Tryz.zeroValue0
 t2:=Tryz.underlying2
 a2:=Tryz.isAgg2
 z2:=Tryz.sizeOf2
 v2:=Tryz.zeroValue2
 t3:=Tryz.underlying3
 a3:=Tryz.isAgg3
 z3:=Tryz.sizeOf3
 v3:=Tryz.zeroValue3
 t4:=Tryz.underlying4
 a4:=Tryz.isAgg4
 z4:=Tryz.sizeOf4
 v4:=Tryz.zeroValue4
 t5:=Tryz.underlying5
 a5:=Tryz.isAgg5
 z5:=Tryz.sizeOf5
 v5:=Tryz.zeroValue5
 t9:=Tryz.underlying9
 a9:=Tryz.isAgg9
 z9:=Tryz.sizeOf9
 v9:=Tryz.zeroValue9
 t20:=Tryz.underlying20
 a20:=Tryz.isAgg20
 z20:=Tryz.sizeOf20
 v20:=Tryz.zeroValue20
 t37:=Tryz.underlying91
 a37:=Tryz.isAgg91
 z37:=Tryz.sizeOf91
 v37:=Tryz.zeroValue91
 t46:=Tryz.underlying106
 a46:=Tryz.isAgg106
 z46:=Tryz.sizeOf106
 v46:=Tryz.zeroValue106
 t51:=Tryz.underlying141
 a51:=Tryz.isAgg141
 z51:=Tryz.sizeOf141
 v51:=Tryz.zeroValue141
 t53:=Tryz.underlying143
 a53:=Tryz.isAgg143
 z53:=Tryz.sizeOf143
 v53:=Tryz.zeroValue143
 t171:=Tryz.underlying204
 a171:=Tryz.isAgg204
 z171:=Tryz.sizeOf204
 v171:=Tryz.zeroValue204
 t173:=Tryz.underlying206
 a173:=Tryz.isAgg206
 z173:=Tryz.sizeOf206
 v173:=Tryz.zeroValue206
 t212:=Tryz.underlying216
 a212:=Tryz.isAgg216
 z212:=Tryz.sizeOf216
 v212:=Tryz.zeroValue216
 t213:=Tryz.underlying217
 a213:=Tryz.isAgg217
 z213:=Tryz.sizeOf217
 t232:=Tryz.underlying229
 a232:=Tryz.isAgg229
 z232:=Tryz.sizeOf229
 v232:=Tryz.zeroValue229
 t233:=Tryz.underlying230
 a233:=Tryz.isAgg230
 z233:=Tryz.sizeOf230
 v233:=Tryz.zeroValue230
 g17:=by kernel_rfl
 g18:=by kernel_rfl
 g19:=by kernel_rfl
 i0:=by kernel_rfl
 i2:=by kernel_rfl
 i3:=by kernel_rfl
 i4:=by kernel_rfl
 i5:=by kernel_rfl
 i9:=by kernel_rfl
 i20:=by kernel_rfl
 i37:=by kernel_rfl
 i46:=by kernel_rfl
 i51:=by kernel_rfl
 i53:=by kernel_rfl
 i171:=by kernel_rfl
 i173:=by kernel_rfl
 i212:=by kernel_rfl
 i232:=by kernel_rfl
 i233:=by kernel_rfl
 m17:=by kernel_rfl
 m18:=by kernel_rfl
 m19:=by kernel_rfl }
end Go.Proofs
namespace Go.Lo
open Go.VL Go.Ar
structure kK where
 name:Str
 exp:Int
 deriving DecidableEq
structure Hd where
 kind:Int
 op:Str
 name:Str
 table:Str
 val:Val
 unit:List kK
 param:Int
 wk:Int
 ws:Int
 deriving DecidableEq
inductive E where
 | mk (h:Hd) (args:List E)
def E.hd:E→Hd
 | .mk h _=>h
def E.args:E→List E
 | .mk _ l=>l
theorem E.ext' {x y:E} (h:x.hd=y.hd) (h':x.args=y.args):x=y:=by cases x;cases y;simp_all [E.hd,E.args]
noncomputable instance:DecidableEq E:=fun a b=>Classical.propDecidable (a=b)
abbrev qmt (f:kK):List V:=[qm f.name,vint f.exp]
abbrev qG (l:List kK):V:=.list none 2 (l.map qmt)
abbrev cH (h:Hd) (a:V):List V:=[vint h.kind,qm h.op,qm h.name,qm h.table,vint h.val.kind,vint h.val.n,qm h.val.s,qG h.unit,vint h.param,vint h.wk,vint h.ws,a]
mutual
def cE:E→List V
 | .mk h l=>cH h (.list none 12 (cEs l))
def cEs:List E→List (List V)
 | []=>[]
 | x::r=>cE x::cEs r
end
theorem qi0:∀ l:List E,cEs l=l.map cE
 | []=>rfl
 | x::r=>by simp only [cEs,List.map_cons,qi0 r]
abbrev zD (l:List E):V:=.list none 12 (l.map cE)
theorem zq (h:Hd) (l:List E):cE (.mk h l)=cH h (zD l):=by rw [cE,qi0]
theorem qx (x:E):cE x=cH x.hd (zD x.args):=by cases x;rw [zq];rfl
theorem qgw (x:E):(cE x).length=12:=by rw [qx];rfl
abbrev vE (x:E):V:=.agg (cE x)
theorem E.ind {P:E→Prop} (h:∀ hd l,(∀ x ∈ l,P x)→P (.mk hd l)) (x:E):P x :=
 E.rec (motive_1:=P) (motive_2:=fun l=>∀ x ∈ l,P x) (fun hd l ih=>h hd l ih) (fun _ hx=>by cases hx)
  (fun y r hy hr x hx=>by
   rcases List.mem_cons.1 hx with rfl | hx
   ·exact hy
   ·exact hr x hx) x
mutual
def zj:E→Nat
 | .mk _ l=>1+sizeEs l
def sizeEs:List E→Nat
 | []=>0
 | x::r=>zj x+sizeEs r
end
mutual
def qZ:E→Nat
 | .mk _ l=>depthEs l+1
def depthEs:List E→Nat
 | []=>0
 | x::r=>max (qZ x) (depthEs r)
end
theorem qR (h:Hd) (l:List E):zj (.mk h l)=1+sizeEs l:=by rw [zj]
theorem wL (h:Hd) (l:List E):qZ (.mk h l)=depthEs l+1:=by rw [qZ]
theorem vl {x:E}:∀ {l:List E},x ∈ l→zj x≤sizeEs l
 | y::r,h=>by
  rcases List.mem_cons.1 h with rfl | h
  ·simp only [sizeEs];omega
  ·have:=vl h;simp only [sizeEs];omega
theorem w8 {x:E}:∀ {l:List E},x ∈ l→qZ x≤depthEs l
 | y::r,h=>by
  rcases List.mem_cons.1 h with rfl | h
  ·simp only [depthEs];exact Nat.le_max_left _ _
  ·have:=w8 h;simp only [depthEs];exact Nat.le_trans this (Nat.le_max_right _ _)
abbrev es0:Str:=⟨#[]⟩
abbrev qd5:Val:=⟨0,0,es0⟩
abbrev xn (k:Int):Hd:=⟨k,es0,es0,es0,qd5,[],0,0,0⟩
abbrev exp0:E:=.mk (xn 0) []
structure Nd where
 kind:Int
 table:Str
 expr:E
 op:Str
 param:Int
 wk:Int
 ws:Int
 val:Val
 name:Str
 inn:List Int
noncomputable instance:DecidableEq Nd:=fun a b=>Classical.propDecidable (a=b)
abbrev cN (n:Nd) (h:Hd) (x a:V):List V:=[vint n.kind,qm n.table,vint h.kind,qm h.op,qm h.name,qm h.table,vint h.val.kind,vint h.val.n,qm h.val.s,qG h.unit,vint h.param,vint h.wk,vint h.ws,x,qm n.op,vint n.param,vint n.wk,vint n.ws,vint n.val.kind,vint n.val.n,qm n.val.s,qm n.name,a]
def Q5 (n:Nd):List V:=cN n n.expr.hd (zD n.expr.args) (Q8 n.inn)
theorem kw (n:Nd):Q5 n=cN n n.expr.hd (zD n.expr.args) (Q8 n.inn):=rfl
theorem qwe (n:Nd):(Q5 n).length=23:=rfl
abbrev qB2 (l:List Nd):V:=.list none 23 (l.map Q5)
abbrev vG (l:List Nd):V:=.agg [qB2 l]
abbrev yQ (k:Int):Nd:=⟨k,es0,exp0,es0,0,0,0,qd5,es0,[]⟩
end Go.Lo
set_option linter.unusedSimpArgs false
set_option maxRecDepth 100000
namespace Go.VL
open Go.RowKit Go.Sort Go.Shelf Go.Lib Go.Proofs
theorem qdd {w w':World} {I:Cells} (h:Below w.heap.size w w') (hd:dnB=false) (hin:∀ b' o,I b' o→b' < w.heap.size):qJ (fun b'=>b' < w.heap.size) w I w' I :=
 ⟨h.os,h.tape,h.output,h.size,fun b hb=>h.block b hb,⟨fun b' o hi=>⟨hi,by simp only [World.cell?, h.block b' (hin b' o hi)]⟩,fun b' x hx=>by rw [h.block b' (Array.getElem?_eq_some_iff.1 hx).1];exact hx⟩,fun _ _ _ h=>h,fun e=>by rw [hd] at e;cases e⟩
theorem Y2 {w:World} {I:Cells}:∀ {xs:List ByteArray} {b o:Nat},V.lies w I 1 (xs.map fun s=>[V.lit (.string s)]) b o→∀ (j:Nat) x,xs[j]? = some x→w.cell? ⟨b,o+j,none⟩=some (.string x)
 | [],_,_,_,j,x,hx=>by simp at hx
 | s::r,b,o,h,0,x,hx=>by
  simp only [List.map_cons,V.lies,V.ats] at h
  obtain⟨⟨⟨y,h1,_,_,h2⟩,_⟩,_,_⟩:=h
  simp only [V.rep] at h2
  simp at hx
  rw [Nat.add_zero,h1,h2,hx]
 | s::r,b,o,h,j+1,x,hx=>by
  simp only [List.map_cons,V.lies] at h
  have:=Y2 h.2.2 j x (by simpa using hx)
  rw [show o+(j+1)=o+1+j by omega]
  exact this
theorem Ok.join {P:Program} {ρ:Ren} (L:Lays.n156 P ρ) (X:Builder.Extra P ρ) (hd:dnB=false) (own:Option Value) (xs:List ByteArray) (sep:ByteArray) (hN:xs.length≤140737488355328) (hlen:(Lib.join (xs.map (·.data.toList)) sep.data.toList).length≤140737488355328) :
  zc P (ρ.f 156) [.list own 1 (xs.map fun s=>[V.lit (.string s)]),.lit (.string sep)] (.lit (.string ⟨(Lib.join (xs.map (·.data.toList)) sep.data.toList).toArray⟩)):=by
 intro w I zs hr hH
 obtain⟨a,c,rfl,hc,hl⟩:∃ a c,zs=[.slice a xs.length c,.string sep]∧xs.length≤c∧(xs=[]∨∃ b o,a=some ⟨b,o,none⟩∧V.lies w I 1 (xs.map fun s=>[V.lit (.string s)]) b o):=by
  match zs,hr with
  | [x,y],hr =>
   simp only [V.reps,V.rep,and_true] at hr
   obtain⟨⟨_,a,c,h1,h2,h3⟩,h4⟩:=hr
   refine⟨a,c,by rw [h1,h4];simp,by simpa using h2,h3.imp (fun e=>by simpa using e) id⟩
  | [],hr=>simp [V.reps] at hr
  | [_],hr=>simp [V.reps] at hr
  | _::_::_::_,hr=>simp [V.reps] at hr
 have main:Calls P (ρ.f 156) #[.slice a xs.length c,.string sep] w fun e w'=>e=.returned (.string ⟨(Lib.join (xs.map (·.data.toList)) sep.data.toList).toArray⟩)∧Below w.heap.size w w':=by
  rcases hl with rfl | ⟨b,o,rfl,hl⟩
  ·exact(Any.strings_Join_none L X a c sep w).mono fun e w' ⟨he,hw⟩=>⟨he,hw▸Below.refl _ _⟩
  ·rcases Nat.eq_zero_or_pos xs.length with e | e
   ·have:=List.length_eq_zero_iff.1 e
    subst this
    exact(Any.strings_Join_none L X _ c sep w).mono fun e w' ⟨he,hw⟩=>⟨he,hw▸Below.refl _ _⟩
   ·refine Any.strings_Join L X b o c xs sep w (Y2 hl) ?_ hN hc hlen
    match xs,e,hl with
    | s::r,_,hl =>
     simp only [List.map_cons,V.lies,V.ats] at hl
     obtain⟨⟨⟨y,h1,h2,_⟩,_⟩,_⟩:=hl
     exact hH.inn _ _ h2
 refine main.mono fun e w' ⟨he,hB⟩=>?_
 have hK:=qdd (I:=I) hB hd hH.inn
 refine⟨_,_,[],[],I,he,by simp only [V.rep],hK.mono fun b' hb'=>hb'.1,⟨by simp,by simp,by simp [qA],fun b' o hi=>Nat.lt_of_lt_of_le (hH.inn b' o hi) hK.size,hH.glob.mono hK.stays⟩,by simp [qA],rfl,rfl,rfl⟩
end Go.VL
namespace Go.Proofs.YtohdpcjaoiebkaaGreatDoor
open Go.VL Go.Ar Go.Lo Go.Proofs.YtohdpcjaoiebkaaGreatDoor Go.Shelf
theorem Tryz.extra156:Builder.Extra Tryz.prog Tryz.lays156_ren:={
 sizeBuilder:=by kernel_rfl
 liesBuilder:=by kernel_rfl
 t5:=Tryz.underlying5
 a5:=Tryz.isAgg5
 z5:=Tryz.sizeOf5
 v5:=Tryz.zeroValue5
 infoByte:=by kernel_rfl
 cellsByte:=by kernel_rfl
 sizeByte:=by kernel_rfl
 neB5:=by decide }
theorem qag (own:Option Value) (xs:List Str) (sep:Str) (hN:xs.length≤140737488355328) (hlen:(Lib.join (xs.map (·.data.toList)) sep.data.toList).length≤140737488355328) :
  zc Tryz.prog 128 [.list own 1 (xs.map fun s=>[qm s]),qm sep] (qm ⟨(Lib.join (xs.map (·.data.toList)) sep.data.toList).toArray⟩) :=
 Ok.join Tryz.lays156 Tryz.extra156 rfl own xs sep hN hlen
end Go.Proofs.YtohdpcjaoiebkaaGreatDoor
set_option linter.unusedSimpArgs false
set_option maxRecDepth 100000
namespace Go.VL
open Go.RowKit Go.Sort Go.Shelf Go.Lib Go.Proofs
abbrev vb (b:UInt8):V:=.lit (.int .u8 (b.toNat:Int))
abbrev qcs (b:UInt8):Value:=.int .u8 (b.toNat:Int)
theorem QN {w:World} {I:Cells}:∀ {vs us:List V} {xs:List Value},V.reps w I (vs++us) xs→V.reps w I vs (xs.take vs.length)∧V.reps w I us (xs.drop vs.length)
 | [],us,xs,h=>⟨by simp [V.reps],by simpa using h⟩
 | v::vs,us,[],h=>by simp [V.reps] at h
 | v::vs,us,x::xs,h=>by
  simp only [List.cons_append,V.reps] at h
  obtain⟨h1,h2⟩:=QN h.2
  exact⟨by simp only [List.length_cons,List.take_succ_cons,V.reps];exact⟨h.1,h1⟩,by simpa using h2⟩
theorem Xa {w:World} {I:Cells}:∀ {vs us:List V} {xs ys:List Value},V.reps w I vs xs→V.reps w I us ys→V.reps w I (vs++us) (xs++ys)
 | [],us,[],ys,_,h=>by simpa using h
 | [],us,_::_,ys,h,_=>by simp [V.reps] at h
 | v::vs,us,[],ys,h,_=>by simp [V.reps] at h
 | v::vs,us,x::xs,ys,h,h'=>by
  simp only [List.cons_append,V.reps] at h ⊢
  exact⟨h.1,Xa h.2 h'⟩
theorem VP {w:World} {I:Cells}:∀ {l:List UInt8} {xs:List Value},V.reps w I (l.map vb) xs↔xs=l.map qcs
 | [],[]=>by simp [V.reps]
 | [],_::_=>by simp [V.reps]
 | b::l,[]=>by simp [V.reps]
 | b::l,x::xs=>by
  simp only [List.map_cons,V.reps,V.rep,VP,List.cons.injEq]
theorem Ok.fmt10 {P:Program} {ρ:Ren} (L:Lays.n285 P ρ) (b cap u:Nat) (hu64:u < 18446744073709551616) (c0:V) (rest:List V) :
  Ok P (ρ.f 285) [.lit (.slice (some ⟨b,1,none⟩) (nDigits u) cap),.lit (.int .u64 u)] [(b,.c (c0::((List.replicate (nDigits u) (0:UInt8)).map vb++rest)))] fun v bs rs=>v=.tup []∧bs=[(b,.c (c0::((decDigits u).map vb++rest)))]∧rs=[]:=by
 intro w I zs hr hH
 obtain rfl:zs=[.slice (some ⟨b,1,none⟩) (nDigits u) cap,.int .u64 u]:=by
  match zs,hr with
  | [x,y],hr=>simp only [V.reps,V.rep,and_true] at hr;rw [hr.1,hr.2]
  | [],hr=>simp [V.reps] at hr
  | [_],hr=>simp [V.reps] at hr
  | _::_::_::_,hr=>simp [V.reps] at hr
 obtain⟨arr,te,q1,q2,q3,q4⟩:=hH.bx _ (List.mem_singleton.2 rfl)
 have hblk:b < w.heap.size:=(Array.getElem?_eq_some_iff.1 q1).1
 obtain⟨x0,xs,hxs,hx0,hxr⟩:∃ x0 xs,arr.toList=x0::xs∧V.rep w I c0 x0∧V.reps w I ((List.replicate (nDigits u) (0:UInt8)).map vb++rest) xs:=by
  cases ha:arr.toList with
  | nil=>rw [ha] at q3;simp [V.reps] at q3
  | cons x r=>rw [ha] at q3;simp only [V.reps] at q3;exact⟨x,r,rfl,q3.1,q3.2⟩
 obtain⟨h1,h2⟩:=QN hxr
 rw [List.length_map,List.length_replicate] at h1 h2
 rw [VP] at h1
 have hlen:nDigits u≤xs.length:=by
  have:=congrArg List.length h1
  rw [List.length_take,List.length_map,List.length_replicate] at this
  omega
 have hget:∀ j,j < nDigits u→arr[1+j]? = some (qcs 0):=fun j hj=>by
  rw [← Array.getElem?_toList,hxs,Nat.add_comm,List.getElem?_cons_succ]
  have:(xs.take (nDigits u))[j]? = ((List.replicate (nDigits u) (0:UInt8)).map qcs)[j]? := by rw [h1]
  rw [List.getElem?_take,if_pos hj] at this
  rw [this]
  simp [hj]
 have hHo:Holds qcs w b 1 (Array.replicate (nDigits u) (0:UInt8)):=by
  intro j hj
  rw [Array.size_replicate] at hj
  have h:=hget j hj
  constructor
  ·simp only [World.cell?, q1]
   rw [h]
   simp [hj]
  ·have hlt:=(Array.getElem?_eq_some_iff.1 h).1
   simp [World.frozen?, q1]
 have hd20:=nDigits_le20 u hu64
 have hrun:=Any.internal_strconv_formatBase10 L b 1 cap u (Array.replicate (nDigits u) 0) w hHo (by rw [Array.size_replicate];exact lt_pow_nDigits u) hu64 (by rw [Array.size_replicate];omega)
 rw [Array.size_replicate] at hrun
 refine hrun.mono fun e w' ⟨he,n,v',dk,hw,hF⟩=>?_
 have hsz:=hF.size
 have hdl:=decDigits_length u
 have hA:(putCells qcs 1 dk arr).toList=x0::((decDigits u).map qcs++xs.drop (nDigits u)):=by
  have hal:arr.toList.length=xs.length+1:=by rw [hxs];rfl
  apply List.ext_getElem?
  intro t
  rw [Array.getElem?_toList]
  unfold putCells
  rw [Array.getElem?_mapIdx,← Array.getElem?_toList,hxs]
  cases t with
  | zero=>simp
  | succ j =>
   rw [List.getElem?_cons_succ,List.getElem?_cons_succ]
   by_cases hj:j < nDigits u
   ·rw [List.getElem?_append_left (by rw [List.length_map,hdl];exact hj),List.getElem?_map,List.getElem?_eq_getElem (by omega),List.getElem?_eq_getElem (by rw [hdl];exact hj),Option.map_some,Option.map_some,if_pos ⟨by omega,by omega⟩,Nat.add_sub_cancel,row_is_numeral hF j (by rw [hdl];exact hj)]
   ·rw [List.getElem?_append_right (by rw [List.length_map,hdl];omega),List.length_map,hdl,List.getElem?_drop,show nDigits u+(j - nDigits u)=j by omega]
    cases xs[j]? with
    | none=>rfl
    | some y=>rw [Option.map_some,if_neg (by omega)]
 have hh:w'.heap=w.heap.modify b (onCells (putCells qcs 1 dk)):=by rw [hw];rfl
 have hother:∀ b',b' ≠ b→w'.heap[b']? = w.heap[b']? := fun b' hne=>by
  rw [hh,Array.getElem?_modify,if_neg (Ne.symm hne)]
 have hself:w'.heap[b]? = some (.cells (putCells qcs 1 dk arr) te.1 (0,0)):=by
  rw [hh,Array.getElem?_modify,if_pos rfl,q1];rfl
 have hst:qM w I w' I:=⟨fun b' o hi=>⟨hi,by
  have hne:b' ≠ b:=fun e=>q4 o (e▸hi)
  simp only [World.cell?, hother b' hne]⟩,fun b' x hx=>by
  have hne:b' ≠ b:=fun e=>by rw [e,q1] at hx;cases hx
  rw [hother b' hne];exact hx⟩
 refine⟨.tuple #[],.tup [],[(b,.c (c0::((decDigits u).map vb++rest)))],[],I,he,by simp only [V.rep];exact⟨#[],rfl,by simp [V.reps]⟩,
  ⟨by rw [hw];rfl,by rw [hw];rfl,by rw [hw];rfl,by rw [hh];simp,fun b' hb'=>hother b' fun e=>hb'.2 (by simp [e]),hst,fun _ _ _ h=>h,fun _=>by rw [hw];exact Nat.le_add_right _ _⟩,
  ⟨fun p hp'=>?_,by simp,by simp [qA],fun b' o hi=>by rw [hh];simpa using hH.inn b' o hi,hH.glob.mono hst⟩,fun b' hb' h=>h.2 (by simpa [qA] using hb'),rfl,rfl,rfl⟩
 rw [List.mem_singleton.1 hp']
 refine⟨_,te,hself,fun x hx=>?_,?_,q4⟩
 ·rw [hA] at hx
  rcases List.mem_cons.1 hx with rfl | hx
  ·exact q2 _ (by rw [hxs];exact List.mem_cons_self)
  rcases List.mem_append.1 hx with hx | hx
  ·obtain⟨y,_,rfl⟩:=List.mem_map.1 hx
   trivial
  ·exact q2 _ (by rw [hxs];exact List.mem_cons_of_mem _ (List.mem_of_mem_drop hx))
 ·rw [hA]
  simp only [V.reps]
  exact⟨V.rep_mono hst _ _ hx0,Xa (VP.2 rfl) (V.reps_mono hst _ _ h2)⟩
end Go.VL
set_option linter.unusedSimpArgs false
set_option maxRecDepth 100000
namespace Go.Lo
open Go.VL Go.Ar
abbrev hTT:Hd:={ xn 1 with val:=⟨1,1,es0⟩ }
abbrev tt:E:=.mk hTT []
structure Typ where
 kind:Int
 unit:List kK
 of:Str
 deriving DecidableEq
structure Fld where
 name:Str
 typ:Typ
 deriving DecidableEq
structure Tab where
 name:Str
 entity:Str
 fields:List Fld
 keep:Int
 deriving DecidableEq
structure Ftr where
 name:Str
 entity:Str
 typ:Typ
 body:E
 version:Int
structure Cat where
 tables:List Tab
 features:List Ftr
 drafts:List Ftr
 past:List Ftr
abbrev qA1 (f:Fld):List V:=[qm f.name,vint f.typ.kind,qG f.typ.unit,qm f.typ.of]
abbrev Xu (t:Tab):List V:=[qm t.name,qm t.entity,.list none 4 (t.fields.map qA1),vint t.keep]
abbrev cF (f:Ftr) (h:Hd) (a:V):List V:=[qm f.name,qm f.entity,vint f.typ.kind,qG f.typ.unit,qm f.typ.of,vint h.kind,qm h.op,qm h.name,qm h.table,vint h.val.kind,vint h.val.n,qm h.val.s,qG h.unit,vint h.param,vint h.wk,vint h.ws,a,vint f.version]
def uN (f:Ftr):List V:=cF f f.body.hd (zD f.body.args)
theorem qW (f:Ftr):uN f=cF f f.body.hd (zD f.body.args):=rfl
abbrev kA (l:List Ftr):V:=.list none 18 (l.map uN)
abbrev qxf (l:List Tab):V:=.list none 4 (l.map Xu)
abbrev xz (c:Cat):List V:=[qxf c.tables,kA c.features,kA c.drafts,kA c.past]
abbrev wT (c:Cat):V:=.agg (xz c)
noncomputable instance:DecidableEq Ftr:=fun a b=>Classical.propDecidable (a=b)
noncomputable instance:DecidableEq Cat:=fun a b=>Classical.propDecidable (a=b)
end Go.Lo
namespace Go.Proofs.YtohdpcjaoiebkaaGreatDoor
open Go.VL Go.Ar Go.Lo Go.Proofs.YtohdpcjaoiebkaaGreatDoor
def Wv (n m:Int):Bool:=decide (m < n) || decide (n < -m)
def wordC (c:UInt8):Bool:=!((decide ((c.toNat:Int) < 97) || decide ((122:Int) < c.toNat)) && (decide ((c.toNat:Int) < 48) || decide ((57:Int) < c.toNat)) && !decide ((c.toNat:Int)=95))
def wS (s:Str):Bool:=if s.size=0 then false else if 24 < s.size then false else if ((s.data.toList.getD 0 0).toNat:Int) < 97 then false else if (122:Int) < ((s.data.toList.getD 0 0).toNat:Int) then false else s.data.toList.all wordC
theorem jc {α:Type} {p:α→Bool} {l:List α} {i:Nat} (h:i < l.length):(l.take (i+1)).all p=((l.take i).all p && p l[i]):=by
 rw [List.take_succ_eq_append_getElem h,List.all_append];simp
theorem jd {α:Type} {p:α→Bool} {l:List α} {i:Nat} (h:i < l.length) (hp:p l[i]=false):l.all p=false:=by
 rw [List.all_eq_false]
 exact⟨l[i],List.getElem_mem h,by rw [hp];decide⟩
theorem jX (s:Str) (i:Nat) (h:i < s.size):s.data.toList.getD i 0=s.data.toList[i]'(by simpa using h):=by
 have h':i < s.data.toList.length:=by simpa using h
 rw [List.getD_eq_getElem?_getD,List.getElem?_eq_getElem h',Option.getD_some]
def qnt : List UInt8 := " table feature of keep bool text key int dec if then else default or and not true false null count sum mean min max first last distinct quantile decay all sliding tumbling session where ".toUTF8.data.toList
def ZI (s:Str):Bool:=if s=es0 then false else if Lib.contains s.data.toList [32]=true then false else Lib.contains qnt (32::(s.data.toList++[32]))
theorem qph (s:Str):((⟨#[32]⟩:Str)++s).size=1+s.size:=by rw [ByteArray.size_append];rfl
def yR (i:Nat) (c:UInt8):Bool:=(decide ((97:Int)≤c.toNat) && decide ((c.toNat:Int)≤122)) || (decide (0 < i) && ((decide ((48:Int)≤c.toNat) && decide ((c.toNat:Int)≤57)) || decide ((c.toNat:Int)=95)))
def kR:Nat→List UInt8→Bool
 | _,[]=>true
 | i,c::r=>yR i c && kR (i+1) r
theorem vA:∀ (i:Nat) (l m:List UInt8),kR i (l++m)=(kR i l && kR (i+l.length) m)
 | i,[],m=>by simp [kR]
 | i,c::r,m=>by simp only [List.cons_append,kR,vA (i+1) r m,List.length_cons,Bool.and_assoc,show i+1+r.length=i+(r.length+1) by omega]
theorem vz {l:List UInt8} {i:Nat} (h:i < l.length):kR 0 (l.take (i+1))=(kR 0 (l.take i) && yR i l[i]):=by
 rw [List.take_succ_eq_append_getElem h,vA,List.length_take,Nat.min_eq_left (by omega),Nat.zero_add];simp [kR]
theorem QQ {l:List UInt8} {i:Nat} (h:i < l.length) (hp:yR i l[i]=false):kR 0 l=false:=by
 rw [← List.take_append_drop (i+1) l,vA,vz h,hp];simp
def qP (s:Str):Bool:=if s=es0 then false else if 24 < s.size then false else if ZI s=true then false else kR 0 s.data.toList
def xP (l:List Str) (s:Str):Bool:=l.any fun x=>decide (s=x)
theorem we {l:List Str} {s:Str}:xP l s=true↔s ∈ l:=by
 unfold xP
 rw [List.any_eq_true]
 exact⟨fun⟨x,h,e⟩=>by rw [of_decide_eq_true e];exact h,fun h=>⟨s,h,decide_eq_true rfl⟩⟩
def leS (a b:Str):Bool:=Op.bytesLess a.data.toList b.data.toList || decide (a=b)
def vP:Option Str→List kK→Int
 | _,[]=>0
 | p,f::r=>if wS f.name=false then 1 else if f.exp=0 then 70 else if Wv f.exp 8=true then 70 else if (p.any fun q=>leS f.name q)=true then 3 else vP (some f.name) r
def xI (u:List kK):Int:=if 4 < u.length then 2 else vP none u
def vU (u:List kK):Nat→Option Str
 | 0=>none
 | i+1=>(u[i]?).map (·.name)
def zM (low:Int) (c:UInt8):Bool:=if (c.toNat:Int) < low then false else if (126:Int) < c.toNat then false else if (c.toNat:Int)=34 then false else decide (¬ (c.toNat:Int)=92)
def xu (v:Val):Int :=
 if v.kind < 0 then 1 else if 5 < v.kind then 1 else if ¬ v.kind=4∧¬ v.kind=5∧¬ v.s=es0 then 1
 else if ¬ v.kind=2∧¬ v.kind=3∧¬ v.n=0∧(¬ v.kind=1∨¬ v.n=1) then 1
 else if v.n < -1152921504606846976 then 2 else if 1152921504606846976 < v.n then 2
 else if ¬ v.kind=4∧¬ v.kind=5 then 0
 else if v.kind=5 then (if 32 < v.s.size then 2 else if v.s=es0 then 3 else if v.s.data.toList.all (zM 33)=true then 0 else 3)
 else if 64 < v.s.size then 2 else if v.s.data.toList.all (zM 32)=true then 0 else 3
abbrev vTy (k:Int) (u:List kK) (of:Str):V:=.agg [vint k,qG u,qm of]
def ZW (u:List kK):Bool:=u.all fun f=>qP f.name
def zT (k:Int) (u:List kK) (of:Str):Int :=
 if k < 1 then 3 else if 5 < k then 3 else if 0 < u.length∧¬ (k=2∨k=3) then 3
 else if k=5 then (if of=es0 then 3 else if qP of=false then 3 else if ¬ xI u=0 then 70 else if ZW u=false then 70 else 0)
 else if ¬ of=es0 then 3 else if ¬ xI u=0 then 70 else if ZW u=false then 70 else 0
theorem kM {u:List kK} (h:xI u=0):u.length≤4:=by
 unfold xI at h
 split at h
 ·cases h
 ·omega
theorem qhr (a b:Int):IntKind.i64.wrap (IntKind.i64.wrap a+IntKind.i64.wrap b)=IntKind.i64.wrap (a+b):=by
 simp only [IntKind.wrap_i64];omega
def big:Nat:=1099511627776
inductive kI:E→Prop
 | mk (h:Hd) (l:List E) (hu:h.unit.length≤big) (hl:l.length≤big) (ha:∀ x ∈ l,kI x):kI (.mk h l)
theorem kI.unit {x:E} (h:kI x):x.hd.unit.length≤big:=by cases h;assumption
theorem kI.len {x:E} (h:kI x):x.args.length≤big:=by cases h;assumption
theorem kI.args {x:E} (h:kI x):∀ y ∈ x.args,kI y:=by cases h;assumption
theorem qiu (f g:kK):(f=g)=(f.name=g.name∧f.exp=g.exp):=by cases f;cases g;simp
theorem z8:∀ l m:List E,sizeEs (l++m)=sizeEs l+sizeEs m
 | [],m=>by simp [sizeEs]
 | x::r,m=>by simp only [List.cons_append,sizeEs,z8 r m];omega
theorem jZ:∀ l m:List E,depthEs (l++m)=max (depthEs l) (depthEs m)
 | [],m=>by simp [depthEs]
 | x::r,m=>by simp only [List.cons_append,depthEs,jZ r m];omega
theorem qf7 (a b:Hd):(a=b)=(a.kind=b.kind∧a.op=b.op∧a.name=b.name∧a.table=b.table∧(a.val.kind=b.val.kind∧a.val.n=b.val.n∧a.val.s=b.val.s)∧a.unit=b.unit∧a.param=b.param∧a.wk=b.wk∧a.ws=b.ws):=by
 cases a with | mk _ _ _ _ v1 _ _ _ _=>cases b with | mk _ _ _ _ v2 _ _ _ _=>cases v1;cases v2;simp
theorem qhu (a b:Val):(decide (a.kind=b.kind) && (decide (a.n=b.n) && decide (a.s=b.s)))=decide (a=b):=by
 cases a;cases b
 rw [Bool.eq_iff_iff];simp
theorem qnv (a b:Hd):(decide (a.wk=b.wk) && decide (a.ws=b.ws))=decide (a.wk=b.wk∧a.ws=b.ws):=by
 rw [Bool.eq_iff_iff];simp
abbrev Qu:List Str:=[⟨#[99,111,117,110,116]⟩,⟨#[115,117,109]⟩,⟨#[109,101,97,110]⟩,⟨#[109,105,110]⟩,⟨#[109,97,120]⟩,⟨#[102,105,114,115,116]⟩,⟨#[108,97,115,116]⟩,⟨#[100,105,115,116,105,110,99,116]⟩,⟨#[113,117,97,110,116,105,108,101]⟩,⟨#[100,101,99,97,121]⟩]
abbrev unL:List Str:=[⟨#[45]⟩,⟨#[110,111,116]⟩,⟨#[110,117,108,108]⟩]
abbrev uf:List Str:=[⟨#[43]⟩,⟨#[45]⟩,⟨#[42]⟩,⟨#[47]⟩,⟨#[61,61]⟩,⟨#[33,61]⟩,⟨#[60]⟩,⟨#[60,61]⟩,⟨#[97,110,100]⟩,⟨#[111,114]⟩]
abbrev yv:Str:=⟨#[113,117,97,110,116,105,108,101]⟩
abbrev jQ:Str:=⟨#[100,101,99,97,121]⟩
abbrev yw:Str:=⟨#[99,111,117,110,116]⟩
def KB (op:Str):Int:=if op=yv then 1 else if op=jQ then 1 else 0
def J9 (op:Str):Int:=if op=yv then 1000 else if op=jQ then 1073741824 else 0
def zy (wk ws:Int):Bool:=if wk < 1 then false else if 4 < wk then false else if ¬ (wk=1↔ws=0) then false else if ws < 0 then false else if 1099511627776 < ws then false else true
def xr (h:Hd):Bool:=if xP Qu h.op=false then false else if qP h.table=false then false else if h.param < KB h.op then false else if J9 h.op < h.param then false else zy h.wk h.ws
def qH (h:Hd) (ins:Bool):Bool :=
 if h.kind=1 then (if ¬ xu h.val=0 then false else if h.val.n < 0 then false else decide (zT h.val.kind h.unit h.name=0))
 else if h.kind=2 then (if ins=true then qP h.name else false)
 else if h.kind=3 then (if ins=true then false else qP h.name)
 else if h.kind=4 then (if ins=true then false else qP h.name)
 else if h.kind=5 then (if ins=true then false else xr h)
 else if h.kind=6 then xP unL h.op
 else if h.kind=7 then xP uf h.op
 else if h.kind=8 then true
 else decide (h.kind=9)
def zd (h:Hd):Hd :=
 if h.kind=1 then { xn 1 with val:=h.val,unit:=h.unit,name:=h.name }
 else if h.kind=2 then { xn 2 with name:=h.name } else if h.kind=3 then { xn 3 with name:=h.name } else if h.kind=4 then { xn 4 with name:=h.name }
 else if h.kind=5 then { xn 5 with op:=h.op,table:=h.table,param:=h.param,wk:=h.wk,ws:=h.ws }
 else if h.kind=6 then { xn 6 with op:=h.op } else if h.kind=7 then { xn 7 with op:=h.op } else xn h.kind
def xt (k:Int):Int:=if k=4 then 1 else if k=5 then 2 else if k=6 then 1 else if k=7 then 2 else if k=8 then 3 else if k=9 then 2 else 0
abbrev hdTrue:Hd:={ xn 1 with val:=⟨1,1,es0⟩ }
def kg (h:Hd) (l:List E):Bool:=if h.op=yw then (if h.kind=5 then (match l with | []=>false | x::_=>decide (x.hd=hdTrue)) else true) else true
mutual
def qS:E→Bool→Bool
 | .mk h l,ins=>qH h ins && decide (h=zd h) && decide ((l.length:Int)=xt h.kind) && properEs l (ins || decide (h.kind=5)) && kg h l
def properEs:List E→Bool→Bool
 | [],_=>true
 | x::r,ins=>qS x ins && properEs r ins
end
theorem vv (h:Hd) (l:List E) (ins:Bool):qS (.mk h l) ins=(qH h ins && decide (h=zd h) && decide ((l.length:Int)=xt h.kind) && properEs l (ins || decide (h.kind=5)) && kg h l):=by rw [qS]
theorem kH:∀ (l m:List E) (ins:Bool),properEs (l++m) ins=(properEs l ins && properEs m ins)
 | [],m,ins=>by simp [properEs]
 | x::r,m,ins=>by simp only [List.cons_append,properEs,kH r m,Bool.and_assoc]
theorem jt:∀ (l:List E) (ins:Bool),properEs l ins=true↔∀ x ∈ l,qS x ins=true
 | [],ins=>by simp [properEs]
 | x::r,ins=>by simp only [properEs,Bool.and_eq_true,jt r ins,List.mem_cons,forall_eq_or_imp]
abbrev cHu (h:Hd) (u a:V):List V:=[vint h.kind,qm h.op,qm h.name,qm h.table,vint h.val.kind,vint h.val.n,qm h.val.s,u,vint h.param,vint h.wk,vint h.ws,a]
theorem yj {l l':List V} (h:yq l l'):Le (.agg l) (.agg l'):=by
 intro w I x hx
 simp only [V.rep] at hx ⊢
 obtain⟨xs,e,hr⟩:=hx
 exact⟨xs,e,h.reps hr⟩
theorem qDa {h:Hd} {u:V} (hu:Le u (qG h.unit)):Le (.agg (cHu h u nilS)) (.agg (cH h (zD []))) :=
 yj (.cons (Le.refl _) (.cons (Le.refl _) (.cons (Le.refl _) (.cons (Le.refl _) (.cons (Le.refl _) (.cons (Le.refl _) (.cons (Le.refl _) (.cons hu (.cons (Le.refl _) (.cons (Le.refl _) (.cons (Le.refl _) (.cons (Le.nil 12) .nil))))))))))))
def qY (x:E):Int:=if 64 < IntKind.i64.wrap (zj x) then 2 else if 12 < qZ x then 2 else if qS x false=true then 0 else 3
inductive qtr:E→Prop
 | mk (h:Hd) (l:List E) (hk:h.kind=5→2≤l.length) (ha:∀ x ∈ l,qtr x):qtr (.mk h l)
theorem qvt:kI exp0:=.mk _ _ (by simp [big]) (by simp [big]) (fun x hx=>by cases hx)
theorem qqo (k:Int):xt k≤3:=by
 unfold xt
 repeat' split
 all_goals omega
theorem xF {h:Hd} {l:List E} {ins:Bool} (hp:qS (.mk h l) ins=true):qH h ins=true∧h=zd h∧(l.length:Int)=xt h.kind∧(∀ x ∈ l,qS x (ins || decide (h.kind=5))=true)∧kg h l=true:=by
 rw [vv] at hp
 simp only [Bool.and_eq_true,decide_eq_true_eq] at hp
 exact⟨hp.1.1.1.1,hp.1.1.1.2,hp.1.1.2,(jt l _).1 hp.1.2,hp.2⟩
theorem qaz:∀ (x:E) (ins:Bool),qS x ins=true→qtr x:=by
 intro x
 induction x using E.ind with
 | h hd l ih =>
 intro ins hp
 obtain⟨_,_,h3,h4,_⟩:=xF hp
 refine .mk _ _ (fun hk=>?_) fun y hy=>ih y hy _ (h4 y hy)
 rw [hk] at h3
 have:(l.length:Int)=2:=h3
 omega
theorem qj0 (m:Nat) (hm:1≤m):∀ l:List E,l.length≤3→(∀ x ∈ l,2 * zj x+1≤m)→2 * (1+sizeEs l)+1≤3 * m
 | [],_,_=>by simp only [sizeEs];omega
 | [a],_,h=>by have:=h a (by simp);simp only [sizeEs];omega
 | [a,b],_,h=>by have:=h a (by simp);have:=h b (by simp);simp only [sizeEs];omega
 | [a,b,c],_,h=>by have:=h a (by simp);have:=h b (by simp);have:=h c (by simp);simp only [sizeEs];omega
 | _::_::_::_::_,h,_=>by simp at h
theorem qay:∀ (x:E) (ins:Bool),qS x ins=true→2 * zj x+1≤3 ^ qZ x:=by
 intro x
 induction x using E.ind with
 | h hd l ih =>
 intro ins hp
 obtain⟨_,_,h3,h4,_⟩:=xF hp
 have hl:l.length≤3:=by have:=qqo hd.kind;omega
 have:=qj0 (3 ^ depthEs l) (Nat.pos_of_ne_zero (by simp)) l hl fun x hx=>Nat.le_trans (ih x hx _ (h4 x hx)) (Nat.pow_le_pow_right (by decide) (w8 hx))
 rw [qR,wL,Nat.pow_succ]
 omega
theorem xA {x:E} (h:qY x=0):zj x≤64∧qZ x≤12∧qS x false=true:=by
 unfold qY at h
 split at h
 ·cases h
 ·rename_i h1
  split at h
  ·cases h
  ·rename_i h2
   split at h
   ·rename_i h3
    have h4:=qay x false h3
    have h5:3 ^ qZ x≤3 ^ 12:=Nat.pow_le_pow_right (by decide) (by omega)
    rw [show (3:Nat) ^ 12=531441 by decide] at h5
    rw [zl (by omega) (by omega)] at h1
    exact⟨by omega,by omega,h3⟩
   ·cases h
theorem yV {l l':List V} (h:yq l l'):Le (.tup l) (.tup l'):=by
 intro w I x hx
 simp only [V.rep] at hx ⊢
 obtain⟨xs,e,hr⟩:=hx
 exact⟨xs,e,h.reps hr⟩
theorem Ok.norows' {P f args bs0 Q Q'} (h:Ok P f args bs0 Q) (hq:∀ v bs rs,Q v bs rs→∃ v' bs' rs',Le v v'∧bs'.Sublist bs∧rs'.Sublist rs∧Q' v' bs' rs'):Ok P f args bs0 Q':=by
 intro w I xs hr hH
 refine(h w I xs hr hH).mono fun e w' ⟨x,v,bs',rs',I',he,hv,hk,hh,hn,hQ⟩=>?_
 obtain⟨v2,bs2,rs2,hl,h1,h2,hQ'⟩:=hq _ _ _ hQ
 exact⟨x,v2,bs2,rs2,I',he,hl w' I' x hv,hk,hh.sub h1 h2,fun b hb=>hn b ((List.Sublist.append (h1.map _) (h2.filterMap _)).subset hb),hQ'⟩
theorem leE {h:Hd} {u a:V} {l:List E} (hu:Le u (qG h.unit)) (ha:Le a (zD l)):Le (.agg [vint h.kind,qm h.op,qm h.name,qm h.table,vint h.val.kind,vint h.val.n,qm h.val.s,u,vint h.param,vint h.wk,vint h.ws,a]) (vE (.mk h l)):=by
 rw [vE,zq]
 exact yj (.cons (Le.refl _) (.cons (Le.refl _) (.cons (Le.refl _) (.cons (Le.refl _) (.cons (Le.refl _) (.cons (Le.refl _) (.cons (Le.refl _) (.cons hu (.cons (Le.refl _) (.cons (Le.refl _) (.cons (Le.refl _) (.cons ha .nil))))))))))))
end Go.Proofs.YtohdpcjaoiebkaaGreatDoor
namespace Go.Pr
abbrev Bs:=List UInt8
def Z2 (c:UInt8):Bool:=(97≤c && c≤122) || (48≤c && c≤57) || c == 95
inductive T where
 | atom (s:Bs)
 | look (n:Bs) (a:T)
 | agg (op tab:Bs) (cnt:Bool) (a:T) (pre win sz:Bs) (tru:Bool) (c:T)
 | neg (a:T)
 | not (a:T)
 | nul (a:T)
 | bin (op:Nat) (a b:T)
 | ite (a b c:T)
def uB:Nat→Nat
 | 0=>2
 | 1=>3
 | 2=>5
 | 3=>5
 | 4=>5
 | 5=>5
 | 6=>6
 | 7=>6
 | 8=>7
 | 9=>7
 | 10=>1
 | _=>1
def JG:Nat→Bs
 | 0=>[32,111,114,32]
 | 1=>[32,97,110,100,32]
 | 2=>[32,61,61,32]
 | 3=>[32,33,61,32]
 | 4=>[32,60,32]
 | 5=>[32,60,61,32]
 | 6=>[32,43,32]
 | 7=>[32,45,32]
 | 8=>[32,42,32]
 | 9=>[32,47,32]
 | 10=>[32,100,101,102,97,117,108,116,32]
 | _=>[32,100,101,102,97,117,108,116,32]
def opL (op:Nat):Nat:=if uB op=5 then 6 else uB op
def rk:T→Nat
 | .neg _=>8
 | .not _=>4
 | .bin op _ _=>uB op
 | .ite _ _ _=>0
 | _=>9
abbrev tOf:Bs:=[32,111,102,32,40]
abbrev tIf:Bs:=[105,102,32]
abbrev YE:Bs:=[32,116,104,101,110,32]
abbrev YF:Bs:=[32,101,108,115,101,32]
abbrev qoy:Bs:=[110,111,116,32]
abbrev UX:Bs:=[110,117,108,108,40]
abbrev yu:Bs:=[32,119,104,101,114,101,32]
abbrev wIf:Bs:=[105,102]
abbrev qt2:Bs:=[110,111,116]
abbrev qhs:Bs:=[110,117,108,108]
abbrev yB:Bs:=[116,114,117,101]
abbrev wFalse:Bs:=[102,97,108,115,101]
def par (p:Bool) (s:Bs):Bs:=if p then 40::(s++[41]) else s
def qqj (pre win sz:Bs):Bs:=(if pre=[] then [] else pre++[44,32])++(win++(if sz=[] then [] else 32::sz))
def tx:T→Bs
 | .atom s=>s
 | .look n a=>n++(tOf++(tx a++[41]))
 | .agg op tab cnt a pre win sz tru c=>op++(40::(tab++(44::32::((if cnt then [] else tx a++[44,32])++(qqj pre win sz++((if tru then [] else yu++tx c)++[41]))))))
 | .neg a=>45::par (decide (rk a < 8)) (tx a)
 | .not a=>qoy++par (decide (rk a < 4)) (tx a)
 | .nul a=>UX++(tx a++[41])
 | .bin op a b=>par (decide (rk a < opL op)) (tx a)++(JG op++par (decide (rk b < uB op+1)) (tx b))
 | .ite a b c=>tIf++(tx a++(YE++(tx b++(YF++tx c))))
inductive Tm (r:Nat):Bs→Prop
 | nil:Tm r []
 | par (t:Bs):Tm r (41::t)
 | com (t:Bs):Tm r (44::t)
 | thn (t:Bs):Tm r (YE++t)
 | els (t:Bs):Tm r (YF++t)
 | op (k:Nat) (t:Bs) (h:uB k < r):Tm r (JG k++t)
theorem Tm.mono {r q:Nat} {w:Bs} (h:Tm r w) (hq:r≤q):Tm q w:=by
 cases h with
 | nil=>exact .nil
 | par t=>exact .par t
 | com t=>exact .com t
 | thn t=>exact .thn t
 | els t=>exact .els t
 | op k t h=>exact .op k t (by omega)
theorem qe4 (k:Nat):JG k=JG (min k 10):=by
 rcases Nat.lt_or_ge k 11 with h | h
 ·rw [Nat.min_eq_left (by omega)]
 ·rw [Nat.min_eq_right (by omega)]
  match k,h with
  | n+11,_=>rfl
theorem VU (k:Nat):uB k=uB (min k 10):=by
 rcases Nat.lt_or_ge k 11 with h | h
 ·rw [Nat.min_eq_left (by omega)]
 ·rw [Nat.min_eq_right (by omega)]
  match k,h with
  | n+11,_=>rfl
theorem QC {k:Nat} (h:k≤10):k=0∨k=1∨k=2∨k=3∨k=4∨k=5∨k=6∨k=7∨k=8∨k=9∨k=10:=by omega
theorem YX {k l:Nat} (hk:k≤10) (hl:l≤10) {u v:Bs} (e:JG k++u=JG l++v):k=l∧u=v:=by
 rcases QC hk with rfl | rfl | rfl | rfl | rfl | rfl | rfl | rfl | rfl | rfl | rfl <;> rcases QC hl with rfl | rfl | rfl | rfl | rfl | rfl | rfl | rfl | rfl | rfl | rfl <;> simp [JG] at e ⊢ <;> first | exact e | skip
theorem Tm.head {r:Nat} {w:Bs} (h:Tm r w):w=[]∨∃ c t,w=c::t∧Z2 c=false∧c ≠ 46∧c ≠ 40∧(c=32→∃ d e f,t=d::e::f∧d ≠ 91∧¬ (d=111∧e=102)):=by
 cases h with
 | nil=>exact .inl rfl
 | par t=>exact .inr ⟨_,_,rfl,by decide,by decide,by decide,fun h=>absurd h (by decide)⟩
 | com t=>exact .inr ⟨_,_,rfl,by decide,by decide,by decide,fun h=>absurd h (by decide)⟩
 | thn t=>exact .inr ⟨_,_,rfl,by decide,by decide,by decide,fun _=>⟨_,_,_,rfl,by decide,by decide⟩⟩
 | els t=>exact .inr ⟨_,_,rfl,by decide,by decide,by decide,fun _=>⟨_,_,_,rfl,by decide,by decide⟩⟩
 | op k t h =>
  rw [qe4]
  rcases QC (Nat.min_le_right k 10) with h | h | h | h | h | h | h | h | h | h | h <;> rw [h] <;> exact .inr ⟨_,_,rfl,by decide,by decide,by decide,fun _=>⟨_,_,_,rfl,by decide,by decide⟩⟩
theorem Tm.no_op {r k:Nat} {u w:Bs} (h:Tm r w) (hk:r≤uB k) (e:JG k++u=w):False:=by
 rw [qe4] at e
 rw [VU] at hk
 have hm:=Nat.min_le_right k 10
 generalize min k 10=k at *
 cases h with
 | nil=>rcases QC hm with rfl | rfl | rfl | rfl | rfl | rfl | rfl | rfl | rfl | rfl | rfl <;> simp [JG] at e
 | par t=>rcases QC hm with rfl | rfl | rfl | rfl | rfl | rfl | rfl | rfl | rfl | rfl | rfl <;> simp [JG] at e
 | com t=>rcases QC hm with rfl | rfl | rfl | rfl | rfl | rfl | rfl | rfl | rfl | rfl | rfl <;> simp [JG] at e
 | thn t=>rcases QC hm with rfl | rfl | rfl | rfl | rfl | rfl | rfl | rfl | rfl | rfl | rfl <;> simp [JG] at e
 | els t=>rcases QC hm with rfl | rfl | rfl | rfl | rfl | rfl | rfl | rfl | rfl | rfl | rfl <;> simp [JG] at e
 | op l t h =>
  rw [qe4 l] at e
  rw [VU l] at h
  have:=(YX hm (Nat.min_le_right l 10) e).1
  subst this
  omega
def Lw (n:Bs):Prop:=(∃ c t,n=c::t∧97≤c)∧(∀ c ∈ n,Z2 c=true)∧n ≠ wIf∧n ≠ qt2∧n ≠ qhs∧n ≠ yB∧n ≠ wFalse
def Dg (d:Bs):Prop:=d ≠ []∧∀ c ∈ d,48≤c∧c≤57
def Un (u:Bs):Prop:=u=[]∨∃ m,u=32::91::(m++[93])∧93 ∉ m
theorem Dg.w {d:Bs} (h:Dg d):∀ c ∈ d,Z2 c=true:=fun c hc=>by
 have:=h.2 c hc
 simp [Z2,this]
inductive At:Bs→Prop
 | name (n:Bs) (h:Lw n):At n
 | yes:At yB
 | no:At wFalse
 | num (d u:Bs) (hd:Dg d) (hu:Un u):At (d++u)
 | dec (d f u:Bs) (hd:Dg d) (hf:Dg f) (hu:Un u):At (d++(46::(f++u)))
 | text (s:Bs) (h:34 ∉ s):At (34::(s++[34]))
 | key (n s:Bs) (hn:Lw n) (h:34 ∉ s):At (64::(n++(32::34::(s++[34]))))
abbrev tT:T:=.atom yB
abbrev qnx:Bs:=[99,111,117,110,116]
inductive Wf:T→Prop
 | atom {s:Bs} (h:At s):Wf (.atom s)
 | look {n:Bs} {a:T} (h:Lw n) (ha:Wf a):Wf (.look n a)
 | agg {op tab:Bs} {cnt:Bool} {a:T} {pre win sz:Bs} {tru:Bool} {c:T} (ho:Lw op) (ht:Lw tab) (hc:cnt=decide (op=qnx)) (ha:Wf a) (hca:cnt=true→a=tT) (hp:pre=[]∨Dg pre) (hw:Lw win) (hz:sz=[]∨Dg sz) (hcc:Wf c) (htc:tru=true→c=tT):Wf (.agg op tab cnt a pre win sz tru c)
 | neg {a:T} (ha:Wf a):Wf (.neg a)
 | not {a:T} (ha:Wf a):Wf (.not a)
 | nul {a:T} (ha:Wf a):Wf (.nul a)
 | bin {op:Nat} {a b:T} (ho:op≤10) (ha:Wf a) (hb:Wf b):Wf (.bin op a b)
 | ite {a b c:T} (ha:Wf a) (hb:Wf b) (hc:Wf c):Wf (.ite a b c)
def Nw (w:Bs):Prop:=∀ c t,w=c::t→Z2 c=false
theorem Tm.nw {r:Nat} {w:Bs} (h:Tm r w):Nw w:=fun c t e=>by
 rcases h.head with h | ⟨d,s,h,hd,_⟩
 ·rw [e] at h;cases h
 ·rw [e] at h;cases h;exact hd
theorem tw {n w:Bs} (h:∀ c ∈ n,Z2 c=true) (hw:Nw w):(n++w).takeWhile Z2=n:=by
 rw [List.takeWhile_append_of_pos h]
 match w,hw with
 | [],_=>simp
 | c::t,hw=>rw [List.takeWhile_cons,if_neg (by rw [hw c t rfl];decide),List.append_nil]
theorem dw {n w:Bs} (h:∀ c ∈ n,Z2 c=true) (hw:Nw w):(n++w).dropWhile Z2=w:=by
 rw [List.dropWhile_append_of_pos h]
 match w,hw with
 | [],_=>simp
 | c::t,hw=>rw [List.dropWhile_cons,if_neg (by rw [hw c t rfl];decide)]
theorem qQ {n m u v:Bs} (hn:∀ c ∈ n,Z2 c=true) (hm:∀ c ∈ m,Z2 c=true) (hu:Nw u) (hv:Nw v) (e:n++u=m++v):n=m∧u=v:=by
 have h1:=tw hn hu
 have h2:=dw hn hu
 rw [e] at h1 h2
 exact⟨by rw [← h1,tw hm hv],by rw [← h2,dw hm hv]⟩
theorem za {c:UInt8} {t:Bs} (h:Z2 c=false):Nw (c::t):=fun d s e=>by cases e;exact h
theorem WD:Nw []:=fun d s e=>by cases e
theorem kY {b:UInt8}:∀ {s t u v:Bs},b ∉ s→b ∉ t→s++b::u=t++b::v→s=t∧u=v
 | [],[],_,_,_,_,e=>by simpa using e
 | [],c::t,_,_,_,ht,e=>by
  simp only [List.nil_append,List.cons_append,List.cons.injEq] at e
  exact absurd (List.mem_cons.2 (.inl e.1)) ht
 | c::s,[],_,_,hs,_,e=>by
  simp only [List.nil_append,List.cons_append,List.cons.injEq] at e
  exact absurd (List.mem_cons.2 (.inl e.1.symm)) hs
 | c::s,d::t,u,v,hs,ht,e=>by
  simp only [List.cons_append,List.cons.injEq] at e
  obtain⟨h1,h2⟩:=kY (fun h=>hs (List.mem_cons_of_mem _ h)) (fun h=>ht (List.mem_cons_of_mem _ h)) e.2
  exact⟨by rw [e.1,h1],h2⟩
theorem Zb {u w:Bs} (hu:Un u) (hw:Nw w):Nw (u++w):=by
 rcases hu with rfl | ⟨m,rfl,_⟩
 ·exact hw
 ·exact za (by decide)
theorem Yr {r q:Nat} {u v w x:Bs} (hu:Un u) (hv:Un v) (hw:Tm r w) (hx:Tm q x) (e:u++w=v++x):u=v∧w=x:=by
 rcases hu with rfl | ⟨m,rfl,hm⟩ <;> rcases hv with rfl | ⟨l,rfl,hl⟩
 ·exact⟨rfl,by simpa using e⟩
 ·exfalso
  rcases hw.head with h | ⟨c,t,h,_,_,_,h4⟩
  ·rw [h] at e;simp at e
  ·rw [h] at e
   simp only [List.nil_append,List.cons_append,List.cons.injEq] at e
   obtain⟨d,s,f,h5,h6,_⟩:=h4 e.1
   rw [h5] at e
   exact h6 (by have:=e.2;simp only [List.cons.injEq] at this;exact this.1)
 ·exfalso
  rcases hx.head with h | ⟨c,t,h,_,_,_,h4⟩
  ·rw [h] at e;simp at e
  ·rw [h] at e
   simp only [List.nil_append,List.cons_append,List.cons.injEq] at e
   obtain⟨d,s,f,h5,h6,_⟩:=h4 e.1.symm
   rw [h5] at e
   exact h6 (by have:=e.2;simp only [List.cons.injEq] at this;exact this.1.symm)
 ·simp only [List.cons_append,List.append_assoc,List.cons.injEq,true_and] at e
  obtain⟨h1,h2⟩:=kY hm hl e
  exact⟨by rw [h1],h2⟩
def m1:Bs→Nat
 | 40::_=>1
 | 45::_=>2
 | 34::_=>3
 | 64::_=>4
 | _=>0
def m11:Bs→Nat
 | 46::_=>11
 | _=>10
def m14:Bs→Nat
 | 40::_=>12
 | 32::111::102::_=>13
 | _=>14
def code (s:Bs):Nat :=
 match s.takeWhile Z2,s.dropWhile Z2 with
 | [],r=>m1 r
 | c::w,r=>if c≤57 then m11 r
  else if c::w=wIf then 5 else if c::w=qt2 then 6 else if c::w=qhs then 7 else if c::w=yB then 8 else if c::w=wFalse then 9
  else m14 r
theorem wM {n w:Bs} (h:∀ c ∈ n,Z2 c=true) (hw:Nw w) {c:UInt8} {t:Bs} (e:n=c::t):code (n++w)=if c≤57 then m11 w
  else if n=wIf then 5 else if n=qt2 then 6 else if n=qhs then 7 else if n=yB then 8 else if n=wFalse then 9
  else m14 w:=by
 unfold code
 rw [tw h hw,dw h hw]
 subst e
 rfl
theorem Uj {n w:Bs} (h:Lw n) (hw:Nw w):code (n++w)=m14 w:=by
 obtain⟨⟨c,t,e,hc⟩,h1,h2,h3,h4,h5,h6⟩:=h
 have hc':¬ c≤57:=by
  intro h
  have:=UInt8.le_trans hc h
  revert this;decide
 rw [wM h1 hw e,if_neg hc',if_neg h2,if_neg h3,if_neg h4,if_neg h5,if_neg h6]
theorem qiz {d w:Bs} (h:Dg d) (hw:Nw w):code (d++w)=m11 w:=by
 match d,h with
 | [],h=>exact absurd rfl h.1
 | c::t,h=>rw [wM h.w hw rfl,if_pos (h.2 c List.mem_cons_self).2]
theorem Ui {c:UInt8} (t:Bs) (h:Z2 c=false):code (c::t)=m1 (c::t):=by
 unfold code
 rw [List.takeWhile_cons,if_neg (by rw [h];decide),List.dropWhile_cons,if_neg (by rw [h];decide)]
theorem Tm.t14 {r:Nat} {w:Bs} (h:Tm r w):m14 w=14:=by
 rcases h.head with rfl | ⟨c,t,rfl,_,_,h2,h4⟩
 ·rfl
 ·unfold m14
  split
  ·rename_i e;cases e;exact absurd rfl h2
  ·rename_i e;cases e
   obtain⟨d,s,f,h5,_,h6⟩:=h4 rfl
   cases h5
   exact absurd ⟨rfl,rfl⟩ h6
  ·rfl
theorem Tm.t10 {r:Nat} {u w:Bs} (hu:Un u) (h:Tm r w):m11 (u++w)=10:=by
 rcases hu with rfl | ⟨m,rfl,_⟩
 ·rcases h.head with rfl | ⟨c,t,rfl,_,h2,_,_⟩
  ·rfl
  ·rw [List.nil_append]
   unfold m11
   split
   ·rename_i e;cases e;exact absurd rfl h2
   ·rfl
 ·rfl
theorem qt1:∀ c ∈ yB,Z2 c=true:=by decide
theorem qnw:∀ c ∈ wFalse,Z2 c=true:=by decide
theorem kj {n w:Bs} (h:Lw n) {r:Nat} (hw:Tm r w):code (n++w)=14:=by rw [Uj h hw.nw,hw.t14]
theorem wm {w:Bs} {r:Nat} (hw:Tm r w):code (yB++w)=8:=by
 rw [wM qt1 hw.nw rfl,if_neg (by decide),if_neg (by decide),if_neg (by decide),if_neg (by decide),if_pos rfl]
theorem ju {w:Bs} {r:Nat} (hw:Tm r w):code (wFalse++w)=9:=by
 rw [wM qnw hw.nw rfl,if_neg (by decide),if_neg (by decide),if_neg (by decide),if_neg (by decide),if_neg (by decide),if_pos rfl]
theorem wn {d u w:Bs} (hd:Dg d) (hu:Un u) {r:Nat} (hw:Tm r w):code (d++u++w)=10:=by rw [List.append_assoc,qiz hd (Zb hu hw.nw),Tm.t10 hu hw]
theorem wq {d f w:Bs} (hd:Dg d):code (d++(46::f)++w)=11:=by rw [List.append_assoc,List.cons_append,qiz hd (za (by decide))];rfl
theorem ki {s w:Bs}:code (34::s++w)=3:=by rw [List.cons_append,Ui _ (by decide)];rfl
theorem wo {s w:Bs}:code (64::s++w)=4:=by rw [List.cons_append,Ui _ (by decide)];rfl
theorem yn {s:Bs} (h:At s) {r:Nat} {w:Bs} (hw:Tm r w):code (s++w)=14∨code (s++w)=8∨code (s++w)=9∨code (s++w)=10∨code (s++w)=11∨code (s++w)=3∨code (s++w)=4:=by
 cases h with
 | name n h=>exact .inl (kj h hw)
 | yes=>exact .inr (.inl (wm hw))
 | no=>exact .inr (.inr (.inl (ju hw)))
 | num d u hd hu=>exact .inr (.inr (.inr (.inl (wn hd hu hw))))
 | dec d f u hd hf hu=>exact .inr (.inr (.inr (.inr (.inl (wq hd)))))
 | text s h=>exact .inr (.inr (.inr (.inr (.inr (.inl ki)))))
 | key n s hn h=>exact .inr (.inr (.inr (.inr (.inr (.inr wo)))))
theorem qm2 {s t u v:Bs} {r q:Nat} (hs:At s) (ht:At t) (hu:Tm r u) (hv:Tm q v) (e:s++u=t++v):s=t∧u=v:=by
 have ce:code (s++u)=code (t++v):=by rw [e]
 cases hs with
 | name n h =>
  rw [kj h hu] at ce
  cases ht with
  | name n2 h2=>exact qQ h.2.1 h2.2.1 hu.nw hv.nw e
  | yes=>rw [wm hv] at ce;cases ce
  | no=>rw [ju hv] at ce;cases ce
  | num d2 x2 hd2 hx2=>rw [wn hd2 hx2 hv] at ce;cases ce
  | dec d2 f2 x2 hd2 hf2 hx2=>rw [wq hd2] at ce;cases ce
  | text s2 h2=>rw [ki] at ce;cases ce
  | key n2 s2 hn2 h2=>rw [wo] at ce;cases ce
 | yes =>
  rw [wm hu] at ce
  cases ht with
  | name n2 h2=>rw [kj h2 hv] at ce;cases ce
  | yes=>exact⟨rfl,List.append_cancel_left e⟩
  | no=>rw [ju hv] at ce;cases ce
  | num d2 x2 hd2 hx2=>rw [wn hd2 hx2 hv] at ce;cases ce
  | dec d2 f2 x2 hd2 hf2 hx2=>rw [wq hd2] at ce;cases ce
  | text s2 h2=>rw [ki] at ce;cases ce
  | key n2 s2 hn2 h2=>rw [wo] at ce;cases ce
 | no =>
  rw [ju hu] at ce
  cases ht with
  | name n2 h2=>rw [kj h2 hv] at ce;cases ce
  | yes=>rw [wm hv] at ce;cases ce
  | no=>exact⟨rfl,List.append_cancel_left e⟩
  | num d2 x2 hd2 hx2=>rw [wn hd2 hx2 hv] at ce;cases ce
  | dec d2 f2 x2 hd2 hf2 hx2=>rw [wq hd2] at ce;cases ce
  | text s2 h2=>rw [ki] at ce;cases ce
  | key n2 s2 hn2 h2=>rw [wo] at ce;cases ce
 | num d x hd hx =>
  rw [wn hd hx hu] at ce
  cases ht with
  | name n2 h2=>rw [kj h2 hv] at ce;cases ce
  | yes=>rw [wm hv] at ce;cases ce
  | no=>rw [ju hv] at ce;cases ce
  | num d2 x2 hd2 hx2 =>
   rw [List.append_assoc,List.append_assoc] at e
   obtain⟨q1,q2⟩:=qQ hd.w hd2.w (Zb hx hu.nw) (Zb hx2 hv.nw) e
   obtain⟨q3,q4⟩:=Yr hx hx2 hu hv q2
   exact⟨by rw [q1,q3],q4⟩
  | dec d2 f2 x2 hd2 hf2 hx2=>rw [wq hd2] at ce;cases ce
  | text s2 h2=>rw [ki] at ce;cases ce
  | key n2 s2 hn2 h2=>rw [wo] at ce;cases ce
 | dec d f x hd hf hx =>
  rw [wq hd] at ce
  cases ht with
  | name n2 h2=>rw [kj h2 hv] at ce;cases ce
  | yes=>rw [wm hv] at ce;cases ce
  | no=>rw [ju hv] at ce;cases ce
  | num d2 x2 hd2 hx2=>rw [wn hd2 hx2 hv] at ce;cases ce
  | dec d2 f2 x2 hd2 hf2 hx2 =>
   rw [List.append_assoc,List.append_assoc,List.cons_append,List.cons_append,List.append_assoc,List.append_assoc] at e
   obtain⟨q1,q2⟩:=qQ hd.w hd2.w (za (by decide)) (za (by decide)) e
   simp only [List.cons.injEq,true_and] at q2
   obtain⟨q3,q4⟩:=qQ hf.w hf2.w (Zb hx hu.nw) (Zb hx2 hv.nw) q2
   obtain⟨q5,q6⟩:=Yr hx hx2 hu hv q4
   exact⟨by rw [q1,q3,q5],q6⟩
  | text s2 h2=>rw [ki] at ce;cases ce
  | key n2 s2 hn2 h2=>rw [wo] at ce;cases ce
 | text s h =>
  rw [ki] at ce
  cases ht with
  | name n2 h2=>rw [kj h2 hv] at ce;cases ce
  | yes=>rw [wm hv] at ce;cases ce
  | no=>rw [ju hv] at ce;cases ce
  | num d2 x2 hd2 hx2=>rw [wn hd2 hx2 hv] at ce;cases ce
  | dec d2 f2 x2 hd2 hf2 hx2=>rw [wq hd2] at ce;cases ce
  | text s2 h2 =>
   simp only [List.cons_append,List.append_assoc,List.cons.injEq,true_and] at e
   obtain⟨q1,q2⟩:=kY h h2 e
   exact⟨by rw [q1],by simpa using q2⟩
  | key n2 s2 hn2 h2=>rw [wo] at ce;cases ce
 | key n s hn h =>
  rw [wo] at ce
  cases ht with
  | name n2 h2=>rw [kj h2 hv] at ce;cases ce
  | yes=>rw [wm hv] at ce;cases ce
  | no=>rw [ju hv] at ce;cases ce
  | num d2 x2 hd2 hx2=>rw [wn hd2 hx2 hv] at ce;cases ce
  | dec d2 f2 x2 hd2 hf2 hx2=>rw [wq hd2] at ce;cases ce
  | text s2 h2=>rw [ki] at ce;cases ce
  | key n2 s2 hn2 h2 =>
   simp only [List.cons_append,List.append_assoc,List.cons.injEq,true_and] at e
   obtain⟨q1,q2⟩:=qQ hn.2.1 hn2.2.1 (za (by decide)) (za (by decide)) e
   simp only [List.cons.injEq,true_and] at q2
   obtain⟨q3,q4⟩:=kY h h2 q2
   exact⟨by rw [q1,q3],by simpa using q4⟩
theorem wV (t:Bs):code (tIf++t)=5:=by
 rw [show tIf++t=wIf++(32::t) from rfl,wM (by decide) (za (by decide)) rfl,if_neg (by decide),if_pos rfl]
theorem kN (t:Bs):code (qoy++t)=6:=by
 rw [show qoy++t=qt2++(32::t) from rfl,wM (by decide) (za (by decide)) rfl,if_neg (by decide),if_neg (by decide),if_pos rfl]
theorem xU (t:Bs):code (UX++t)=7:=by
 rw [show UX++t=qhs++(40::t) from rfl,wM (by decide) (za (by decide)) rfl,if_neg (by decide),if_neg (by decide),if_neg (by decide),if_pos rfl]
theorem Kx (c:UInt8) (t:Bs) (h:Z2 c=false):code (c::t)=m1 (c::t):=Ui t h
theorem kS {n t:Bs} (h:Lw n):code (n++(tOf++t))=13:=by
 show code (n++(32::(111::102::32::40::t)))=13
 rw [Uj h (za (by decide))];rfl
theorem je {n t:Bs} (h:Lw n):code (n++(40::t))=12:=by rw [Uj h (za (by decide))];rfl
theorem qbm {n d:Bs} (h:Lw n) (hd:Dg d):n ≠ d:=by
 rintro rfl
 obtain⟨⟨c,t,rfl,hc⟩,_⟩:=h
 have:=(hd.2 c List.mem_cons_self).2
 have:=UInt8.le_trans hc this
 revert this;decide
def Wn (u:Bs):Prop:=(∃ t,u=41::t)∨∃ t,u=yu++t
theorem Wn.nw {u:Bs} (h:Wn u):Nw u:=by
 rcases h with⟨t,rfl⟩ | ⟨t,rfl⟩ <;> exact za (by decide)
theorem qah {s z u v:Bs} (hs:s=[]∨Dg s) (hz:z=[]∨Dg z) (hu:Wn u) (hv:Wn v) (e:(if s=[] then [] else 32::s)++u=(if z=[] then [] else 32::z)++v):s=z∧u=v:=by
 have key:∀ {d u v:Bs},Dg d→Wn v→(32::d)++u=v→False:=by
  intro d u v hd hv e
  match d,hd with
  | [],hd=>exact hd.1 rfl
  | c::d,hd =>
   have hc:=hd.2 c List.mem_cons_self
   rcases hv with⟨t,rfl⟩ | ⟨t,rfl⟩
   ·simp only [List.cons_append,List.cons.injEq] at e
    exact absurd e.1 (by decide)
   ·simp only [List.cons_append,List.cons.injEq,true_and] at e
    rw [e.1] at hc
    exact absurd hc.2 (by decide)
 rcases hs with rfl | hs
 ·rcases hz with rfl | hz
  ·exact⟨rfl,by simpa using e⟩
  ·rw [if_pos rfl,if_neg hz.1] at e
   exact(key hz hu e.symm).elim
 ·rcases hz with rfl | hz
  ·rw [if_pos rfl,if_neg hs.1] at e
   exact(key hs hv e).elim
  ·rw [if_neg hs.1,if_neg hz.1] at e
   simp only [List.cons_append,List.cons.injEq,true_and] at e
   exact qQ hs.w hz.w hu.nw hv.nw e
theorem Kw {s u:Bs} (hu:Wn u):Nw ((if s=[] then [] else 32::s)++u):=by
 split
 ·exact hu.nw
 ·exact za (by decide)
theorem WJ {p w z p' w' z' u v:Bs} (hp:p=[]∨Dg p) (hw:Lw w) (hz:z=[]∨Dg z) (hp':p'=[]∨Dg p') (hw':Lw w') (hz':z'=[]∨Dg z') (hu:Wn u) (hv:Wn v) (e:qqj p w z++u=qqj p' w' z'++v):p=p'∧w=w'∧z=z'∧u=v:=by
 unfold qqj at e
 simp only [List.append_assoc] at e
 have fin:∀ {s t:Bs},w++((if z=[] then [] else 32::z)++s)=w'++((if z'=[] then [] else 32::z')++t)→Wn s→Wn t→w=w'∧z=z'∧s=t:=fun e hs ht=>by
  obtain⟨h1,h2⟩:=qQ hw.2.1 hw'.2.1 (Kw hs) (Kw ht) e
  obtain⟨h3,h4⟩:=qah hz hz' hs ht h2
  exact⟨h1,h3,h4⟩
 rcases hp with rfl | hp
 ·rcases hp' with rfl | hp'
  ·rw [if_pos rfl,List.nil_append,List.nil_append] at e
   exact⟨rfl,fin e hu hv⟩
  ·rw [if_pos rfl,if_neg hp'.1,List.nil_append,List.append_assoc] at e
   exact absurd (qQ hw.2.1 hp'.w (Kw hu) (za (by decide)) e).1 (qbm hw hp')
 ·rcases hp' with rfl | hp'
  ·rw [if_pos rfl,if_neg hp.1,List.nil_append,List.append_assoc] at e
   exact absurd (qQ hp.w hw'.2.1 (za (by decide)) (Kw hv) e).1.symm (qbm hw' hp)
  ·rw [if_neg hp.1,if_neg hp'.1,List.append_assoc,List.append_assoc] at e
   obtain⟨h1,h2⟩:=qQ hp.w hp'.w (za (by decide)) (za (by decide)) e
   simp only [List.cons.injEq,true_and] at h2
   exact⟨h1,fin (@List.append_cancel_left _ [32] _ _ h2) hu hv⟩
def sz:T→Nat
 | .atom _=>1
 | .look _ a=>sz a+1
 | .agg _ _ _ a _ _ _ _ c=>sz a+sz c+1
 | .neg a=>sz a+1
 | .not a=>sz a+1
 | .nul a=>sz a+1
 | .bin _ a b=>sz a+sz b+1
 | .ite a b c=>sz a+sz b+sz c+1
def One (x:T):Prop:=∀ (y:T) (r:Nat) (w v:Bs),Wf y→r≤rk x→r≤rk y→Tm r w→Tm r v→tx x++w=tx y++v→x=y∧w=v
def nb:T→Bool
 | .bin _ _ _=>false
 | _=>true
theorem Wn.of (b:Bool) (t w:Bs):Wn ((if b then [] else yu++t)++[41]++w):=by
 cases b
 ·exact .inr ⟨t++([41]++w),by simp⟩
 ·exact .inl ⟨w,by simp⟩
theorem qew {p q:Bool} {x y:T} (ha:One x) (hy:Wf y) {r:Nat} (hp:p=decide (rk x < r)) (hq:q=decide (rk y < r)) {w v:Bs} (hw:Tm r w) (hv:Tm r v)
  (m1:p=true→q=false→par p (tx x)++w=par q (tx y)++v→False) (m2:p=false→q=true→par p (tx x)++w=par q (tx y)++v→False)
  (e:par p (tx x)++w=par q (tx y)++v):x=y∧w=v:=by
 cases hp':p <;> cases hq':q
 ·rw [hp',hq'] at e
  rw [hp'] at hp;rw [hq'] at hq
  exact ha y r w v hy (by simpa using hp.symm) (by simpa using hq.symm) hw hv e
 ·exact(m2 hp' hq' e).elim
 ·exact(m1 hp' hq' e).elim
 ·rw [hp',hq'] at e
  simp only [par,if_true,List.cons_append,List.append_assoc,List.cons.injEq,true_and,List.nil_append] at e
  obtain⟨h1,h2⟩:=ha y 0 _ _ hy (Nat.zero_le _) (Nat.zero_le _) (.par w) (.par v) e
  exact⟨h1,by simpa using h2⟩
def hx (h:Bool × T):Bs:=par h.1 (tx h.2)
def tl:List (Nat × T)→Bs
 | []=>[]
 | p::t=>JG p.1++(par (decide (rk p.2 < uB p.1+1)) (tx p.2)++tl t)
theorem Yt:∀ (s t:List (Nat × T)),tl (s++t)=tl s++tl t
 | [],t=>rfl
 | p::s,t=>by simp only [List.cons_append,tl,Yt s t,List.append_assoc]
def qT:T→(Bool × T) × List (Nat × T)
 | .bin op a b=>if rk a < opL op then ((true,a),[(op,b)]) else ((qT a).1,(qT a).2++[(op,b)])
 | x=>((false,x),[])
def back (h:(Bool × T) × List (Nat × T)):T:=h.2.foldl (fun acc p=>.bin p.1 acc p.2) h.1.2
theorem qqh {x:T} (h:nb x=true):qT x=((false,x),[]):=by
 cases x <;> first | rfl | cases h
theorem QX:∀ x:T,back (qT x)=x
 | .bin op a b=>by
  have ih:=QX a
  unfold qT
  split
  ·rfl
  ·unfold back at ih ⊢
   simp only [List.foldl_append,List.foldl_cons,List.foldl_nil,ih]
 | .atom _=>rfl
 | .look _ _=>rfl
 | .agg _ _ _ _ _ _ _ _ _=>rfl
 | .neg _=>rfl
 | .not _=>rfl
 | .nul _=>rfl
 | .ite _ _ _=>rfl
theorem um:∀ x:T,tx x=hx (qT x).1++tl (qT x).2
 | .bin op a b=>by
  have ih:=um a
  unfold qT
  split
  ·rename_i h
   rw [tx,decide_eq_true h]
   simp [hx,tl]
  ·rename_i h
   show _=hx (qT a).1++tl ((qT a).2++[(op,b)])
   rw [tx,decide_eq_false h,Yt,show par false (tx a)=tx a from rfl,ih]
   simp [tl,List.append_assoc]
 | .atom _=>by simp [qT,hx,tl,par]
 | .look _ _=>by simp [qT,hx,tl,par]
 | .agg _ _ _ _ _ _ _ _ _=>by simp [qT,hx,tl,par]
 | .neg _=>by simp [qT,hx,tl,par]
 | .not _=>by simp [qT,hx,tl,par]
 | .nul _=>by simp [qT,hx,tl,par]
 | .ite _ _ _=>by simp [qT,hx,tl,par]
def Ch:Nat→List (Nat × T)→Prop
 | _,[]=>True
 | q,p::t=>uB p.1≤q∧Ch (uB p.1) t
theorem Ch.snoc {k:Nat} {b:T}:∀ {q:Nat} {t:List (Nat × T)},Ch q t→(∀ p ∈ t,uB k≤uB p.1)→uB k≤q→Ch q (t++[(k,b)])
 | _,[],_,_,h=>⟨h,trivial⟩
 | _,p::_,hc,ht,_=>⟨hc.1,Ch.snoc hc.2 (fun x hx=>ht x (List.mem_cons_of_mem _ hx)) (ht p List.mem_cons_self)⟩
theorem Ww (k:Nat):uB k≤7:=by
 rw [VU]
 rcases QC (Nat.min_le_right k 10) with h | h | h | h | h | h | h | h | h | h | h <;> rw [h] <;> decide
theorem qz0 (k:Nat):uB k ≠ 0∧uB k ≠ 4:=by
 rw [VU]
 rcases QC (Nat.min_le_right k 10) with h | h | h | h | h | h | h | h | h | h | h <;> rw [h] <;> decide
theorem qpx (k:Nat):uB k≤opL k:=by unfold opL;split <;> omega
theorem qC1 {x:T} (h:nb x=true):rk x=0∨rk x=4∨rk x=8∨rk x=9:=by
 cases x <;> first | (simp [rk];done) | cases h
theorem qC2 {x:T} (h:nb x=true) {k:Nat} (hk:opL k≤rk x):uB k < rk x:=by
 have h1:=qpx k
 have h2:=qz0 k
 have h3:=Ww k
 rcases qC1 h with h | h | h | h <;> omega
structure Sp (x:T) (s:(Bool × T) × List (Nat × T)):Prop where
 hd:Wf s.1.2
 tls:∀ p ∈ s.2,p.1≤10∧Wf p.2∧rk x≤uB p.1∧sz p.2 < sz x
 ch:Ch 100 s.2
 pr:s.1.1=true→sz s.1.2 < sz x∧s.2 ≠ []
 un:s.1.1=false→nb s.1.2=true∧sz s.1.2≤sz x∧(s.2=[]→s.1.2=x)∧∀ p t,s.2=p::t→uB p.1 < rk s.1.2
theorem Sp.of_nb {x:T} (hw:Wf x) (h:nb x=true):Sp x (qT x):=by
 rw [qqh h]
 exact⟨hw,fun p hp=>absurd hp List.not_mem_nil,trivial,(fun e=>by cases e),fun _=>⟨h,Nat.le_refl _,fun _=>rfl,(fun p t e=>by cases e)⟩⟩
theorem uv:∀ {x:T},Wf x→Sp x (qT x)
 | .bin op a b,hw=>by
  obtain⟨ho,ha,hb⟩:op≤10∧Wf a∧Wf b:=by cases hw;exact⟨‹_›,‹_›,‹_›⟩
  have ih:=uv ha
  unfold qT
  have hsz:sz (.bin op a b)=sz a+sz b+1:=rfl
  have hrk:rk (.bin op a b)=uB op:=rfl
  split
  ·rename_i h
   refine⟨ha,fun p hp=>?_,⟨by have:=Ww op;simp only;omega,trivial⟩,fun _=>⟨by simp only;omega,by simp⟩,fun e=>by cases e⟩
   rw [List.mem_singleton.1 hp]
   exact⟨ho,hb,Nat.le_refl _,by simp only;omega⟩
  ·rename_i h
   have hL:=qpx op
   have hge:∀ p ∈ (qT a).2,uB op≤uB p.1:=fun p hp=>by have:=(ih.tls p hp).2.2.1;omega
   refine⟨ih.hd,fun p hp=>?_,ih.ch.snoc hge (by have:=Ww op;omega),fun e=>?_,fun e=>?_⟩
   ·rcases List.mem_append.1 hp with hp | hp
    ·have:=ih.tls p hp
     exact⟨this.1,this.2.1,hge p hp,by omega⟩
    ·rw [List.mem_singleton.1 hp]
     exact⟨ho,hb,Nat.le_refl _,by simp only;omega⟩
   ·have:=ih.pr e
    exact⟨by simp only;omega,by simp⟩
   ·obtain⟨h1,h2,h3,h4⟩:=ih.un e
    refine⟨h1,by simp only;omega,fun e=>absurd e (by simp),fun p t e=>?_⟩
    simp only at e ⊢
    match hs:(qT a).2,e with
    | [],e =>
     rw [List.nil_append] at e
     cases e
     rw [h3 hs] at h1 ⊢
     exact qC2 h1 (Nat.le_of_not_lt h)
    | q::s,e =>
     rw [List.cons_append] at e
     cases e
     exact h4 _ _ hs
 | .atom _,h=>.of_nb h rfl
 | .look _ _,h=>.of_nb h rfl
 | .agg _ _ _ _ _ _ _ _ _,h=>.of_nb h rfl
 | .neg _,h=>.of_nb h rfl
 | .not _,h=>.of_nb h rfl
 | .nul _,h=>.of_nb h rfl
 | .ite _ _ _,h=>.of_nb h rfl
theorem uV {a:T} (hw:Wf a) (h:nb a=true) {r:Nat} {w:Bs} (ht:Tm r w):code (tx a++w) ≠ 1:=by
 intro hc
 cases hw with
 | atom hs =>
  have h7:=yn hs ht
  rw [tx] at hc
  rw [hc] at h7
  revert h7;decide
 | look hn ha =>
  rw [tx,List.append_assoc,List.append_assoc,kS hn] at hc;cases hc
 | agg ho hta hc' ha hca hp hw' hz hcc htc =>
  rw [tx,List.append_assoc,List.cons_append,je ho] at hc;cases hc
 | neg ha=>rw [tx,List.cons_append,Kx _ _ (by decide)] at hc;cases hc
 | not ha=>rw [tx,List.append_assoc,kN] at hc;cases hc
 | nul ha=>rw [tx,List.append_assoc,xU] at hc;cases hc
 | bin ho ha hb=>cases h
 | ite ha hb hc'=>rw [tx,List.append_assoc,wV] at hc;cases hc
theorem Wu (s w:Bs):code (par true s++w)=1:=by
 simp only [par,if_true,List.cons_append]
 rw [Kx _ _ (by decide)]
 rfl
theorem qz3 {y:T} (hy:Wf y) {r:Nat} (hr:r≤rk y) {x:T} (ox:One x) {w v:Bs} (hw:Tm r w) (hv:Tm r v) (e:par true (tx x)++w=tx y++v):False:=by
 have hs:=uv hy
 rw [um y,List.append_assoc] at e
 cases hp:(qT y).1.1
 ·obtain⟨h1,_,h3,h4⟩:=hs.un hp
  have hcode:code (hx (qT y).1++(tl (qT y).2++v))=1:=by rw [← e];exact Wu _ _
  rw [hx,hp] at hcode
  match ht:(qT y).2 with
  | []=>rw [ht] at hcode;exact uV hs.hd h1 hv hcode
  | p::t=>rw [ht] at hcode;exact uV hs.hd h1 (by rw [tl,List.append_assoc];exact Tm.op p.1 _ (h4 p t ht)) hcode
 ·obtain⟨h1,h2⟩:=hs.pr hp
  rw [hx,hp] at e
  simp only [par,if_true,List.cons_append,List.append_assoc,List.cons.injEq,true_and,List.nil_append] at e
  obtain⟨_,h4⟩:=ox _ 0 _ _ hs.hd (Nat.zero_le _) (Nat.zero_le _) (.par w) (.par _) e
  match ht:(qT y).2 with
  | []=>exact h2 ht
  | p::t =>
   rw [ht,tl,List.append_assoc] at h4
   simp only [List.cons.injEq,true_and] at h4
   exact Tm.no_op hw (Nat.le_trans hr (hs.tls p (by rw [ht];exact List.mem_cons_self)).2.2.1) h4.symm
theorem qg4 {x y:T} (ox:One x) (hx:Wf x) (hy:Wf y) (oy:∀ z:T,sz z < sz x→Wf z→One z) {r:Nat} {w v:Bs} (hw:Tm r w) (hv:Tm r v)
  (e:par (decide (rk x < r)) (tx x)++w=par (decide (rk y < r)) (tx y)++v):x=y∧w=v:=by
 refine qew ox hy rfl rfl hw hv (fun h1 h2 e=>?_) (fun h1 h2 e=>?_) e
 ·rw [h1,h2] at e
  have hr:r≤rk y:=by simpa using h2
  exact qz3 hy hr ox hw hv e
 ·
  rw [h1,h2] at e
  have hr:r≤rk x:=by simpa using h1
  have hs:=uv hx
  simp only [par,if_true,if_false,Bool.false_eq_true] at e
  rw [um x,List.append_assoc] at e
  cases hp:(qT x).1.1
  ·obtain⟨q1,_,_,q4⟩:=hs.un hp
   have hcode:code (Go.Pr.hx (qT x).1++(tl (qT x).2++w))=1:=by rw [e,List.cons_append,Kx _ _ (by decide)];rfl
   rw [Go.Pr.hx,hp] at hcode
   match ht:(qT x).2 with
   | []=>rw [ht] at hcode;exact uV hs.hd q1 hw hcode
   | p::t=>rw [ht] at hcode;exact uV hs.hd q1 (by rw [tl,List.append_assoc];exact Tm.op p.1 _ (q4 p t ht)) hcode
  ·obtain⟨q1,q2⟩:=hs.pr hp
   rw [Go.Pr.hx,hp] at e
   simp only [par,if_true,List.cons_append,List.append_assoc,List.cons.injEq,true_and,List.nil_append] at e
   obtain⟨_,h4⟩:=oy _ q1 hs.hd y 0 _ _ hy (Nat.zero_le _) (Nat.zero_le _) (.par _) (.par v) e
   match ht:(qT x).2 with
   | []=>exact q2 ht
   | p::t =>
    rw [ht,tl,List.append_assoc] at h4
    simp only [List.cons.injEq,true_and] at h4
    exact Tm.no_op hv (Nat.le_trans hr (hs.tls p (by rw [ht];exact List.mem_cons_self)).2.2.1) h4
theorem Ys {r:Nat} {w v:Bs} (hw:Tm r w) (hv:Tm r v):∀ {s t:List (Nat × T)} {q p:Nat},Ch q s→Ch p t→(∀ x ∈ s,x.1≤10∧Wf x.2∧r≤uB x.1∧∀ z:T,sz z≤sz x.2→Wf z→One z)→(∀ x ∈ t,x.1≤10∧Wf x.2∧r≤uB x.1)→tl s++w=tl t++v→s=t∧w=v
 | [],[],_,_,_,_,_,_,e=>⟨rfl,e⟩
 | [],y::t,_,_,_,_,_,ht,e=>by
  rw [tl,tl,List.nil_append,List.append_assoc] at e
  exact(Tm.no_op hw (ht y List.mem_cons_self).2.2 e.symm).elim
 | x::s,[],_,_,_,_,hs,_,e=>by
  rw [tl,tl,List.nil_append,List.append_assoc] at e
  exact(Tm.no_op hv (hs x List.mem_cons_self).2.2.1 e).elim
 | x::s,y::t,_,_,cs,ct,hs,ht,e=>by
  have hx:=hs x List.mem_cons_self
  have hy:=ht y List.mem_cons_self
  rw [tl,tl,List.append_assoc,List.append_assoc,List.append_assoc,List.append_assoc] at e
  obtain⟨e1,e2⟩:=YX hx.1 hy.1 e
  rw [← e1] at e2
  have tm:∀ {u:List (Nat × T)} {w:Bs},Ch (uB x.1) u→Tm r w→Tm (uB x.1+1) (tl u++w):=by
   intro u w hu hw
   match u,hu with
   | [],_=>exact hw.mono (by omega)
   | z::u,hu=>rw [tl,List.append_assoc];exact .op z.1 _ (by have:=hu.1;omega)
  have ct2:=ct.2
  rw [← e1] at ct2
  obtain⟨e3,e4⟩:=qg4 (hx.2.2.2 _ (Nat.le_refl _) hx.2.1) hx.2.1 hy.2.1 (fun z hz hw=>hx.2.2.2 z (Nat.le_of_lt hz) hw) (tm cs.2 hw) (tm ct2 hv) e2
  obtain⟨e5,e6⟩:=Ys hw hv cs.2 ct.2 (fun z hz=>hs z (List.mem_cons_of_mem _ hz)) (fun z hz=>ht z (List.mem_cons_of_mem _ hz)) e4
  exact⟨by rw [e5,show x=y from Prod.ext e1 e3],e6⟩
theorem jS (t:Bs):code (45::t)=2:=by rw [Kx _ _ (by decide)];rfl
theorem UI {n:Nat} (ih:∀ z:T,sz z < n→Wf z→One z) {x y:T} (wx:Wf x) (wy:Wf y) (nx:nb x=true) (ny:nb y=true) (hsz:sz x≤n) {w v:Bs} (tw:Tm (rk x) w) (tv:Tm (rk y) v) (e:tx x++w=tx y++v):x=y∧w=v:=by
 have ce:code (tx x++w)=code (tx y++v):=by rw [e]
 cases wx with
 | atom hs =>
  have h7:=yn hs tw
  rw [tx] at ce
  cases wy with
  | atom hs2 =>
   rw [tx,tx] at e
   obtain⟨q1,q2⟩:=qm2 hs hs2 tw tv e
   exact⟨by rw [q1],q2⟩
  | look hn2 ha2=>rw [tx,List.append_assoc,List.append_assoc,kS hn2] at ce;rw [ce] at h7;exact absurd h7 (by decide)
  | @agg op2 tab2 cnt2 a2 pre2 win2 sz2 tru2 c2 ho2 hta2 hc2 ha2 hca2 hp2 hw2 hz2 hcc2 htc2=>rw [tx,List.append_assoc,List.cons_append,je ho2] at ce;rw [ce] at h7;exact absurd h7 (by decide)
  | neg ha2=>rw [tx,List.cons_append,jS] at ce;rw [ce] at h7;exact absurd h7 (by decide)
  | not ha2=>rw [tx,List.append_assoc,kN] at ce;rw [ce] at h7;exact absurd h7 (by decide)
  | nul ha2=>rw [tx,List.append_assoc,xU] at ce;rw [ce] at h7;exact absurd h7 (by decide)
  | bin ho2 ha2 hb2=>cases ny
  | ite ha2 hb2 hc2=>rw [tx,List.append_assoc,wV] at ce;rw [ce] at h7;exact absurd h7 (by decide)
 | look hn ha =>
  rw [tx,List.append_assoc,List.append_assoc,kS hn] at ce
  cases wy with
  | atom hs2=>have h7:=yn hs2 tv;rw [tx] at ce;rw [← ce] at h7;exact absurd h7 (by decide)
  | look hn2 ha2 =>
   rw [tx,tx] at e
   simp only [List.append_assoc] at e
   obtain⟨q1,q2⟩:=qQ hn.2.1 hn2.2.1 (za (by decide)) (za (by decide)) e
   have q3:=@List.append_cancel_left _ tOf _ _ q2
   obtain⟨q4,q5⟩:=ih _ (by simp only [sz] at hsz;omega) ha _ 0 _ _ ha2 (Nat.zero_le _) (Nat.zero_le _) (.par w) (.par v) q3
   exact⟨by rw [q1,q4],by simpa using q5⟩
  | @agg op2 tab2 cnt2 a2 pre2 win2 sz2 tru2 c2 ho2 hta2 hc2 ha2 hca2 hp2 hw2 hz2 hcc2 htc2=>rw [tx,List.append_assoc,List.cons_append,je ho2] at ce;cases ce
  | neg ha2=>rw [tx,List.cons_append,jS] at ce;cases ce
  | not ha2=>rw [tx,List.append_assoc,kN] at ce;cases ce
  | nul ha2=>rw [tx,List.append_assoc,xU] at ce;cases ce
  | bin ho2 ha2 hb2=>cases ny
  | ite ha2 hb2 hc2=>rw [tx,List.append_assoc,wV] at ce;cases ce
 | @agg op tab cnt a pre win sz1 tru c ho hta hc ha hca hp hw hz hcc htc =>
  rw [tx,List.append_assoc,List.cons_append,je ho] at ce
  cases wy with
  | atom hs2=>have h7:=yn hs2 tv;rw [tx] at ce;rw [← ce] at h7;exact absurd h7 (by decide)
  | look hn2 ha2=>rw [tx,List.append_assoc,List.append_assoc,kS hn2] at ce;cases ce
  | @agg op2 tab2 cnt2 a2 pre2 win2 sz2 tru2 c2 ho2 hta2 hc2 ha2 hca2 hp2 hw2 hz2 hcc2 htc2 =>
   rw [tx,tx] at e
   simp only [List.append_assoc,List.cons_append] at e
   obtain⟨q1,q2⟩:=qQ ho.2.1 ho2.2.1 (za (by decide)) (za (by decide)) e
   simp only [List.cons.injEq,true_and] at q2
   obtain⟨q3,q4⟩:=qQ hta.2.1 hta2.2.1 (za (by decide)) (za (by decide)) q2
   simp only [List.cons.injEq,true_and] at q4
   subst q1
   subst q3
   have key:∀ {u u':Bs},Wn u→Wn u'→∀ {a a':T},a=a'→∀ {p p' w1 w1' z z':Bs},p=p'∧w1=w1'∧z=z'∧u=u'→a=a'∧p=p'∧w1=w1'∧z=z'∧u=u':=fun _ _ _ _ h _ _ _ _ _ _ h2=>⟨h,h2⟩
   have step:∀ (tru tru':Bool) (c c':T),Wf c→Wf c'→(tru=true→c=tT)→(tru'=true→c'=tT)→One c→(if tru=true then [] else yu++tx c)++([41]++w)=(if tru'=true then [] else yu++tx c')++([41]++v)→tru=tru'∧c=c'∧w=v:=by
    intro tru tru' c c' hc hc' h1 h2 oc e
    cases tru <;> cases tru'
    ·simp only [Bool.false_eq_true,if_false,List.append_assoc] at e
     have e2:=@List.append_cancel_left _ yu _ _ e
     obtain⟨q1,q2⟩:=oc _ 0 _ _ hc' (Nat.zero_le _) (Nat.zero_le _) (.par w) (.par v) e2
     exact⟨rfl,q1,by simpa using q2⟩
    ·simp at e
    ·simp at e
    ·exact⟨rfl,by rw [h1 rfl,h2 rfl],by simpa using e⟩
   cases hcnt:cnt
   ·have hcnt2:cnt2=false:=by rw [hc2,← hc,hcnt]
    rw [hcnt,hcnt2] at q4
    simp only [Bool.false_eq_true,if_false,List.append_assoc] at q4
    obtain⟨q5,q6⟩:=ih _ (by simp only [sz] at hsz;omega) ha _ 0 _ _ ha2 (Nat.zero_le _) (Nat.zero_le _) (.com _) (.com _) q4
    have q7:=@List.append_cancel_left _ [44,32] _ _ q6
    obtain⟨q8,q9,q10,q11⟩:=WJ hp hw hz hp2 hw2 hz2 (by have:=Wn.of tru (tx c) w;rwa [List.append_assoc] at this) (by have:=Wn.of tru2 (tx c2) v;rwa [List.append_assoc] at this) q7
    obtain⟨q12,q13,q14⟩:=step _ _ _ _ hcc hcc2 htc htc2 (ih _ (by simp only [sz] at hsz;omega) hcc) q11
    exact⟨by rw [q5,q8,q9,q10,q12,q13,hcnt2],q14⟩
   ·have hcnt2:cnt2=true:=by rw [hc2,← hc,hcnt]
    rw [hcnt,hcnt2] at q4
    simp only [if_true,List.nil_append] at q4
    obtain⟨q8,q9,q10,q11⟩:=WJ hp hw hz hp2 hw2 hz2 (by have:=Wn.of tru (tx c) w;rwa [List.append_assoc] at this) (by have:=Wn.of tru2 (tx c2) v;rwa [List.append_assoc] at this) q4
    obtain⟨q12,q13,q14⟩:=step _ _ _ _ hcc hcc2 htc htc2 (ih _ (by simp only [sz] at hsz;omega) hcc) q11
    exact⟨by rw [hca hcnt,hca2 hcnt2,q8,q9,q10,q12,q13,hcnt2],q14⟩
  | neg ha2=>rw [tx,List.cons_append,jS] at ce;cases ce
  | not ha2=>rw [tx,List.append_assoc,kN] at ce;cases ce
  | nul ha2=>rw [tx,List.append_assoc,xU] at ce;cases ce
  | bin ho2 ha2 hb2=>cases ny
  | ite ha2 hb2 hc2=>rw [tx,List.append_assoc,wV] at ce;cases ce
 | neg ha =>
  rw [tx,List.cons_append,jS] at ce
  cases wy with
  | atom hs2=>have h7:=yn hs2 tv;rw [tx] at ce;rw [← ce] at h7;exact absurd h7 (by decide)
  | look hn2 ha2=>rw [tx,List.append_assoc,List.append_assoc,kS hn2] at ce;cases ce
  | @agg op2 tab2 cnt2 a2 pre2 win2 sz2 tru2 c2 ho2 hta2 hc2 ha2 hca2 hp2 hw2 hz2 hcc2 htc2=>rw [tx,List.append_assoc,List.cons_append,je ho2] at ce;cases ce
  | neg ha2 =>
   rw [tx,tx] at e
   simp only [List.cons_append,List.cons.injEq,true_and] at e
   obtain⟨q1,q2⟩:=qg4 (ih _ (by simp only [sz] at hsz;omega) ha) ha ha2 (fun z hz hw=>ih z (by simp only [sz] at hsz;omega) hw) tw tv e
   exact⟨by rw [q1],q2⟩
  | not ha2=>rw [tx,List.append_assoc,kN] at ce;cases ce
  | nul ha2=>rw [tx,List.append_assoc,xU] at ce;cases ce
  | bin ho2 ha2 hb2=>cases ny
  | ite ha2 hb2 hc2=>rw [tx,List.append_assoc,wV] at ce;cases ce
 | not ha =>
  rw [tx,List.append_assoc,kN] at ce
  cases wy with
  | atom hs2=>have h7:=yn hs2 tv;rw [tx] at ce;rw [← ce] at h7;exact absurd h7 (by decide)
  | look hn2 ha2=>rw [tx,List.append_assoc,List.append_assoc,kS hn2] at ce;cases ce
  | @agg op2 tab2 cnt2 a2 pre2 win2 sz2 tru2 c2 ho2 hta2 hc2 ha2 hca2 hp2 hw2 hz2 hcc2 htc2=>rw [tx,List.append_assoc,List.cons_append,je ho2] at ce;cases ce
  | neg ha2=>rw [tx,List.cons_append,jS] at ce;cases ce
  | not ha2 =>
   rw [tx,tx] at e
   simp only [List.append_assoc] at e
   have e2:=@List.append_cancel_left _ qoy _ _ e
   obtain⟨q1,q2⟩:=qg4 (ih _ (by simp only [sz] at hsz;omega) ha) ha ha2 (fun z hz hw=>ih z (by simp only [sz] at hsz;omega) hw) tw tv e2
   exact⟨by rw [q1],q2⟩
  | nul ha2=>rw [tx,List.append_assoc,xU] at ce;cases ce
  | bin ho2 ha2 hb2=>cases ny
  | ite ha2 hb2 hc2=>rw [tx,List.append_assoc,wV] at ce;cases ce
 | nul ha =>
  rw [tx,List.append_assoc,xU] at ce
  cases wy with
  | atom hs2=>have h7:=yn hs2 tv;rw [tx] at ce;rw [← ce] at h7;exact absurd h7 (by decide)
  | look hn2 ha2=>rw [tx,List.append_assoc,List.append_assoc,kS hn2] at ce;cases ce
  | @agg op2 tab2 cnt2 a2 pre2 win2 sz2 tru2 c2 ho2 hta2 hc2 ha2 hca2 hp2 hw2 hz2 hcc2 htc2=>rw [tx,List.append_assoc,List.cons_append,je ho2] at ce;cases ce
  | neg ha2=>rw [tx,List.cons_append,jS] at ce;cases ce
  | not ha2=>rw [tx,List.append_assoc,kN] at ce;cases ce
  | nul ha2 =>
   rw [tx,tx] at e
   simp only [List.append_assoc] at e
   have e2:=@List.append_cancel_left _ UX _ _ e
   obtain⟨q1,q2⟩:=ih _ (by simp only [sz] at hsz;omega) ha _ 0 _ _ ha2 (Nat.zero_le _) (Nat.zero_le _) (.par w) (.par v) e2
   exact⟨by rw [q1],by simpa using q2⟩
  | bin ho2 ha2 hb2=>cases ny
  | ite ha2 hb2 hc2=>rw [tx,List.append_assoc,wV] at ce;cases ce
 | bin ho ha hb =>
  cases nx
 | ite ha hb hc =>
  rw [tx,List.append_assoc,wV] at ce
  cases wy with
  | atom hs2=>have h7:=yn hs2 tv;rw [tx] at ce;rw [← ce] at h7;exact absurd h7 (by decide)
  | look hn2 ha2=>rw [tx,List.append_assoc,List.append_assoc,kS hn2] at ce;cases ce
  | @agg op2 tab2 cnt2 a2 pre2 win2 sz2 tru2 c2 ho2 hta2 hc2 ha2 hca2 hp2 hw2 hz2 hcc2 htc2=>rw [tx,List.append_assoc,List.cons_append,je ho2] at ce;cases ce
  | neg ha2=>rw [tx,List.cons_append,jS] at ce;cases ce
  | not ha2=>rw [tx,List.append_assoc,kN] at ce;cases ce
  | nul ha2=>rw [tx,List.append_assoc,xU] at ce;cases ce
  | bin ho2 ha2 hb2=>cases ny
  | ite ha2 hb2 hc2 =>
   rw [tx,tx] at e
   simp only [List.append_assoc] at e
   have e2:=@List.append_cancel_left _ tIf _ _ e
   obtain⟨q1,q2⟩:=ih _ (by simp only [sz] at hsz;omega) ha _ 0 _ _ ha2 (Nat.zero_le _) (Nat.zero_le _) (.thn _) (.thn _) e2
   have e3:=@List.append_cancel_left _ YE _ _ q2
   obtain⟨q3,q4⟩:=ih _ (by simp only [sz] at hsz;omega) hb _ 0 _ _ hb2 (Nat.zero_le _) (Nat.zero_le _) (.els _) (.els _) e3
   have e4:=@List.append_cancel_left _ YF _ _ q4
   obtain⟨q5,q6⟩:=ih _ (by simp only [sz] at hsz;omega) hc _ 0 _ _ hc2 (Nat.zero_le _) (Nat.zero_le _) tw tv e4
   exact⟨by rw [q1,q3,q5],q6⟩
theorem qz1 (n:Nat):∀ x:T,sz x≤n→Wf x→One x:=by
 induction n using Nat.strongRecOn with
 | ind n ih =>
  intro x hn wx y r w v wy rx ry tw tv e
  have ih':∀ z:T,sz z < n→Wf z→One z:=fun z hz hw=>ih (sz z) hz z (Nat.le_refl _) hw
  have sx:=uv wx
  have sy:=uv wy
  rw [um x,um y,List.append_assoc,List.append_assoc] at e
  have tmx:(qT x).1.1=false→Tm (rk (qT x).1.2) (tl (qT x).2++w):=fun hp=>by
   obtain⟨_,_,h3,h4⟩:=sx.un hp
   match ht:(qT x).2 with
   | []=>rw [h3 ht];exact tw.mono rx
   | p::t=>rw [tl,List.append_assoc];exact .op p.1 _ (h4 p t ht)
  have tmy:(qT y).1.1=false→Tm (rk (qT y).1.2) (tl (qT y).2++v):=fun hp=>by
   obtain⟨_,_,h3,h4⟩:=sy.un hp
   match ht:(qT y).2 with
   | []=>rw [h3 ht];exact tv.mono ry
   | p::t=>rw [tl,List.append_assoc];exact .op p.1 _ (h4 p t ht)
  have heads:(qT x).1=(qT y).1∧tl (qT x).2++w=tl (qT y).2++v:=by
   cases hp:(qT x).1.1 <;> cases hq:(qT y).1.1
   ·obtain⟨h1,h2,_,_⟩:=sx.un hp
    obtain⟨g1,_,_,_⟩:=sy.un hq
    rw [hx,hx,hp,hq] at e
    obtain⟨q1,q2⟩:=UI (n:=n) ih' sx.hd sy.hd h1 g1 (by omega) (tmx hp) (tmy hq) e
    exact⟨Prod.ext (by rw [hp,hq]) q1,q2⟩
   ·exfalso
    obtain⟨h1,_,_,_⟩:=sx.un hp
    rw [hx,hx,hp,hq] at e
    have hc:=Wu (tx (qT y).1.2) (tl (qT y).2++v)
    rw [← e] at hc
    exact uV sx.hd h1 (tmx hp) hc
   ·exfalso
    obtain⟨h1,_,_,_⟩:=sy.un hq
    rw [hx,hx,hp,hq] at e
    have hc:=Wu (tx (qT x).1.2) (tl (qT x).2++w)
    rw [e] at hc
    exact uV sy.hd h1 (tmy hq) hc
   ·obtain⟨h1,_⟩:=sx.pr hp
    rw [hx,hx,hp,hq] at e
    simp only [par,if_true,List.cons_append,List.append_assoc,List.cons.injEq,true_and,List.nil_append] at e
    obtain⟨q1,q2⟩:=ih' _ (by omega) sx.hd _ 0 _ _ sy.hd (Nat.zero_le _) (Nat.zero_le _) (.par _) (.par _) e
    simp only [List.cons.injEq,true_and] at q2
    exact⟨Prod.ext (by rw [hp,hq]) q1,q2⟩
  obtain⟨h1,h2⟩:=Ys tw tv sx.ch sy.ch (fun p hp=>by
   have:=sx.tls p hp
   exact⟨this.1,this.2.1,Nat.le_trans rx this.2.2.1,fun z hz hw=>ih' z (by omega) hw⟩) (fun p hp=>by
   have:=sy.tls p hp
   exact⟨this.1,this.2.1,Nat.le_trans ry this.2.2.1⟩) heads.2
  exact⟨by rw [← QX x,← QX y,show qT x=qT y from Prod.ext heads.1 h1],h2⟩
theorem qzf {x y:T} (hx:Wf x) (hy:Wf y) (e:tx x=tx y):x=y :=
 (qz1 (sz x) x (Nat.le_refl _) hx y 0 [] [] hy (Nat.zero_le _) (Nat.zero_le _) .nil .nil (by rw [e])).1
end Go.Pr
set_option linter.unusedSimpArgs false
set_option maxRecDepth 100000
namespace Go.Pr
open Go.VL Go.Ar Go.Lo
theorem xe {s t:Str} (h:s.data.toList=t.data.toList):s=t:=by
 cases s;cases t
 simp only at h
 rw [Array.toList_inj.1 h]
def VX (l:Bs):Nat:=l.foldl (fun a c=>10 * a+(c.toNat - 48)) 0
theorem qkn (l:Bs) (c:UInt8):VX (l++[c])=10 * VX l+(c.toNat - 48):=by simp [VX]
theorem qn5 {d:Nat} (h:d < 10):(UInt8.ofNat (48+d)).toNat - 48=d:=by
 rw [UInt8.toNat_ofNat'];omega
theorem WE:∀ n:Nat,VX (Lib.decDigits n)=n:=by
 intro n
 induction n using Nat.strongRecOn with
 | ind n ih =>
  rw [Lib.decDigits]
  split
  ·rename_i h
   simp only [VX,List.foldl_cons,List.foldl_nil,Nat.mul_zero,Nat.zero_add]
   exact qn5 h
  ·rename_i h
   rw [qkn,ih (n / 10) (by omega),qn5 (Nat.mod_lt _ (by decide))]
   omega
theorem Ud {m n:Nat} (h:Lib.decDigits m=Lib.decDigits n):m=n:=by rw [← WE m,← WE n,h]
theorem KQ {d:Nat} (h:d < 10):48≤UInt8.ofNat (48+d)∧UInt8.ofNat (48+d)≤57:=by
 constructor
 ·rw [UInt8.le_iff_toNat_le,UInt8.toNat_ofNat'];simp;omega
 ·rw [UInt8.le_iff_toNat_le,UInt8.toNat_ofNat'];simp;omega
theorem yz:∀ n:Nat,Dg (Lib.decDigits n):=by
 intro n
 induction n using Nat.strongRecOn with
 | ind n ih =>
  rw [Lib.decDigits]
  split
  ·rename_i h
   exact⟨by simp,fun c hc=>by rw [List.mem_singleton.1 hc];exact KQ h⟩
  ·rename_i h
   refine⟨by simp,fun c hc=>?_⟩
   rcases List.mem_append.1 hc with hc | hc
   ·exact(ih (n / 10) (by omega)).2 c hc
   ·rw [List.mem_singleton.1 hc];exact KQ (Nat.mod_lt _ (by decide))
theorem WS {m n:Int} (h:Lib.itoa m=Lib.itoa n):m=n:=by
 have first:∀ k,∃ c t,Lib.decDigits k=c::t∧c ≠ 45:=fun k=>by
  have hd:=yz k
  match hk:Lib.decDigits k with
  | []=>exact absurd hk hd.1
  | c::t =>
   refine⟨c,t,rfl,?_⟩
   rintro rfl
   have:=(hd.2 45 (by rw [hk];exact List.mem_cons_self)).1
   revert this;decide
 unfold Lib.itoa at h
 by_cases h1:m < 0 <;> by_cases h2:n < 0
 ·rw [if_pos h1,if_pos h2] at h
  have:=Ud (List.cons.inj h).2
  omega
 ·rw [if_pos h1,if_neg h2] at h
  obtain⟨c,t,e,hc⟩:=first n.toNat
  rw [e] at h
  exact absurd (List.cons.inj h).1.symm hc
 ·rw [if_neg h1,if_pos h2] at h
  obtain⟨c,t,e,hc⟩:=first m.toNat
  rw [e] at h
  exact absurd (List.cons.inj h).1 hc
 ·rw [if_neg h1,if_neg h2] at h
  have:=Ud h
  omega
def ZB (l:Bs):Bs:=List.replicate (7 - l.length) 48++l
theorem qfe (k:Nat) (l:Bs):VX (List.replicate k 48++l)=VX l:=by
 induction k with
 | zero=>rfl
 | succ k ih=>rw [List.replicate_succ,List.cons_append];unfold VX at ih ⊢;rw [List.foldl_cons];exact ih
theorem qa3 (l:Bs):7≤(ZB l).length:=by unfold ZB;rw [List.length_append,List.length_replicate];omega
theorem quq {l:Bs} (h:Dg l):Dg (ZB l):=by
 unfold ZB
 refine⟨by simp [h.1],fun c hc=>?_⟩
 rcases List.mem_append.1 hc with hc | hc
 ·rw [(List.mem_replicate.1 hc).2];decide
 ·exact h.2 c hc
def Ue (n:Nat):Bs:=(ZB (Lib.decDigits n)).take ((ZB (Lib.decDigits n)).length - 6)++(46::(ZB (Lib.decDigits n)).drop ((ZB (Lib.decDigits n)).length - 6))
theorem qv3 {l:Bs} (h:Dg l) {k:Nat} (hk:0 < k) (hl:k≤l.length):Dg (l.take k) :=
 ⟨fun e=>by have:=congrArg List.length e;rw [List.length_take,Nat.min_eq_left hl,List.length_nil] at this;omega,fun c hc=>h.2 c (List.mem_of_mem_take hc)⟩
theorem qv4 {l:Bs} (h:Dg l) {k:Nat} (hl:k < l.length):Dg (l.drop k) :=
 ⟨fun e=>by have:=congrArg List.length e;rw [List.length_drop,List.length_nil] at this;omega,fun c hc=>h.2 c (List.mem_of_mem_drop hc)⟩
theorem vF (n:Nat):∃ d f,Ue n=d++(46::f)∧Dg d∧Dg f∧VX (d++f)=n:=by
 have hp:=quq (yz n)
 have hl:=qa3 (Lib.decDigits n)
 refine⟨_,_,rfl,qv3 hp (by omega) (by omega),qv4 hp (by omega),?_⟩
 rw [List.take_append_drop]
 unfold ZB
 rw [qfe,WE]
abbrev sb (s:Str):Bs:=s.data.toList
def facT (f:kK):Bs:=sb f.name++(if f.exp=1 then [] else 94::Lib.itoa f.exp)
def qcg (u:List kK):Bs:=Lib.join (u.map facT) [42]
def wU (u:List kK):Bs:=if u=[] then [] else 32::91::(qcg u++[93])
def Xj (v:Val):Bs :=
 if v.kind=1 then (if v.n=1 then yB else wFalse) else if v.kind=2 then Lib.itoa v.n else if v.kind=3 then Ue v.n.toNat else 34::(sb v.s++[34])
def kf (h:Hd):Bs:=if h.val.kind=5 then 64::(sb h.name++(32::34::(sb h.val.s++[34]))) else Xj h.val++wU h.unit
def qdw (u:List kK):Prop:=∀ f ∈ u,(∀ c ∈ sb f.name,Z2 c=true)∧sb f.name ≠ []
theorem qf0 (n:Int):∀ c ∈ Lib.itoa n,c=45∨(48≤c∧c≤57):=fun c hc=>by
 unfold Lib.itoa at hc
 split at hc
 ·rcases List.mem_cons.1 hc with rfl | hc
  ·exact .inl rfl
  ·exact .inr ((yz _).2 c hc)
 ·exact .inr ((yz _).2 c hc)
theorem Vj {f:kK} (h:∀ c ∈ sb f.name,Z2 c=true) {b:UInt8} (hb:Z2 b=false) (h45:b ≠ 45) (h94:b ≠ 94) (hd:¬ (48≤b∧b≤57)):b ∉ facT f:=fun hc=>by
 unfold facT at hc
 rcases List.mem_append.1 hc with hc | hc
 ·rw [h b hc] at hb;cases hb
 ·split at hc
  ·cases hc
  ·rcases List.mem_cons.1 hc with e | hc
   ·exact h94 e
   ·rcases qf0 _ b hc with e | e
    ·exact h45 e
    ·exact hd e
theorem qrw {f g:kK} (hf:∀ c ∈ sb f.name,Z2 c=true) (hg:∀ c ∈ sb g.name,Z2 c=true) (e:facT f=facT g):f=g:=by
 have nw:∀ f:kK,Nw (if f.exp=1 then [] else 94::Lib.itoa f.exp):=fun f=>by
  split
  ·exact WD
  ·exact za (by decide)
 obtain⟨h1,h2⟩:=qQ hf hg (nw f) (nw g) e
 have h3:f.exp=g.exp:=by
  by_cases q1:f.exp=1 <;> by_cases q2:g.exp=1
  ·rw [q1,q2]
  ·rw [if_pos q1,if_neg q2] at h2;cases h2
  ·rw [if_neg q1,if_pos q2] at h2;cases h2
  ·rw [if_neg q1,if_neg q2] at h2;exact WS (List.cons.inj h2).2
 have h4:=xe h1
 cases f;cases g
 simp only at h3 h4
 rw [h3,h4]
theorem qbu {b:UInt8}:∀ {xs ys:List Bs},(∀ x ∈ xs,b ∉ x)→(∀ y ∈ ys,b ∉ y)→xs ≠ []→ys ≠ []→Lib.join xs [b]=Lib.join ys [b]→xs=ys
 | [],_,_,_,h,_,_=>absurd rfl h
 | _::_,[],_,_,_,h,_=>absurd rfl h
 | [x],[y],_,_,_,_,e=>by rw [Lib.join_one,Lib.join_one] at e;rw [e]
 | [x],y::z::r,hx,_,_,_,e=>by
  rw [Lib.join_one,Lib.join_cons] at e
  exact absurd (show b ∈ x by rw [e];simp [Lib.joinTail]) (hx x List.mem_cons_self)
 | x::z::r,[y],_,hy,_,_,e=>by
  rw [Lib.join_one,Lib.join_cons] at e
  exact absurd (show b ∈ y by rw [← e];simp [Lib.joinTail]) (hy y List.mem_cons_self)
 | x::z::r,y::z'::r',hx,hy,_,_,e=>by
  have st:∀ (x z:Bs) (r:List Bs),Lib.join (x::z::r) [b]=x++b::Lib.join (z::r) [b]:=fun x z r=>by
   rw [Lib.join_cons,Lib.join_cons];simp [Lib.joinTail]
  rw [st,st] at e
  obtain⟨h1,h2⟩:=kY (hx x List.mem_cons_self) (hy y List.mem_cons_self) e
  have:=qbu (fun w hw=>hx w (List.mem_cons_of_mem _ hw)) (fun w hw=>hy w (List.mem_cons_of_mem _ hw)) (by simp) (by simp) h2
  rw [h1,this]
theorem qu0 {u v:List kK} (hu:qdw u) (hv:qdw v) (e:u.map facT=v.map facT):u=v:=by
 induction u generalizing v with
 | nil=>cases v with
  | nil=>rfl
  | cons g v=>cases e
 | cons f u ih=>cases v with
  | nil=>cases e
  | cons g v =>
   rw [List.map_cons,List.map_cons] at e
   obtain⟨e1,e2⟩:=List.cons.inj e
   rw [qrw (hu f List.mem_cons_self).1 (hv g List.mem_cons_self).1 e1,ih (fun x hx=>hu x (List.mem_cons_of_mem _ hx)) (fun x hx=>hv x (List.mem_cons_of_mem _ hx)) e2]
theorem qlu {u:List kK} (hu:qdw u) {b:UInt8} (hb:Z2 b=false) (h42:b ≠ 42) (h45:b ≠ 45) (h94:b ≠ 94) (hd:¬ (48≤b∧b≤57)):b ∉ qcg u:=by
 unfold qcg
 induction u with
 | nil=>simp [Lib.join_nil]
 | cons f u ih =>
  have h1:=Vj (hu f List.mem_cons_self).1 hb h45 h94 hd
  have h2:=ih (fun x hx=>hu x (List.mem_cons_of_mem _ hx))
  cases u with
  | nil=>rw [List.map_cons,List.map_nil,Lib.join_one];exact h1
  | cons g u =>
   rw [List.map_cons,List.map_cons,Lib.join_cons] at *
   intro h
   rcases List.mem_append.1 h with h | h
   ·exact h1 h
   ·simp only [Lib.joinTail,List.map_cons,List.flatten_cons,List.cons_append,List.nil_append] at h h2
    rcases List.mem_cons.1 h with h | h
    ·exact h42 h
    ·exact h2 h
theorem Za {u:List kK} (hu:qdw u):Un (wU u):=by
 unfold wU
 split
 ·exact .inl rfl
 ·exact .inr ⟨_,rfl,qlu hu (by decide) (by decide) (by decide) (by decide) (by decide)⟩
theorem Yp {u v:List kK} (hu:qdw u) (hv:qdw v) (e:wU u=wU v):u=v:=by
 unfold wU at e
 by_cases q1:u=[] <;> by_cases q2:v=[]
 ·rw [q1,q2]
 ·rw [if_pos q1,if_neg q2] at e;cases e
 ·rw [if_neg q1,if_pos q2] at e;cases e
 ·rw [if_neg q1,if_neg q2] at e
  simp only [List.cons.injEq,true_and] at e
  have e2:=(List.append_cancel_right e)
  unfold qcg at e2
  have fr:∀ {u:List kK},qdw u→∀ x ∈ u.map facT,(42:UInt8) ∉ x:=fun hu x hx=>by
   obtain⟨f,hf,rfl⟩:=List.mem_map.1 hx
   exact Vj (hu f hf).1 (by decide) (by decide) (by decide) (by decide)
  exact qu0 hu hv (qbu (fr hu) (fr hv) (by simpa using q1) (by simpa using q2) e2)
end Go.Pr
set_option linter.unusedSimpArgs false
set_option maxRecDepth 100000
set_option linter.defProp false
namespace Go.VL
open Go.RowKit Go.Sort Go.Shelf Go.Lib Go.Proofs
theorem vp {w:World} {I:Cells}:∀ {ls xs:List Value},V.reps w I (ls.map .lit) xs→xs=ls
 | [],[],_=>rfl
 | [],_::_,h=>by simp [V.reps] at h
 | _::_,[],h=>by simp [V.reps] at h
 | l::ls,x::xs,h=>by
  simp only [List.map_cons,V.reps,V.rep] at h
  rw [h.1,vp h.2]
theorem zc.of_calls {P:Program} {f:FuncId} {ls:List Value} {r:Value} (h:∀ w,Calls P f ls.toArray w fun e w'=>e=.returned r∧w'=w):zc P f (ls.map .lit) (.lit r):=by
 intro w I zs hr hH
 obtain rfl:=vp hr
 refine(h w).mono fun e w' ⟨he,hw⟩=>?_
 subst hw
 exact⟨_,.lit r,[],[],I,he,by simp only [V.rep],qJ.refl _ _ _,hH,by simp [qA],rfl,rfl,rfl⟩
end Go.VL
namespace Go.Proofs.YtohdpcjaoiebkaaGreatDoor
open Go.VL Go.Ar Go.Lo Go.Pr Go.Proofs.YtohdpcjaoiebkaaGreatDoor Go.Shelf
abbrev vX (n:Int):Prop:=-9223372036854775808≤n∧n≤9223372036854775807
abbrev vuN (n:Int):V:=.lit (.int .u64 n)
abbrev ts (l:Bs):Str:=⟨l.toArray⟩
theorem qqw (u:Nat) (hu:u < 18446744073709551616):zc Tryz.prog 89 [vuN u] (vint (Lib.bitLen u)) :=
 zc.of_calls (ls:=[.int .u64 u]) fun w=>Any.bits_Len64 { Tryz.lays171 with } u w (by omega) (by omega)
theorem qqr (x:Nat) (h:x≤64):zc Tryz.prog 181 [vint x] (vint (Lib.l10 x)) :=
 zc.of_calls (ls:=[.int .i64 x]) fun w=>Any.internal_strconv_log10Pow2 { Tryz.lays171 with } x h w
theorem qsk (b:Bool):zc Tryz.prog 182 [qv b] (vint (if b then 1 else 0)) :=
 zc.of_calls (ls:=[.bool b]) fun w=>Any.internal_strconv_bool2_int { Tryz.lays171 with } b w
theorem qpf (i:Nat) (h:i < 100):zc Tryz.prog 168 [vint i] (qm (ts (Lib.decDigits i))) :=
 zc.of_calls (ls:=[.int .i64 i]) fun w=>Any.internal_strconv_small { Tryz.lays171 with } i h w
theorem qch (b cap u:Nat) (hu64:u < 18446744073709551616) (c0:V) (rest:List V) :
  Ok Tryz.prog 170 [.lit (.slice (some ⟨b,1,none⟩) (Lib.nDigits u) cap),vuN u] [(b,.c (c0::((List.replicate (Lib.nDigits u) (0:UInt8)).map vb++rest)))] fun v bs rs=>v=.tup []∧bs=[(b,.c (c0::((Lib.decDigits u).map vb++rest)))]∧rs=[] :=
 Ok.fmt10 { Tryz.lays171 with } b cap u hu64 c0 rest
theorem ZT:∀ (f x:Nat),Lib.bitLenAux f x≤f
 | 0,x=>by cases x <;> exact Nat.le_refl _
 | f+1,x=>by
  have:=ZT f (x / 2)
  rw [Lib.bitLenAux]
  split <;> omega
theorem qeu (i:Nat) (h:i≤19):∃ t,List.drop (i * 1) ([V.lit (.int .u64 1),V.lit (.int .u64 10),V.lit (.int .u64 100),V.lit (.int .u64 1000),V.lit (.int .u64 10000),V.lit (.int .u64 100000),V.lit (.int .u64 1000000),V.lit (.int .u64 10000000),V.lit (.int .u64 100000000),V.lit (.int .u64 1000000000),V.lit (.int .u64 10000000000),V.lit (.int .u64 100000000000),V.lit (.int .u64 1000000000000),V.lit (.int .u64 10000000000000),V.lit (.int .u64 100000000000000),V.lit (.int .u64 1000000000000000),V.lit (.int .u64 10000000000000000),V.lit (.int .u64 100000000000000000),V.lit (.int .u64 1000000000000000000),V.lit (.int .u64 10000000000000000000)]:List V)=.lit (.int .u64 ((10 ^ i:Nat):Int))::t:=by
 have:i=0∨i=1∨i=2∨i=3∨i=4∨i=5∨i=6∨i=7∨i=8∨i=9∨i=10∨i=11∨i=12∨i=13∨i=14∨i=15∨i=16∨i=17∨i=18∨i=19:=by omega
 rcases this with rfl | rfl | rfl | rfl | rfl | rfl | rfl | rfl | rfl | rfl | rfl | rfl | rfl | rfl | rfl | rfl | rfl | rfl | rfl | rfl <;> exact⟨_,rfl⟩
def qoe:=(aI (aI Ty.c181 (aI Ty.c182 Ty.c89)) (aI (aI Ty.t143 Ty.t216) (aI Ty.t3 Ty.t4)))
theorem ZE (u:Nat) (h1:1≤u) (hu:u < 18446744073709551616):zc Tryz.prog 169 [vuN u] (vint (Lib.nDigits u)):=by
 obtain⟨hn,hl⟩:=Lib.numDigits_eq u h1 hu
 have hb:Lib.bitLen u≤64:=ZT 64 u
 obtain⟨t,ht⟩:=qeu _ hl
 have hlt:((Lib.l10 (Lib.bitLen u):Nat):Int) < 20:=by omega
 have hlt2:((Lib.l10 (Lib.bitLen u):Nat):Int) < ((20:Nat):Int):=by omega
 refine Ok.of_ex Ty.mixed Tryz.func169 rfl (by simp [Tryz.ntmps169]) (by kernel_rfl) fun F w0 I0=>?_
 simp only [↓rA,rB,simprocAttr,qoe]
 refine qg _ (qqw u hu) ?_
 simp only [↓rA,rB,simprocAttr,qoe]
 refine qg _ (qqr _ hb) ?_
 simp only [↓rA,rB,simprocAttr,qoe,hlt]
 rw [ht]
 simp only [rB,simprocAttr]
 refine qg _ (qsk _) ?_
 simp only [↓rA,rB,simprocAttr,Tryz.results169]
 refine qa ?_
 congr 3
 have hn20:=Lib.nDigits_le20 u hu
 have e:((10 ^ Lib.l10 (Lib.bitLen u):Nat):Int)≤u↔10 ^ Lib.l10 (Lib.bitLen u)≤u:=by omega
 rw [zl (by split <;> omega) (by split <;> omega)]
 by_cases h:10 ^ Lib.l10 (Lib.bitLen u)≤u
 ·rw [if_pos h] at hn
  rw [if_pos (e.2 h)]
  omega
 ·rw [if_neg h] at hn
  rw [if_neg (mt e.1 h)]
  omega
theorem qhp (nd:Nat) (h:nd≤20):([V.lit (.int .u8 0),V.lit (.int .u8 0),V.lit (.int .u8 0),V.lit (.int .u8 0),V.lit (.int .u8 0),V.lit (.int .u8 0),V.lit (.int .u8 0),V.lit (.int .u8 0),V.lit (.int .u8 0),V.lit (.int .u8 0),V.lit (.int .u8 0),V.lit (.int .u8 0),V.lit (.int .u8 0),V.lit (.int .u8 0),V.lit (.int .u8 0),V.lit (.int .u8 0),V.lit (.int .u8 0),V.lit (.int .u8 0),V.lit (.int .u8 0),V.lit (.int .u8 0),V.lit (.int .u8 0),V.lit (.int .u8 0),V.lit (.int .u8 0),V.lit (.int .u8 0)]:List V)=.lit (.int .u8 0)::((List.replicate nd (0:UInt8)).map vb++(List.replicate (23 - nd) (0:UInt8)).map vb):=by
 rw [← List.map_append,List.replicate_append_replicate,show nd+(23 - nd)=23 by omega]
 rfl
theorem XR (l:Bs):jO (l.map fun b=>(b.toNat:Int))=ts l:=by
 unfold jO ts
 congr 2
 rw [List.map_map]
 conv=>rhs;rw [← List.map_id l]
 apply List.map_congr_left
 intro b _
 simp
def Zf:=(aI (aI (aI Ty.c168 (aI Ty.c169 Ty.c170)) (aI Ty.c171 (aI Ty.t143 Ty.t2))) (aI (aI Ty.t204 (aI Ty.t206 Ty.t3)) (aI (aI Ty.t4 Ty.t5) (aI Ty.t9 Ty.t91))))
set_option maxHeartbeats 1000000 in
theorem V8 (n:Int) (hn:vX n):zc Tryz.prog 157 [vint n,vint 10] (qm (ts (Lib.itoa n))):=by
 obtain⟨hn1,hn2⟩:=hn
 refine Ok.of_ex Ty.mixed Tryz.func157 rfl (by simp [Tryz.ntmps157]) (by kernel_rfl) fun F w0 I0=>?_
 simp only [↓rA,rB,simprocAttr]
 by_cases h0:0≤n
 ·by_cases h1:n < 100
  ·obtain⟨i,rfl⟩:∃ i:Nat,n=i:=⟨n.toNat,by omega⟩
   simp only [↓rA,rB,simprocAttr,Zf,h0,h1]
   refine qg _ (qpf i (by omega)) ?_
   simp only [↓rA,rB,simprocAttr,Tryz.results157]
   exact qa (by rw [Lib.itoa,if_neg (by omega),Int.toNat_natCast])
  ·obtain⟨u,rfl⟩:∃ i:Nat,n=i:=⟨n.toNat,by omega⟩
   have h2:¬ (u:Int) < 0:=by omega
   simp only [↓rA,rB,simprocAttr,Zf,h0,h1]
   refine fun b5 h5=>?_;replace h5:=qn h5;try simp only [Nb] at h5
   simp only [↓rA,rB,simprocAttr,Zf,h0,h2]
   have hnd:=Lib.nDigits_le20 u (by omega)
   have e1:IntKind.u64.wrap (u:Int)=u:=by rw [IntKind.wrap_u64];omega
   rw [e1]
   refine qg _ (ZE u (by omega) (by omega)) ?_
   have hdl:=Lib.decDigits_length u
   rw [qhp _ hnd]
   have hfm:=qch b5 23 u (by omega) (.lit (.int .u8 0)) ((List.replicate (23 - Lib.nDigits u) (0:UInt8)).map vb)
   have hit:Lib.itoa (u:Int)=Lib.decDigits u:=by rw [Lib.itoa,if_neg (by omega),Int.toNat_natCast]
   rw [hit]
   generalize Lib.nDigits u=nd at *
   have e2:IntKind.i64.wrap (1+(nd:Int))=((1+nd:Nat):Int):=by rw [zl (by omega) (by omega)];omega
   simp only [↓rA,rB,simprocAttr,Zf,h0,e2]
   refine⟨by omega,by omega,fun e=>e.elim,?_⟩
   rw [show 1+nd - 1=nd by omega]
   refine qi [(b5,_)] [] (List.Perm.refl _) hfm ?_
   rintro v bs rs ⟨rfl,rfl,rfl⟩
   simp only [↓rA,rB,simprocAttr,Zf,h0,h2,e2]
   have hlen:((Lib.decDigits u).map vb++(List.replicate (23 - nd) (0:UInt8)).map vb).length=23:=by rw [List.length_append,List.length_map,List.length_map,List.length_replicate,hdl];omega
   refine⟨by omega,by omega,fun e=>e.elim,by rw [hlen];omega,(Lib.decDigits u).map fun b=>(b.toNat:Int),?_,?_⟩
   ·rw [show 1+nd - 1=((Lib.decDigits u).map vb).length by rw [List.length_map,hdl];omega,List.take_left,List.map_map]
    rfl
   rw [XR]
   simp only [↓rA,rB,simprocAttr,Tryz.results157,h0]
   exact qa rfl
 ·obtain⟨u,rfl⟩:∃ u:Nat,n=-(u:Int):=⟨n.natAbs,by omega⟩
  have h2:-(u:Int) < 0:=by omega
  simp only [↓rA,rB,simprocAttr,Zf,h0]
  refine fun b5 h5=>?_;replace h5:=qn h5;try simp only [Nb] at h5
  simp only [↓rA,rB,simprocAttr,Zf,h0,h2]
  have hnd:=Lib.nDigits_le20 u (by omega)
  have e1:IntKind.u64.wrap (0 - IntKind.u64.wrap (-(u:Int)))=u:=by rw [IntKind.wrap_u64,IntKind.wrap_u64];omega
  rw [e1]
  refine qg _ (ZE u (by omega) (by omega)) ?_
  have hdl:=Lib.decDigits_length u
  rw [qhp _ hnd]
  have hfm:=qch b5 23 u (by omega) (.lit (.int .u8 0)) ((List.replicate (23 - Lib.nDigits u) (0:UInt8)).map vb)
  have hit:Lib.itoa (-(u:Int))=45::Lib.decDigits u:=by rw [Lib.itoa,if_pos (by omega),show (-(u:Int)).natAbs=u by omega]
  rw [hit]
  generalize Lib.nDigits u=nd at *
  have e2:IntKind.i64.wrap (1+(nd:Int))=((1+nd:Nat):Int):=by rw [zl (by omega) (by omega)];omega
  simp only [↓rA,rB,simprocAttr,Zf,h0,e2]
  refine⟨by omega,by omega,fun e=>e.elim,?_⟩
  rw [show 1+nd - 1=nd by omega]
  refine qi [(b5,_)] [] (List.Perm.refl _) hfm ?_
  rintro v bs rs ⟨rfl,rfl,rfl⟩
  have hlen:((Lib.decDigits u).map vb++(List.replicate (23 - nd) (0:UInt8)).map vb).length=23:=by rw [List.length_append,List.length_map,List.length_map,List.length_replicate,hdl];omega
  simp only [↓rA,rB,simprocAttr,Zf,h0,h2,e2,hlen]
  refine⟨by omega,fun e=>e.elim,by omega,(45::Lib.decDigits u).map fun b=>(b.toNat:Int),?_,?_⟩
  ·rw [Nat.add_comm 1 nd,List.take_succ_cons,show nd=((Lib.decDigits u).map vb).length by rw [List.length_map,hdl],List.take_left,List.map_map]
   rfl
  rw [XR]
  simp only [↓rA,rB,simprocAttr,Tryz.results157,h0]
  exact qa rfl
def qxk:=(aI (aI Ty.c136 Ty.c157) (aI Ty.t2 (aI Ty.t3 Ty.t9)))
theorem yk (n:Int) (hn:vX n):zc Tryz.prog 98 [vint n] (qm (ts (Lib.itoa n))):=by
 have h1:zc Tryz.prog 136 [vint n] (qm (ts (Lib.itoa n))):=by
  refine Ok.of_ex Ty.mixed Tryz.func136 rfl (by simp [Tryz.ntmps136]) (by kernel_rfl) fun F w0 I0=>?_
  simp only [↓rA,rB,simprocAttr,qxk]
  refine qg _ (V8 n hn) ?_
  simp only [↓rA,rB,simprocAttr,Tryz.results136]
  exact qa rfl
 refine Ok.of_ex Ty.mixed Tryz.func98 rfl (by simp [Tryz.ntmps98]) (by kernel_rfl) fun F w0 I0=>?_
 simp only [↓rA,rB,simprocAttr,qxk]
 refine qg _ h1 ?_
 simp only [↓rA,rB,simprocAttr,Tryz.results98]
 exact qa rfl
end Go.Proofs.YtohdpcjaoiebkaaGreatDoor
set_option linter.unusedSimpArgs false
set_option maxRecDepth 100000
set_option linter.defProp false
namespace Go.Proofs.YtohdpcjaoiebkaaGreatDoor
open Go.VL Go.Ar Go.Lo Go.Pr Go.Proofs.YtohdpcjaoiebkaaGreatDoor Go.Shelf
theorem kd (l:Bs):(ts l).size=l.length:=by simp [ByteArray.size]
theorem yE (a b:Bs):ts a++ts b=ts (a++b):=by
 apply xe
 simp [ts]
theorem KT (l:Bs) (i j:Nat):(ts l).extract i j=ts ((l.take j).drop i):=by
 apply xe
 simp [ts,ByteArray.data_extract,List.drop_take]
theorem KS (s:Str):ts (sb s)=s:=by cases s;rfl
theorem join_nil:∀ xs:List Bs,Lib.join xs []=xs.flatten
 | []=>rfl
 | x::r=>by rw [Lib.join_cons];simp [Lib.joinTail]
def qCd:=(aI Ty.c128 (aI Ty.t69 Ty.t9))
theorem qvb (own:Option Value) (xs:List Str) (hN:xs.length≤1000) (hlen:(xs.map sb).flatten.length≤140737488355328):zc Tryz.prog 94 [.list own 1 (xs.map fun s=>[qm s])] (qm (ts (xs.map sb).flatten)):=by
 have hj:=qag own xs es0 (by omega) (by rw [show es0.data.toList=[] from rfl,join_nil];exact hlen)
 rw [show es0.data.toList=[] from rfl,join_nil] at hj
 refine Ok.of_ex Ty.mixed Tryz.func94 rfl (by simp [Tryz.ntmps94]) (by kernel_rfl) fun F w0 I0=>?_
 simp only [↓rA,rB,simprocAttr,qCd]
 refine qg _ hj ?_
 simp only [↓rA,rB,simprocAttr,Tryz.results94]
 exact qa rfl
def qod:=(aI (aI Ty.c98 Ty.t3) (aI Ty.t4 Ty.t9))
theorem qAx (n:Nat) (hn:n≤1152921504606846976):zc Tryz.prog 156 [vint n] (qm (ts (Ue n))):=by
 have hneg:¬ (n:Int) < 0:=by omega
 have hit:Lib.itoa (n:Int)=Lib.decDigits n:=by rw [Lib.itoa,if_neg (by omega),Int.toNat_natCast]
 have hq:=yk n ⟨by omega,by omega⟩
 rw [hit] at hq
 have hl20:=Lib.decDigits_length n
 have h20:=Lib.nDigits_le20 n (by omega)
 refine Ok.of_ex Ty.mixed Tryz.func156 rfl (by simp [Tryz.ntmps156]) (by kernel_rfl) fun F w0 I0=>?_
 simp only [↓rA,rB,simprocAttr,qod]
 refine qg _ hq ?_
 simp only [↓rA,rB,simprocAttr,Tryz.results156,hneg]
 obtain⟨K,hK⟩:∃ K,K=7 - (Lib.decDigits n).length:=⟨_,rfl⟩
 refine XE Ty.mixed (by kernel_rfl) (fun k=>k) (fun(k:Nat) S=>k≤K∧S.rows=[]∧S.boxes=[]∧S.σ 3=qm (ts (List.replicate (K - k) 48++Lib.decDigits n))∧S.σ 4=qm es0) K ⟨_,_,List.Sublist.refl _,List.Sublist.refl _,?_⟩ (fun k S ⟨hk,gr,gb,g3,g4⟩=>?_)
 ·simp only [rB,simprocAttr]
  rw [Nat.sub_self];rfl
 ·have hl:(List.replicate (K - k) (48:UInt8)++Lib.decDigits n).length=K - k+(Lib.decDigits n).length:=by rw [List.length_append,List.length_replicate]
  rcases k with _ | k
  ·have hc:¬ ((K - 0+(Lib.decDigits n).length:Nat):Int)≤6:=by omega
   have hpad:List.replicate (K - 0) (48:UInt8)++Lib.decDigits n=ZB (Lib.decDigits n):=by unfold ZB;rw [Nat.sub_zero,hK]
   have hpl:=qa3 (Lib.decDigits n)
   rw [hpad] at g3 hl
   have hle:(ZB (Lib.decDigits n)).length≤27:=by rw [hl];omega
   rw [← hl] at hc
   unfold Ue
   generalize ZB (Lib.decDigits n)=d at *
   have e1:IntKind.i64.wrap ((d.length:Int) - 6)=((d.length - 6:Nat):Int):=by rw [zl (by omega) (by omega)];omega
   have ha:(d.take (d.length - 6)).length=d.length - 6:=by rw [List.length_take];omega
   have hb:(d.drop (d.length - 6)).length=6:=by rw [List.length_drop];omega
   simp only [↓rA,rB,simprocAttr,qod,gr,gb,g3,g4,kd,hc,e1]
   refine⟨by omega,?_⟩
   rw [KT,List.drop_zero,kd,ha,if_pos (by omega),KT,List.take_length,show es0=ts [] from rfl,yE,List.nil_append]
   simp only [rB,simprocAttr,kd,ha]
   rw [show (⟨#[46]⟩:Str)=ts [46] from rfl,yE,if_pos (by omega)]
   simp only [rB,simprocAttr]
   refine⟨by omega,?_⟩
   simp only [rB,simprocAttr,kd,ha,hb,List.length_append]
   rw [if_pos (by omega),yE]
   simp only [rB,simprocAttr]
   refine qa ?_
   rw [List.append_assoc];rfl
  ·have hc:((K - (k+1)+(Lib.decDigits n).length:Nat):Int)≤6:=by omega
   simp only [↓rA,rB,simprocAttr,qod,g3,kd,hl,hc]
   rw [if_pos (by omega),show (⟨#[48]⟩:Str)=ts [48] from rfl,yE]
   simp only [rB,simprocAttr]
   refine⟨k,by omega,[],[],List.nil_sublist _,List.nil_sublist _,?_⟩
   refine⟨by omega,rfl,rfl,?_,g4⟩
   rw [show K - k=(K - (k+1))+1 from by omega,List.replicate_succ]
   rfl
end Go.Proofs.YtohdpcjaoiebkaaGreatDoor
set_option linter.unusedSimpArgs false
set_option maxRecDepth 100000
set_option linter.defProp false
namespace Go.Proofs.YtohdpcjaoiebkaaGreatDoor
open Go.VL Go.Ar Go.Lo Go.Proofs.YtohdpcjaoiebkaaGreatDoor
def qor:=(aI (aI Ty.t126 (aI Ty.t3 Ty.t36)) (aI Ty.t4 (aI Ty.t43 Ty.t9)))
theorem qbv (k:Int) (u:List kK) (of:Str):zc Tryz.prog 123 [.agg [vint k,qG u,qm of]] (qv (decide (k=2∨k=3))):=by
 refine Ok.of_ex Ty.mixed Tryz.func123 rfl (by simp [Tryz.ntmps123]) (by kernel_rfl) fun F w0 I0=>?_
 simp only [↓rA,rB,qf,Nat.reduceLT]
 refine fun b1 h1=>?_;replace h1:=qn h1;try simp only [Nb] at h1
 by_cases e1:k=2
 ·simp only [↓rA,rB,Int.reduceEq,Nat.reduceAdd,Nat.reduceEqDiff,qor,Tryz.results123,e1]
  exact qa (by simp [])
 ·by_cases e2:k=3
  ·simp only [↓rA,rB,Int.reduceEq,Nat.reduceAdd,Nat.reduceEqDiff,qor,Tryz.results123,e2]
   exact qa (by simp [])
  ·simp only [↓rA,rB,Nat.reduceAdd,Nat.reduceEqDiff,qor,Tryz.results123,e1,e2]
   exact qa (by simp [])
theorem qe2 (n m:Int) (hm:0≤m∧m≤1000):zc Tryz.prog 149 [vint n,vint m] (qv (Wv n m)):=by
 refine Ok.of_ex Ty.mixed Tryz.func149 rfl (by simp [Tryz.ntmps149]) (by kernel_rfl) fun F w0 I0=>?_
 have hw:=zl (n:=-m) (by omega) (by omega)
 by_cases e1:m < n
 ·simp only [↓rA,rB,Nat.reduceEqDiff,reduceCtorEq,Tryz.results149,e1]
  exact qa (by simp [Wv,e1])
 ·by_cases e2:n < -m
  ·simp only [↓rA,rB,Nat.reduceEqDiff,reduceCtorEq,Tryz.results149,e1]
   exact qa (by simp [Wv,e2,hw])
  ·simp only [↓rA,rB,Nat.reduceEqDiff,reduceCtorEq,Tryz.results149,e1]
   exact qa (by simp [Wv,e1,e2,hw])
def KZ:=(aI (aI Ty.t3 Ty.t4) (aI Ty.t5 Ty.t9))
theorem qty (s:Str):zc Tryz.prog 148 [qm s] (qv (wS s)):=by
 refine Ok.of_ex Ty.mixed Tryz.func148 rfl (by simp [Tryz.ntmps148]) (by kernel_rfl) fun F w0 I0=>?_
 by_cases e0:s.size=0
 ·have e0':(s.size:Int)=0:=by omega
  simp only [↓rA,rB,Nat.reduceEqDiff,reduceCtorEq,KZ,Tryz.results148,e0']
  exact qa (by rw [wS,if_pos e0])
 have e0':¬ (s.size:Int)=0:=by omega
 have e0p:0 < s.size:=by omega
 have e0i:(0:Int) < s.size:=by omega
 by_cases e1:24 < s.size
 ·have e1':(24:Int) < s.size:=by omega
  simp only [↓rA,rB,Nat.reduceEqDiff,reduceCtorEq,KZ,Tryz.results148,e0',e1']
  exact qa (by rw [wS,if_neg e0,if_pos e1])
 have e1':¬ (24:Int) < s.size:=by omega
 by_cases e2:((s.data.toList.getD 0 0).toNat:Int) < 97
 ·simp only [↓rA,rB,Int.reduceToNat,Nat.reduceEqDiff,reduceCtorEq,KZ,Tryz.results148,e0',e1',e0i,e2]
  exact qa (by rw [wS,if_neg e0,if_neg e1,if_pos e2])
 by_cases e3:(122:Int) < (s.data.toList.getD 0 0).toNat
 ·simp only [↓rA,rB,Int.reduceToNat,Nat.reduceEqDiff,reduceCtorEq,KZ,Tryz.results148,e0',e1',e0i,e2,e3]
  exact qa (by rw [wS,if_neg e0,if_neg e1,if_neg e2,if_pos e3])
 simp only [↓rA,rB,Int.reduceToNat,Nat.reduceEqDiff,reduceCtorEq,KZ,Tryz.results148,e0',e1',e0i,e2,e3]
 have hw:wS s=s.data.toList.all wordC:=by rw [wS,if_neg e0,if_neg e1,if_neg e2,if_neg e3]
 refine qB Ty.mixed (by kernel_rfl) s.size (fun i S=>(s.data.toList.take i).all wordC=true∧S.boxes=[]∧S.rows=[]∧S.σ 0=qm s∧S.σ 24=vint s.size∧S.σ 25=vint i) ⟨0,?_⟩ (fun i S hi ⟨hf,gb,gr,g0,g24,g25⟩=>?_) (fun S ⟨hf,gb,gr,g0,g24,g25⟩=>?_)
 ·simp only [rB,Nat.reduceEqDiff,reduceCtorEq]
 ·have hl:i < s.data.toList.length:=by simpa using hi
  have ht:=jc (p:=wordC) hl
  have hb:=jd (p:=wordC) hl
  rw [← jX s i hi] at ht hb
  generalize hcd:s.data.toList.getD i 0=c at ht hb
  have hwi:=qk (i:=i) (N:=s.size) hi (by omega)
  by_cases p1:(c.toNat:Int) < 97 <;> by_cases p2:(122:Int) < c.toNat <;> by_cases p3:(c.toNat:Int) < 48 <;> by_cases p4:(57:Int) < c.toNat <;> by_cases p5:(c.toNat:Int)=95 <;>
  first
  | (
    have hc:wordC c=true:=by simp [wordC,p1,p2,p3,p4,p5]
    simp only [↓rA,rB,Int.reduceLT,Nat.reduceEqDiff,reduceCtorEq,KZ,gb,gr,g0,g24,g25,Int.ofNat_lt,hi,hcd,p1,p2,p3,p4,p5,hwi]
    exact⟨0,by rw [ht,hf,hc];rfl⟩)
  | (
    have hc:wordC c=false:=by simp [wordC,p1,p2,p3,p4,p5]
    simp only [↓rA,rB,Nat.reduceEqDiff,reduceCtorEq,KZ,gb,gr,g0,g24,g25,Int.ofNat_lt,hi,hcd,p1,p2,p3,p4,p5]
    exact qa (by rw [hw,hb hc]))
 ·simp only [↓rA,rB,gb,gr,g24,g25,Int.ofNat_lt,Nat.lt_irrefl]
  rw [List.take_of_length_le (by simp)] at hf
  exact qa (by rw [hw,hf])
end Go.Proofs.YtohdpcjaoiebkaaGreatDoor
namespace Go.Proofs
open Go.Shelf
def Tryz.lays144_ren:Go.Shelf.Ren:=⟨fun | 144=>151 | 143=>164 | 219=>178 | 217=>188 | 225=>189 | 224=>190 | 267=>191 | 266=>197 | 314=>198 | n=>n,fun | 9=>9 | 4=>4 | 3=>3 | 5=>5 | 46=>106 | 146=>227 | 51=>141 | n=>n,fun | 1=>4 | n=>n⟩
theorem Tryz.lays144:Go.Proofs.Lays.n144 Tryz.prog Tryz.lays144_ren:={
 mixed:=by kernel_rfl
 f143:=Tryz.func164.trans (congrArg some (by kernel_rfl))
 f144:=Tryz.func151.trans (congrArg some (by kernel_rfl))
 f217:=Tryz.func188.trans (congrArg some (by kernel_rfl))
 f219:=Tryz.func178.trans (congrArg some (by kernel_rfl))
 f224:=Tryz.func190.trans (congrArg some (by kernel_rfl))
 f225:=Tryz.func189.trans (congrArg some (by kernel_rfl))
 f266:=Tryz.func197.trans (congrArg some (by kernel_rfl))
 f267:=Tryz.func191.trans (congrArg some (by kernel_rfl))
 f314:=Tryz.func198.trans (congrArg some (by kernel_rfl))
 t3:=Tryz.underlying3
 a3:=Tryz.isAgg3
 z3:=Tryz.sizeOf3
 v3:=Tryz.zeroValue3
 t4:=Tryz.underlying4
 a4:=Tryz.isAgg4
 z4:=Tryz.sizeOf4
 v4:=Tryz.zeroValue4
 t5:=Tryz.underlying5
 a5:=Tryz.isAgg5
 z5:=Tryz.sizeOf5
 v5:=Tryz.zeroValue5
 t9:=Tryz.underlying9
 a9:=Tryz.isAgg9
 z9:=Tryz.sizeOf9
 v9:=Tryz.zeroValue9
 t46:=Tryz.underlying106
 a46:=Tryz.isAgg106
 z46:=Tryz.sizeOf106
 v46:=Tryz.zeroValue106
 t51:=Tryz.underlying141
 a51:=Tryz.isAgg141
 z51:=Tryz.sizeOf141
 v51:=Tryz.zeroValue141
 t146:=Tryz.underlying227
 a146:=Tryz.isAgg227
 z146:=Tryz.sizeOf227
 v146:=Tryz.zeroValue227
 g1:=by kernel_rfl }
end Go.Proofs
set_option linter.unusedSimpArgs false
set_option maxRecDepth 100000
set_option linter.defProp false
namespace Go.Proofs.YtohdpcjaoiebkaaGreatDoor
open Go.VL Go.Ar Go.Lo Go.Proofs.YtohdpcjaoiebkaaGreatDoor Go.Shelf
theorem Kd (s sub:Str) (hs:s.size < 4294967281):zc Tryz.prog 151 [qm s,qm sub] (qv (Lib.contains s.data.toList sub.data.toList)):=by
 intro w I xs hr hH
 have:xs=[.string s,.string sub]:=by
  match xs,hr with
  | [x,y],hr=>simp only [V.reps,V.rep,and_true] at hr;rw [hr.1,hr.2]
  | [],hr=>simp [V.reps] at hr
  | [_],hr=>simp [V.reps] at hr
  | _::_::_::_,hr=>simp [V.reps] at hr
 subst this
 obtain⟨m,hm,_⟩:=hH.glob.2 4 (by simp [qyn])
 refine(Any.strings_Contains Tryz.lays144 s sub m w hs hm).mono ?_
 rintro e w' ⟨rfl,rfl⟩
 exact⟨_,_,[],[],I,rfl,by simp only [V.rep],qJ.refl _ _ _,hH,fun b hb=>by simp [qA] at hb,rfl,rfl,rfl⟩
def qxu:=(aI Ty.c151 (aI Ty.t4 Ty.t9))
theorem qfy (s:Str) (hs:s.size≤24):zc Tryz.prog 127 [qm s] (qv (ZI s)):=by
 refine Ok.of_ex Ty.mixed Tryz.func127 rfl (by simp [Tryz.ntmps127]) (by kernel_rfl) fun F w0 I0=>?_
 by_cases e0:s=es0
 ·subst e0
  simp only [↓rA,rB,Nat.reduceEqDiff,reduceCtorEq,Tryz.results127]
  exact qa (by rw [ZI,if_pos rfl])
 have hs1:((⟨#[32]⟩:Str)).size+s.size≤9223372036854775807:=by rw [show ((⟨#[32]⟩:Str)).size=1 from rfl];omega
 have hs2:((⟨#[32]⟩:Str)++s).size+((⟨#[32]⟩:Str)).size≤9223372036854775807:=by rw [qph,show ((⟨#[32]⟩:Str)).size=1 from rfl];omega
 simp only [↓rA,rB,Nat.reduceEqDiff,reduceCtorEq,qxu,e0]
 refine qg _ (Kd s ⟨#[32]⟩ (by omega)) ?_
 cases h1:Lib.contains s.data.toList (⟨#[32]⟩:Str).data.toList
 ·simp only [↓rA,rB,Nat.reduceEqDiff,reduceCtorEq,qxu,hs1,hs2]
  refine qg _ (Kd _ _ (by decide)) ?_
  simp only [↓rA,rB,Nat.reduceEqDiff,Tryz.results127]
  refine qa ?_
  rw [ZI,if_neg e0,if_neg (by rw [show (⟨#[32]⟩:Str).data.toList=[32] from rfl] at h1;rw [h1];decide)]
  congr 2
 ·simp only [↓rA,rB,Nat.reduceEqDiff,Tryz.results127]
  refine qa ?_
  rw [ZI,if_neg e0,if_pos (by rw [show (⟨#[32]⟩:Str).data.toList=[32] from rfl] at h1;exact h1)]
def US:=(aI (aI Ty.c127 Ty.t3) (aI Ty.t4 (aI Ty.t5 Ty.t9)))
theorem yd (s:Str):zc Tryz.prog 92 [qm s] (qv (qP s)):=by
 refine Ok.of_ex Ty.mixed Tryz.func92 rfl (by simp [Tryz.ntmps92]) (by kernel_rfl) fun F w0 I0=>?_
 by_cases e0:s=es0
 ·subst e0
  simp only [↓rA,rB,Nat.reduceEqDiff,reduceCtorEq,Tryz.results92]
  exact qa (by rw [qP,if_pos rfl])
 by_cases e1:24 < s.size
 ·have e1':(24:Int) < s.size:=by omega
  simp only [↓rA,rB,Nat.reduceEqDiff,reduceCtorEq,US,Tryz.results92,e0,e1']
  exact qa (by rw [qP,if_neg e0,if_pos e1])
 have e1':¬ (24:Int) < s.size:=by omega
 simp only [↓rA,rB,Nat.reduceEqDiff,reduceCtorEq,US,e0,e1']
 refine qg _ (qfy s (by omega)) ?_
 cases e2:ZI s
 ·simp only [↓rA,rB,Nat.reduceEqDiff,reduceCtorEq,US,Tryz.results92]
  have hw:qP s=kR 0 s.data.toList:=by rw [qP,if_neg e0,if_neg e1,if_neg (by rw [e2];decide)]
  refine qB Ty.mixed (by kernel_rfl) s.size (fun i S=>kR 0 (s.data.toList.take i)=true∧S.boxes=[]∧S.rows=[]∧S.σ 0=qm s∧S.σ 17=vint s.size∧S.σ 18=vint i) ⟨0,?_⟩ (fun i S hi ⟨hf,gb,gr,g0,g24,g25⟩=>?_) (fun S ⟨hf,gb,gr,g0,g24,g25⟩=>?_)
  ·simp only [rB,Nat.reduceEqDiff,reduceCtorEq]
   try exact rfl
  ·have hl:i < s.data.toList.length:=by simpa using hi
   have ht:=vz hl
   have hb:=QQ hl
   rw [← jX s i hi] at ht hb
   generalize hcd:s.data.toList.getD i 0=c at ht hb
   have hwi:=qk (i:=i) (N:=s.size) hi (by omega)
   have cs:((97:Int)≤c.toNat∧(c.toNat:Int)≤122)∨(¬ (97:Int)≤c.toNat∧¬ (0:Int) < i)∨(((97:Int)≤c.toNat∧¬ (c.toNat:Int)≤122)∧¬ (0:Int) < i)∨(¬ (97:Int)≤c.toNat∧(0:Int) < i∧¬ (48:Int)≤c.toNat∧¬ (c.toNat:Int)=95) ∨
     (¬ (97:Int)≤c.toNat∧(0:Int) < i∧(48:Int)≤c.toNat∧(c.toNat:Int)≤57)∨(¬ (97:Int)≤c.toNat∧(0:Int) < i∧(48:Int)≤c.toNat∧¬ (c.toNat:Int)≤57∧(c.toNat:Int)=95)∨(¬ (97:Int)≤c.toNat∧(0:Int) < i∧(48:Int)≤c.toNat∧¬ (c.toNat:Int)≤57∧¬ (c.toNat:Int)=95) ∨
     ((97:Int)≤c.toNat∧¬ (c.toNat:Int)≤122∧(0:Int) < i∧(48:Int)≤c.toNat∧¬ (c.toNat:Int)≤57∧¬ (c.toNat:Int)=95):=by omega
   have hi0:(0 < i)=((0:Int) < i):=by simp
   rcases cs with cs | cs | cs | cs | cs | cs | cs | cs <;>
   first
   | (
     have hc:yR i c=true:=by simp only [yR,hi0,cs];rfl
     simp only [↓rA,rB,Int.reduceLE,Nat.reduceEqDiff,reduceCtorEq,US,gb,gr,g0,g24,g25,Int.ofNat_lt,hi,hcd,cs,hwi]
     exact⟨0,by rw [ht,hf,hc];rfl⟩)
   | (
     have hc:yR i c=false:=by simp only [yR,hi0,cs];rfl
     simp only [↓rA,rB,Nat.reduceEqDiff,reduceCtorEq,US,gb,gr,g0,g24,g25,Int.ofNat_lt,hi,hcd,cs]
     exact qa (by rw [hw,hb hc]))
  ·simp only [↓rA,rB,gb,gr,g24,g25,Int.ofNat_lt,Nat.lt_irrefl]
   rw [List.take_of_length_le (by simp)] at hf
   exact qa (by rw [hw,hf])
 ·simp only [↓rA,rB,Nat.reduceEqDiff,Tryz.results92]
  exact qa (by rw [qP,if_neg e0,if_neg e1,if_pos e2])
end Go.Proofs.YtohdpcjaoiebkaaGreatDoor
set_option linter.unusedSimpArgs false
set_option maxRecDepth 100000
set_option linter.defProp false
namespace Go.Proofs.YtohdpcjaoiebkaaGreatDoor
open Go.VL Go.Ar Go.Lo Go.Proofs.YtohdpcjaoiebkaaGreatDoor
def qoq:=(aI (aI Ty.c126 Ty.t3) (aI Ty.t4 (aI Ty.t69 Ty.t9)))
theorem qlc (l:List Str) (s:Str) (hl:l.length≤1000000):Ok Tryz.prog 63 [kr l,qm s] [] fun v bs rs=>(∃ k:Int,v=vint k∧(0≤k↔s ∈ l))∧bs=[]∧rs=[]:=by
 refine Ok.of_ex Ty.mixed Tryz.func63 rfl (by simp [Tryz.ntmps63]) (by kernel_rfl) fun F w0 I0=>?_
 simp only [↓rA,rB,reduceCtorEq,qoq,Tryz.results63]
 refine qB Ty.mixed (by kernel_rfl) l.length (fun i S=>(∀ x ∈ l.take i,s ≠ x)∧S.boxes=[]∧S.rows=[]∧S.σ 0=kr l∧S.σ 1=qm s∧S.σ 7=vint l.length∧S.σ 8=vint i) ⟨0,?_⟩ (fun i S hi ⟨hf,gb,gr,g0,g1,g7,g8⟩=>?_) (fun S ⟨hf,gb,gr,g0,g1,g7,g8⟩=>?_)
 ·simp only [rB,Nat.reduceEqDiff,reduceCtorEq,List.length_map]
  exact fun x hx=>by cases hx
 ·have hwi:=qk (i:=i) (N:=l.length) hi (by omega)
  by_cases e:s=l[i]
  ·simp only [↓rA,rB,Nat.reduceEqDiff,reduceCtorEq,qoq,gb,gr,g0,g1,g7,g8,Int.ofNat_lt,hi,List.length_map,qd _ _ _ hi,e]
   exact⟨_,[],[],Le.refl _,List.nil_sublist _,List.nil_sublist _,⟨i,rfl,by simp⟩,rfl,rfl⟩
  ·simp only [↓rA,rB,Nat.reduceEqDiff,reduceCtorEq,qoq,gb,gr,g0,g1,g7,g8,Int.ofNat_lt,hi,List.length_map,qd _ _ _ hi,e,hwi]
   refine⟨0,fun x hx=>?_⟩
   rw [List.take_succ_eq_append_getElem hi] at hx
   rcases List.mem_append.1 hx with hx | hx
   ·exact hf x hx
   ·rw [List.mem_singleton.1 hx];exact e
 ·simp only [↓rA,rB,gb,gr,g7,g8,Int.ofNat_lt,Nat.lt_irrefl]
  rw [List.take_of_length_le (Nat.le_refl _)] at hf
  exact⟨_,[],[],Le.refl _,List.nil_sublist _,List.nil_sublist _,⟨-1,rfl,by simp;exact fun h=>hf s h rfl⟩,rfl,rfl⟩
def qCr:=(aI (aI Ty.c126 (aI Ty.c63 Ty.t3)) (aI Ty.t4 (aI Ty.t69 Ty.t9)))
theorem kh (l:List Str) (s:Str) (hl:l.length≤1000000):zc Tryz.prog 33 [kr l,qm s] (qv (xP l s)):=by
 refine Ok.of_ex Ty.mixed Tryz.func33 rfl (by simp [Tryz.ntmps33]) (by kernel_rfl) fun F w0 I0=>?_
 simp only [↓rA,rB,Nat.reduceEqDiff,reduceCtorEq,qCr]
 refine qi [] [] (List.Perm.refl _) (qlc l s hl) ?_
 rintro v bs rs ⟨⟨k,rfl,hk⟩,rfl,rfl⟩
 simp only [↓rA,rB,Tryz.results33]
 refine qa (congrArg (fun b=>V.lit (.bool b)) ?_)
 rw [Bool.eq_iff_iff,decide_eq_true_eq,we]
 exact hk
def XP:=(aI (aI (aI Ty.c126 Ty.c148) (aI Ty.c149 Ty.t126)) (aI (aI Ty.t27 Ty.t3) (aI Ty.t36 (aI Ty.t4 Ty.t9))))
theorem KP (u:List kK):zc Tryz.prog 124 [qG u] (vint (xI u)):=by
 refine Ok.of_ex Ty.mixed Tryz.func124 rfl (by simp [Tryz.ntmps124]) (by kernel_rfl) fun F w0 I0=>?_
 by_cases e0:4 < u.length
 ·have e0':(4:Int) < u.length:=by omega
  simp only [↓rA,rB,reduceCtorEq,XP,Tryz.results124,List.length_map,e0']
  exact qa (by rw [xI,if_pos e0])
 have e0':¬ (4:Int) < u.length:=by omega
 have hu:xI u=vP none u:=by rw [xI,if_neg e0]
 simp only [↓rA,rB,reduceCtorEq,XP,Tryz.results124,List.length_map,e0']
 refine qB Ty.mixed (by kernel_rfl) u.length (fun i S=>vP (vU u i) (u.drop i)=xI u∧S.boxes=[]∧S.rows=[]∧S.σ 0=qG u∧S.σ 8=qG u∧S.σ 9=vint u.length∧S.σ 10=vint i) ⟨0,?_⟩ (fun i S hi ⟨hf,gb,gr,g0,g8,g9,g10⟩=>?_) (fun S ⟨hf,gb,gr,g0,g8,g9,g10⟩=>?_)
 ·simp only [rB,Nat.reduceEqDiff,reduceCtorEq]
  exact hu.symm
 ·have hwi:=qk (i:=i) (N:=u.length) hi (by omega)
  rw [List.drop_eq_getElem_cons hi,vP] at hf
  have hn:vU u (i+1)=some u[i].name:=by simp [vU,hi]
  simp only [↓rA,rB,Nat.reduceAdd,Nat.reduceEqDiff,XP,gb,gr,g8,g9,g10,Int.ofNat_lt,hi,List.length_map,qd _ _ _ hi]
  refine fun b4 h4=>?_;replace h4:=qn h4;try simp only [Nb] at h4
  simp only [↓rA,rB,Nat.reduceAdd,Nat.reduceEqDiff,XP,gb,qd _ _ _ hi]
  refine qg _ (qty _) ?_
  cases e1:wS u[i].name
  ·rw [if_pos e1] at hf
   simp only [↓rA,rB,gr]
   exact qa (by rw [← hf])
  rw [if_neg (by rw [e1];decide)] at hf
  by_cases e2:u[i].exp=0
  ·rw [if_pos e2] at hf
   simp only [↓rA,rB,Nat.reduceAdd,Nat.reduceEqDiff,XP,gr,e2]
   exact qa (by rw [← hf])
  rw [if_neg e2] at hf
  simp only [↓rA,rB,Nat.reduceAdd,Nat.reduceEqDiff,XP,gr,e2]
  refine qg _ (qe2 _ 8 (by omega)) ?_
  cases e3:Wv u[i].exp 8
  ·rw [if_neg (by rw [e3];decide)] at hf
   cases i with
   | zero =>
    simp only [↓rA,rB,Int.reduceLT,Int.reduceToNat,Nat.reduceAdd,Nat.reduceEqDiff,reduceCtorEq,gr,g0,g8,g9,g10]
    exact⟨1,by rw [hn];simpa [vU] using hf,rfl,rfl⟩
   | succ j =>
    have hj:j < u.length:=by omega
    have hp:vU u (j+1)=some u[j].name:=by simp [vU,hj]
    rw [hp] at hf
    have h0:(0:Int) < ((j+1:Nat):Int):=by omega
    have hs:((j+1:Nat):Int) - 1=(j:Int):=by omega
    have hws:=zl (n:=(j:Int)) (by omega) (by omega)
    cases e4:leS u[j+1].name u[j].name
    ·have e4':=e4
     unfold leS at e4'
     rw [if_neg (by simp only [Option.any_some,e4];decide)] at hf
     simp only [↓rA,rB,Nat.reduceAdd,Nat.reduceEqDiff,reduceCtorEq,XP,gr,g0,g8,g9,g10,hwi,h0,hs,hws,List.length_map,Int.ofNat_lt,hj,qd _ _ _ hj,e4']
     exact⟨1,by rw [hn];exact hf,rfl⟩
    ·have e4':=e4
     unfold leS at e4'
     rw [if_pos (by simp only [Option.any_some,e4])] at hf
     simp only [↓rA,rB,Nat.reduceAdd,Nat.reduceEqDiff,reduceCtorEq,XP,gr,g0,h0,hs,hws,List.length_map,Int.ofNat_lt,hj,qd _ _ _ hj,e4']
     exact qa (by rw [← hf])
  ·rw [if_pos e3] at hf
   simp only [↓rA,rB,Nat.reduceEqDiff,gr]
   exact qa (by rw [← hf])
 ·simp only [↓rA,rB,gb,gr,g9,g10,Int.ofNat_lt,Nat.lt_irrefl]
  rw [List.drop_eq_nil_of_le (Nat.le_refl _),vP] at hf
  exact qa (by rw [← hf])
def zU:=(aI (aI Ty.c126 (aI Ty.t27 Ty.t3)) (aI (aI Ty.t35 Ty.t4) (aI Ty.t5 Ty.t9)))
theorem qhv (v:Val):zc Tryz.prog 90 [.agg (qc5 v)] (vint (xu v)):=by
 obtain⟨k,n,s⟩:=v
 refine Ok.of_ex Ty.mixed Tryz.func90 rfl (by simp [Tryz.ntmps90]) (by kernel_rfl) fun F w0 I0=>?_
 simp only [↓rA,rB,qf,Nat.reduceLT]
 refine fun b1 h1=>?_;replace h1:=qn h1;try simp only [Nb] at h1
 have fi:∀ {a b:Int},a=b→V.lit (.int .i64 a)=vint b:=fun h=>by rw [h]
 rcases(by omega:k < 0∨5 < k∨k=0∨k=1∨k=2∨k=3∨k=4∨k=5) with e | e | rfl | rfl | rfl | rfl | rfl | rfl
 ·have n2:¬ k=2:=by omega
  have n3:¬ k=3:=by omega
  have n4:¬ k=4:=by omega
  have n5:¬ k=5:=by omega
  simp only [↓rA,rB,Nat.reduceAdd,Nat.reduceEqDiff,zU,Tryz.results90,e,n2,n3,n4,n5]
  exact qa (fi (by simp [xu,e]))
 ·have e':¬ k < 0:=by omega
  have n2:¬ k=2:=by omega
  have n3:¬ k=3:=by omega
  have n4:¬ k=4:=by omega
  have n5:¬ k=5:=by omega
  simp only [↓rA,rB,Nat.reduceAdd,Nat.reduceEqDiff,zU,Tryz.results90,e,e',n2,n3,n4,n5]
  exact qa (fi (by simp [xu,e,e']))
 ·by_cases e1:s=es0
  ·subst e1
   by_cases e2:n=0
   ·subst e2
    simp only [↓rA,rB,Int.reduceEq,Int.reduceLT,Nat.reduceAdd,Nat.reduceEqDiff,zU,Tryz.results90]
    exact qa (fi (by simp [xu]))
   ·simp only [↓rA,rB,Int.reduceEq,Int.reduceLT,Nat.reduceAdd,Nat.reduceEqDiff,zU,Tryz.results90,e2]
    exact qa (fi (by simp [xu,e2]))
  ·simp only [↓rA,rB,Int.reduceEq,Int.reduceLT,Nat.reduceAdd,Nat.reduceEqDiff,zU,Tryz.results90,e1]
   exact qa (fi (by simp [xu,e1]))
 ·by_cases e1:s=es0
  ·subst e1
   by_cases e2:n=0
   ·subst e2
    simp only [↓rA,rB,Int.reduceEq,Int.reduceLT,Nat.reduceAdd,Nat.reduceEqDiff,zU,Tryz.results90]
    exact qa (fi (by simp [xu]))
   ·by_cases e3:n=1
    ·subst e3
     simp only [↓rA,rB,Int.reduceEq,Int.reduceLT,Nat.reduceAdd,Nat.reduceEqDiff,zU,Tryz.results90]
     exact qa (fi (by simp [xu]))
    ·simp only [↓rA,rB,Int.reduceEq,Int.reduceLT,Nat.reduceAdd,Nat.reduceEqDiff,zU,Tryz.results90,e2,e3]
     exact qa (fi (by simp [xu,e2,e3]))
  ·simp only [↓rA,rB,Int.reduceEq,Int.reduceLT,Nat.reduceAdd,Nat.reduceEqDiff,zU,Tryz.results90,e1]
   exact qa (fi (by simp [xu,e1]))
 ·by_cases e1:s=es0
  ·subst e1
   by_cases e2:n < -1152921504606846976
   ·simp only [↓rA,rB,Int.reduceEq,Int.reduceLT,Nat.reduceAdd,Nat.reduceEqDiff,zU,Tryz.results90,e2]
    exact qa (fi (by simp [xu,e2]))
   by_cases e3:1152921504606846976 < n
   ·simp only [↓rA,rB,Int.reduceEq,Int.reduceLT,Nat.reduceAdd,Nat.reduceEqDiff,zU,Tryz.results90,e2,e3]
    exact qa (fi (by simp [xu,e2,e3]))
   simp only [↓rA,rB,Int.reduceEq,Int.reduceLT,Nat.reduceAdd,Nat.reduceEqDiff,zU,Tryz.results90,e2,e3]
   exact qa (fi (by simp [xu,e2,e3]))
  ·simp only [↓rA,rB,Int.reduceEq,Int.reduceLT,Nat.reduceAdd,Nat.reduceEqDiff,zU,Tryz.results90,e1]
   exact qa (fi (by simp [xu,e1]))
 ·by_cases e1:s=es0
  ·subst e1
   by_cases e2:n < -1152921504606846976
   ·simp only [↓rA,rB,Int.reduceEq,Int.reduceLT,Nat.reduceAdd,Nat.reduceEqDiff,zU,Tryz.results90,e2]
    exact qa (fi (by simp [xu,e2]))
   by_cases e3:1152921504606846976 < n
   ·simp only [↓rA,rB,Int.reduceEq,Int.reduceLT,Nat.reduceAdd,Nat.reduceEqDiff,zU,Tryz.results90,e2,e3]
    exact qa (fi (by simp [xu,e2,e3]))
   simp only [↓rA,rB,Int.reduceEq,Int.reduceLT,Nat.reduceAdd,Nat.reduceEqDiff,zU,Tryz.results90,e2,e3]
   exact qa (fi (by simp [xu,e2,e3]))
  ·simp only [↓rA,rB,Int.reduceEq,Int.reduceLT,Nat.reduceAdd,Nat.reduceEqDiff,zU,Tryz.results90,e1]
   exact qa (fi (by simp [xu,e1]))
 ·by_cases e0:n=0
  ·subst e0
   by_cases e1:64 < s.size
   ·have e1':(64:Int) < s.size:=by omega
    simp only [↓rA,rB,Int.reduceEq,Int.reduceLT,Nat.reduceAdd,Nat.reduceEqDiff,zU,Tryz.results90,e1']
    exact qa (fi (by simp [xu,e1]))
   have e1':¬ (64:Int) < s.size:=by omega
   have hv:xu ⟨4,0,s⟩=if s.data.toList.all (zM 32)=true then 0 else 3:=by simp [xu,e1]
   simp only [↓rA,rB,Int.reduceEq,Int.reduceLT,Nat.reduceAdd,Nat.reduceEqDiff,zU,Tryz.results90,e1']
   refine qB Ty.mixed (by kernel_rfl) s.size (fun i S=>(s.data.toList.take i).all (zM 32)=true∧S.boxes=[(b1,.c [vint 4,vint 0,qm s])]∧S.rows=[]∧S.σ 1=ptr b1∧S.σ 6=.lit (.int .u8 32)∧S.σ 88=vint s.size∧S.σ 89=vint i) ⟨0,?_⟩ (fun i S hi ⟨hf,gb,gr,g1,g6,g88,g89⟩=>?_) (fun S ⟨hf,gb,gr,g1,g6,g88,g89⟩=>?_)
   ·simp only [rB,Nat.reduceEqDiff]
    try exact rfl
   ·have hl:i < s.data.toList.length:=by simpa using hi
    have ht:=jc (p:=zM 32) hl
    have hb:=jd (p:=zM 32) hl
    rw [← jX s i hi] at ht hb
    generalize hcd:s.data.toList.getD i 0=c at ht hb
    have hwi:=qk (i:=i) (N:=s.size) hi (by omega)
    have cs:(c.toNat:Int) < 32∨(¬ (c.toNat:Int) < 32∧(126:Int) < c.toNat)∨(¬ (c.toNat:Int) < 32∧¬ (126:Int) < c.toNat∧(c.toNat:Int)=34)∨(¬ (c.toNat:Int) < 32∧¬ (126:Int) < c.toNat∧¬ (c.toNat:Int)=34∧(c.toNat:Int)=92)∨(¬ (c.toNat:Int) < 32∧¬ (126:Int) < c.toNat∧¬ (c.toNat:Int)=34∧¬ (c.toNat:Int)=92):=by omega
    rcases cs with cs | cs | cs | cs | cs
    ·have hc:zM 32 c=false:=by simp [zM,cs]
     simp only [↓rA,rB,Nat.reduceAdd,Nat.reduceEqDiff,zU,gb,gr,g1,g6,g88,g89,Int.ofNat_lt,hi,hcd,cs]
     exact qa (fi (by rw [hv,hb hc];rfl))
    ·have hc:zM 32 c=false:=by simp [zM,cs]
     simp only [↓rA,rB,Nat.reduceAdd,Nat.reduceEqDiff,zU,gb,gr,g1,g6,g88,g89,Int.ofNat_lt,hi,hcd,cs]
     exact qa (fi (by rw [hv,hb hc];rfl))
    ·have hc:zM 32 c=false:=by simp [zM,cs]
     simp only [↓rA,rB,Int.reduceLT,Nat.reduceAdd,Nat.reduceEqDiff,zU,gb,gr,g1,g6,g88,g89,Int.ofNat_lt,hi,hcd,cs]
     exact qa (fi (by rw [hv,hb hc];rfl))
    ·have hc:zM 32 c=false:=by simp [zM,cs]
     simp only [↓rA,rB,Int.reduceEq,Int.reduceLT,Nat.reduceAdd,Nat.reduceEqDiff,zU,gb,gr,g1,g6,g88,g89,Int.ofNat_lt,hi,hcd,cs]
     exact qa (fi (by rw [hv,hb hc];rfl))
    ·have hc:zM 32 c=true:=by simp [zM,cs]
     simp only [↓rA,rB,Nat.reduceAdd,Nat.reduceEqDiff,zU,gb,gr,g1,g6,g88,g89,Int.ofNat_lt,hi,hcd,cs,hwi]
     exact⟨0,by rw [ht,hf,hc];rfl,rfl⟩
   ·simp only [↓rA,rB,gb,gr,g88,g89,Int.ofNat_lt,Nat.lt_irrefl]
    rw [List.take_of_length_le (by simp)] at hf
    exact qa (fi (by rw [hv,hf];rfl))
  ·simp only [↓rA,rB,Int.reduceEq,Int.reduceLT,Nat.reduceAdd,Nat.reduceEqDiff,zU,Tryz.results90,e0]
   exact qa (fi (by simp [xu,e0]))
 ·by_cases e0:n=0
  ·subst e0
   by_cases e1:32 < s.size
   ·have e1':(32:Int) < s.size:=by omega
    simp only [↓rA,rB,Int.reduceEq,Int.reduceLT,Nat.reduceAdd,Nat.reduceEqDiff,zU,Tryz.results90,e1']
    exact qa (fi (by simp [xu,e1]))
   have e1':¬ (32:Int) < s.size:=by omega
   by_cases e2:s=es0
   ·subst e2
    simp only [↓rA,rB,Int.reduceEq,Int.reduceLT,Nat.reduceAdd,Nat.reduceEqDiff,zU,Tryz.results90,e1']
    exact qa (fi (by simp [xu];decide))
   have hv:xu ⟨5,0,s⟩=if s.data.toList.all (zM 33)=true then 0 else 3:=by simp [xu,e1,e2]
   simp only [↓rA,rB,Int.reduceEq,Int.reduceLT,Nat.reduceAdd,Nat.reduceEqDiff,zU,Tryz.results90,e1',e2]
   refine qB Ty.mixed (by kernel_rfl) s.size (fun i S=>(s.data.toList.take i).all (zM 33)=true∧S.boxes=[(b1,.c [vint 5,vint 0,qm s])]∧S.rows=[]∧S.σ 1=ptr b1∧S.σ 6=.lit (.int .u8 33)∧S.σ 88=vint s.size∧S.σ 89=vint i) ⟨0,?_⟩ (fun i S hi ⟨hf,gb,gr,g1,g6,g88,g89⟩=>?_) (fun S ⟨hf,gb,gr,g1,g6,g88,g89⟩=>?_)
   ·simp only [rB,Nat.reduceEqDiff]
    try exact rfl
   ·have hl:i < s.data.toList.length:=by simpa using hi
    have ht:=jc (p:=zM 33) hl
    have hb:=jd (p:=zM 33) hl
    rw [← jX s i hi] at ht hb
    generalize hcd:s.data.toList.getD i 0=c at ht hb
    have hwi:=qk (i:=i) (N:=s.size) hi (by omega)
    have cs:(c.toNat:Int) < 33∨(¬ (c.toNat:Int) < 33∧(126:Int) < c.toNat)∨(¬ (c.toNat:Int) < 33∧¬ (126:Int) < c.toNat∧(c.toNat:Int)=34)∨(¬ (c.toNat:Int) < 33∧¬ (126:Int) < c.toNat∧¬ (c.toNat:Int)=34∧(c.toNat:Int)=92)∨(¬ (c.toNat:Int) < 33∧¬ (126:Int) < c.toNat∧¬ (c.toNat:Int)=34∧¬ (c.toNat:Int)=92):=by omega
    rcases cs with cs | cs | cs | cs | cs
    ·have hc:zM 33 c=false:=by simp [zM,cs]
     simp only [↓rA,rB,Nat.reduceAdd,Nat.reduceEqDiff,zU,gb,gr,g1,g6,g88,g89,Int.ofNat_lt,hi,hcd,cs]
     exact qa (fi (by rw [hv,hb hc];rfl))
    ·have hc:zM 33 c=false:=by simp [zM,cs]
     simp only [↓rA,rB,Nat.reduceAdd,Nat.reduceEqDiff,zU,gb,gr,g1,g6,g88,g89,Int.ofNat_lt,hi,hcd,cs]
     exact qa (fi (by rw [hv,hb hc];rfl))
    ·have hc:zM 33 c=false:=by simp [zM,cs]
     simp only [↓rA,rB,Int.reduceLT,Nat.reduceAdd,Nat.reduceEqDiff,zU,gb,gr,g1,g6,g88,g89,Int.ofNat_lt,hi,hcd,cs]
     exact qa (fi (by rw [hv,hb hc];rfl))
    ·have hc:zM 33 c=false:=by simp [zM,cs]
     simp only [↓rA,rB,Int.reduceEq,Int.reduceLT,Nat.reduceAdd,Nat.reduceEqDiff,zU,gb,gr,g1,g6,g88,g89,Int.ofNat_lt,hi,hcd,cs]
     exact qa (fi (by rw [hv,hb hc];rfl))
    ·have hc:zM 33 c=true:=by simp [zM,cs]
     simp only [↓rA,rB,Nat.reduceAdd,Nat.reduceEqDiff,zU,gb,gr,g1,g6,g88,g89,Int.ofNat_lt,hi,hcd,cs,hwi]
     exact⟨0,by rw [ht,hf,hc];rfl,rfl⟩
   ·simp only [↓rA,rB,gb,gr,g88,g89,Int.ofNat_lt,Nat.lt_irrefl]
    rw [List.take_of_length_le (by simp)] at hf
    exact qa (fi (by rw [hv,hf];rfl))
  ·simp only [↓rA,rB,Int.reduceEq,Int.reduceLT,Nat.reduceAdd,Nat.reduceEqDiff,zU,Tryz.results90,e0]
   exact qa (fi (by simp [xu,e0]))
def qCq:=(aI (aI Ty.c126 (aI Ty.c92 Ty.t126)) (aI Ty.t3 (aI Ty.t4 Ty.t9)))
theorem qff (f:kK):zc Tryz.prog 126 [.agg (qmt f)] (qv (!qP f.name)):=by
 refine Ok.of_ex Ty.mixed Tryz.func126 rfl (by simp [Tryz.ntmps126]) (by kernel_rfl) fun F w0 I0=>?_
 simp only [↓rA,rB,qf,Nat.reduceLT]
 refine fun b1 h1=>?_;replace h1:=qn h1;try simp only [Nb] at h1
 simp only [↓rA,rB,Nat.reduceAdd,Nat.reduceEqDiff,qCq]
 refine qg _ (yd f.name) ?_
 simp only [↓rA,rB,Tryz.results126]
 exact qa rfl
abbrev fnT:V:=.lit (.func (.func 126) #[] #[])
def qxt:=(aI (aI Ty.c126 (aI Ty.t126 Ty.t170)) (aI (aI Ty.t3 Ty.t36) (aI Ty.t4 Ty.t9)))
theorem qld (u:List kK) (hl:u.length≤1000000):Ok Tryz.prog 150 [qG u,fnT] [] fun v bs rs=>(∃ k:Int,v=vint k∧decide (0≤k)=!ZW u)∧bs=[]∧rs=[]:=by
 refine Ok.of_ex Ty.mixed Tryz.func150 rfl (by simp [Tryz.ntmps150]) (by kernel_rfl) fun F w0 I0=>?_
 simp only [↓rA,rB,reduceCtorEq,qxt,Tryz.results150]
 refine qB Ty.mixed (by kernel_rfl) u.length (fun i S=>(u.take i).all (fun f=>qP f.name)=true∧S.boxes=[]∧S.rows=[]∧S.σ 0=qG u∧S.σ 1=fnT∧S.σ 7=vint u.length∧S.σ 8=vint i) ⟨0,?_⟩ (fun i S hi ⟨hf,gb,gr,g0,g1,g7,g8⟩=>?_) (fun S ⟨hf,gb,gr,g0,g1,g7,g8⟩=>?_)
 ·simp only [rB,Nat.reduceEqDiff,reduceCtorEq,List.length_map]
 ·have hwi:=qk (i:=i) (N:=u.length) hi (by omega)
  have ht:=jc (p:=fun f:kK=>qP f.name) hi
  have hb:=jd (p:=fun f:kK=>qP f.name) hi
  simp only [↓rA,rB,Nat.reduceAdd,Nat.reduceEqDiff,reduceCtorEq,qxt,gb,g0,g1,g7,g8,Int.ofNat_lt,hi,List.length_map,qd _ _ _ hi]
  refine qg _ (qff u[i]) ?_
  cases e:qP u[i].name
  ·simp only [↓rA,rB,Nat.reduceEqDiff,gr]
   exact⟨_,[],[],Le.refl _,List.nil_sublist _,List.nil_sublist _,⟨i,rfl,by rw [ZW,hb e];simp⟩,rfl,rfl⟩
  ·simp only [↓rA,rB,Nat.reduceEqDiff,reduceCtorEq,gr,g0,g1,g7,g8,hwi]
   exact⟨0,by rw [ht,hf,e];rfl⟩
 ·simp only [↓rA,rB,gb,gr,g7,g8,Int.ofNat_lt,Nat.lt_irrefl]
  rw [List.take_of_length_le (Nat.le_refl _)] at hf
  exact⟨_,[],[],Le.refl _,List.nil_sublist _,List.nil_sublist _,⟨-1,rfl,by rw [ZW,hf];rfl⟩,rfl,rfl⟩
def qCp:=(aI (aI (aI Ty.c126 Ty.c150) (aI Ty.t126 Ty.t170)) (aI (aI Ty.t3 Ty.t36) (aI Ty.t4 Ty.t9)))
theorem vI (u:List kK) (hl:u.length≤1000000):zc Tryz.prog 125 [qG u,fnT] (qv (!ZW u)):=by
 refine Ok.of_ex Ty.mixed Tryz.func125 rfl (by simp [Tryz.ntmps125]) (by kernel_rfl) fun F w0 I0=>?_
 simp only [↓rA,rB,Nat.reduceEqDiff,reduceCtorEq,qCp]
 refine qi [] [] (List.Perm.refl _) (qld u hl) ?_
 rintro v bs rs ⟨⟨k,rfl,hk⟩,rfl,rfl⟩
 simp only [↓rA,rB,Tryz.results125]
 exact qa (by rw [hk])
def yF:=(aI (aI (aI Ty.c123 (aI Ty.c124 Ty.c125)) (aI Ty.c126 (aI Ty.c92 Ty.t126))) (aI (aI Ty.t170 (aI Ty.t27 Ty.t3)) (aI (aI Ty.t36 Ty.t4) (aI Ty.t43 Ty.t9))))
theorem qn6 (k:Int) (u:List kK) (of:Str):zc Tryz.prog 91 [vTy k u of] (vint (zT k u of)):=by
 have fi:∀ {a b:Int},a=b→V.lit (.int .i64 a)=vint b:=fun h=>by rw [h]
 refine Ok.of_ex Ty.mixed Tryz.func91 rfl (by simp [Tryz.ntmps91]) (by kernel_rfl) fun F w0 I0=>?_
 simp only [↓rA,rB,qf,Nat.reduceLT]
 refine fun b1 h1=>?_;replace h1:=qn h1;try simp only [Nb] at h1
 by_cases e0:k < 1
 ·simp only [↓rA,rB,Nat.reduceAdd,Nat.reduceEqDiff,yF,Tryz.results91,e0]
  exact qa (fi (by simp [zT,e0]))
 by_cases e1:5 < k
 ·simp only [↓rA,rB,Nat.reduceAdd,Nat.reduceEqDiff,yF,Tryz.results91,e0,e1]
  exact qa (fi (by simp [zT,e0,e1]))
 by_cases e2:0 < u.length
 ·have e2':(0:Int) < u.length:=by omega
  simp only [↓rA,rB,Nat.reduceAdd,Nat.reduceEqDiff,yF,e0,e1,e2',List.length_map]
  refine qg _ (qbv k u of) ?_
  by_cases e3:k=2∨k=3
  ·have ek:¬ k=5:=by omega
   by_cases e4:of=es0
   ·subst e4
    simp only [↓rA,rB,Nat.reduceAdd,Nat.reduceEqDiff,yF,e3,ek]
    refine qg _ (KP u) ?_
    by_cases e5:xI u=0
    ·simp only [↓rA,rB,Nat.reduceAdd,Nat.reduceEqDiff,yF,e5]
     refine qg _ (vI u (by have:=kM e5;omega)) ?_
     cases e6:ZW u
     ·simp only [↓rA,rB,Nat.reduceEqDiff,Tryz.results91]
      exact qa (fi (by simp [zT,e0,e1,e3,ek,e5,e6]))
     ·simp only [↓rA,rB,Nat.reduceEqDiff,Tryz.results91]
      exact qa (fi (by simp [zT,e0,e1,e3,ek,e5,e6]))
    ·simp only [↓rA,rB,Nat.reduceEqDiff,Tryz.results91,e5]
     exact qa (fi (by simp [zT,e0,e1,e3,ek,e5]))
   ·simp only [↓rA,rB,Nat.reduceAdd,Nat.reduceEqDiff,yF,Tryz.results91,e3,ek,e4]
    exact qa (fi (by simp [zT,e0,e1,e3,ek,e4]))
  ·simp only [↓rA,rB,Nat.reduceEqDiff,Tryz.results91,e3]
   exact qa (fi (by simp [zT,e0,e1,e2,e3]))
 ·have e2':¬ (0:Int) < u.length:=by omega
  by_cases e3:k=5
  ·subst e3
   by_cases e4:of=es0
   ·subst e4
    simp only [↓rA,rB,Int.reduceLT,Nat.reduceAdd,Nat.reduceEqDiff,reduceCtorEq,yF,Tryz.results91,e2',List.length_map]
    exact qa (fi (by simp [zT,e2]))
   ·simp only [↓rA,rB,Int.reduceLT,Nat.reduceAdd,Nat.reduceEqDiff,yF,e2',e4,List.length_map]
    refine qg _ (yd of) ?_
    cases e5:qP of
    ·simp only [↓rA,rB,Nat.reduceEqDiff,Tryz.results91]
     exact qa (fi (by simp [zT,e2,e4,e5]))
    ·simp only [↓rA,rB,Nat.reduceAdd,Nat.reduceEqDiff,yF]
     refine qg _ (KP u) ?_
     by_cases e6:xI u=0
     ·simp only [↓rA,rB,Nat.reduceAdd,Nat.reduceEqDiff,yF,e6]
      refine qg _ (vI u (by have:=kM e6;omega)) ?_
      cases e7:ZW u
      ·simp only [↓rA,rB,Nat.reduceEqDiff,Tryz.results91]
       exact qa (fi (by simp [zT,e2,e4,e5,e6,e7]))
      ·simp only [↓rA,rB,Nat.reduceEqDiff,Tryz.results91]
       exact qa (fi (by simp [zT,e2,e4,e5,e6,e7]))
     ·simp only [↓rA,rB,Nat.reduceEqDiff,Tryz.results91,e6]
      exact qa (fi (by simp [zT,e2,e4,e5,e6]))
  ·by_cases e4:of=es0
   ·subst e4
    simp only [↓rA,rB,Nat.reduceAdd,Nat.reduceEqDiff,yF,e0,e1,e2',e3,List.length_map]
    refine qg _ (KP u) ?_
    by_cases e5:xI u=0
    ·simp only [↓rA,rB,Nat.reduceAdd,Nat.reduceEqDiff,yF,e5]
     refine qg _ (vI u (by have:=kM e5;omega)) ?_
     cases e6:ZW u
     ·simp only [↓rA,rB,Nat.reduceEqDiff,Tryz.results91]
      exact qa (fi (by simp [zT,e0,e1,e2,e3,e5,e6]))
     ·simp only [↓rA,rB,Nat.reduceEqDiff,Tryz.results91]
      exact qa (fi (by simp [zT,e0,e1,e2,e3,e5,e6]))
    ·simp only [↓rA,rB,Nat.reduceEqDiff,Tryz.results91,e5]
     exact qa (fi (by simp [zT,e0,e1,e2,e3,e5]))
   ·simp only [↓rA,rB,Nat.reduceAdd,Nat.reduceEqDiff,yF,Tryz.results91,e0,e1,e2',e3,e4,List.length_map]
    exact qa (fi (by simp [zT,e0,e1,e2,e3,e4]))
end Go.Proofs.YtohdpcjaoiebkaaGreatDoor
set_option linter.unusedSimpArgs false
set_option maxRecDepth 100000
set_option linter.defProp false
namespace Go.Proofs.YtohdpcjaoiebkaaGreatDoor
open Go.VL Go.Ar Go.Lo Go.Proofs.YtohdpcjaoiebkaaGreatDoor
def qop:=(aI (aI Ty.t126 Ty.t3) (aI Ty.t36 (aI Ty.t4 Ty.t9)))
theorem Vk (u v:List kK) (hu:u.length≤big):zc Tryz.prog 101 [qG u,qG v] (qv (decide (u=v))):=by
 have fb:∀ {a b:Bool},a=b→V.lit (.bool a)=qv b:=fun h=>by rw [h]
 unfold big at hu
 refine Ok.of_ex Ty.mixed Tryz.func101 rfl (by simp [Tryz.ntmps101]) (by kernel_rfl) fun F w0 I0=>?_
 by_cases hl:¬ u.length=v.length
 ·have hl':¬ (u.length:Int)=v.length:=by omega
  simp only [↓rA,rB,Nat.reduceEqDiff,reduceCtorEq,qop,Tryz.results101,List.length_map,hl']
  exact qa (fb (decide_eq_false fun e=>hl (by rw [e])).symm)
 have hl':(u.length:Int)=v.length:=by omega
 have hl:u.length=v.length:=by omega
 simp only [↓rA,rB,Nat.reduceEqDiff,reduceCtorEq,qop,Tryz.results101,List.length_map,hl']
 refine qB Ty.mixed (by kernel_rfl) v.length (fun i S=>u.take i=v.take i∧S.boxes=[]∧S.rows=[]∧S.σ 0=qG u∧S.σ 1=qG v∧S.σ 12=vint v.length∧S.σ 13=vint i) ⟨0,?_⟩ (fun i S hi ⟨hf,gb,gr,g0,g1,g7,g8⟩=>?_) (fun S ⟨hf,gb,gr,g0,g1,g7,g8⟩=>?_)
 ·simp only [rB,Nat.reduceEqDiff,reduceCtorEq]
  try exact rfl
 ·have hwi:=qk (i:=i) (N:=v.length) hi (by omega)
  have hiu:i < u.length:=by omega
  simp only [↓rA,rB,Nat.reduceAdd,Nat.reduceEqDiff,reduceCtorEq,qop,g0,g1,g7,g8,Int.ofNat_lt,hi,hiu,List.length_map,qd _ _ _ hi,qd _ _ _ hiu]
  refine qe (fun hc=>?_) (fun hc=>?_)
  ·simp only [↓rA,rB,gb,gr]
   refine qa (fb (decide_eq_false fun e=>?_).symm)
   subst e
   simp at hc
  ·simp only [↓rA,rB,Nat.reduceEqDiff,reduceCtorEq,gb,gr,g0,g1,g7,g8,hwi]
   refine⟨0,?_⟩
   rw [List.take_succ_eq_append_getElem hi,List.take_succ_eq_append_getElem hiu,hf]
   have:u[i]=v[i]:=by
    rw [qiu]
    simpa using hc
   rw [this]
 ·simp only [↓rA,rB,gb,gr,g7,g8,Int.ofNat_lt,Nat.lt_irrefl]
  rw [List.take_of_length_le (Nat.le_refl _),List.take_of_length_le (by omega)] at hf
  exact qa (fb (decide_eq_true hf).symm)
def qoo:=(aI (aI (aI Ty.c47 Ty.t126) (aI Ty.t29 Ty.t3)) (aI (aI Ty.t35 Ty.t36) (aI Ty.t38 (aI Ty.t40 Ty.t9))))
theorem quh:∀ x:E,kI x→zc Tryz.prog 47 [vE x] (vint (IntKind.i64.wrap (zj x))):=by
 intro x
 induction x using E.ind with
 | h hd l ih =>
  intro hf
  have hl:=hf.len
  have ha:=hf.args
  simp only [E.args,big] at hl ha
  rw [vE,zq]
  refine Ok.of_ex Ty.mixed Tryz.func47 rfl (by simp [Tryz.ntmps47]) (by kernel_rfl) fun F w0 I0=>?_
  simp only [↓rA,rB,qf,Nat.reduceLT]
  refine fun b1 h1=>?_;replace h1:=qn h1;try simp only [Nb] at h1
  simp only [↓rA,rB,Nat.reduceEqDiff,qoo,Tryz.results47]
  refine qB Ty.mixed (by kernel_rfl) l.length (fun i S=>S.boxes=[(b1,.c (cH hd (zD l)))]∧S.rows=[]∧S.σ 1=ptr b1∧S.σ 2=vint (IntKind.i64.wrap (1+sizeEs (l.take i)))∧S.σ 6=zD l∧S.σ 7=vint l.length∧S.σ 8=vint i) ⟨0,?_⟩ (fun i S hi ⟨gb,gr,g1,g2,g6,g7,g8⟩=>?_) (fun S ⟨gb,gr,g1,g2,g6,g7,g8⟩=>?_)
  ·simp only [rB,Nat.reduceEqDiff,List.length_map]
   exact congrArg (fun n=>V.lit (.int .i64 n)) (by decide)
  ·have hwi:=qk (i:=i) (N:=l.length) hi (by omega)
   have hx:=List.getElem_mem hi
   simp only [↓rA,rB,Nat.reduceAdd,Nat.reduceEqDiff,qoo,gb,gr,g6,g7,g8,Int.ofNat_lt,hi,List.length_map,qd _ _ _ hi,qx]
   refine fun b4 h4=>?_;replace h4:=qn h4;try simp only [Nb] at h4
   simp only [↓rA,rB,Nat.reduceAdd,Nat.reduceEqDiff,qoo,gb,g2,qd _ _ _ hi]
   have hc:=ih l[i] hx (ha _ hx)
   rw [vE,qx] at hc
   refine qg _ hc ?_
   simp only [↓rA,rB,Nat.reduceEqDiff,gr,g1,g6,g7,g8,hwi]
   refine⟨1,rfl,?_⟩
   rw [qhr,List.take_succ_eq_append_getElem hi,z8]
   exact congrArg (fun n=>V.lit (.int .i64 (IntKind.i64.wrap n))) (by simp only [sizeEs];omega)
  ·simp only [↓rA,rB,Nat.reduceEqDiff,gb,gr,g2,g7,g8,Int.ofNat_lt,Nat.lt_irrefl]
   refine qa ?_
   rw [qR,List.take_of_length_le (Nat.le_refl _)]
   exact congrArg (fun n=>V.lit (.int .i64 (IntKind.i64.wrap n))) (by omega)
def qon:=(aI (aI (aI Ty.c48 Ty.t126) (aI Ty.t29 Ty.t3)) (aI (aI Ty.t35 Ty.t36) (aI Ty.t38 (aI Ty.t40 Ty.t9))))
theorem qr6:∀ x:E,kI x→qZ x≤big→zc Tryz.prog 48 [vE x] (vint (qZ x)):=by
 intro x
 induction x using E.ind with
 | h hd l ih =>
  intro hf hb
  have hl:=hf.len
  have ha:=hf.args
  simp only [E.args,big] at hl ha
  rw [wL] at hb
  unfold big at hb
  rw [vE,zq]
  refine Ok.of_ex Ty.mixed Tryz.func48 rfl (by simp [Tryz.ntmps48]) (by kernel_rfl) fun F w0 I0=>?_
  simp only [↓rA,rB,qf,Nat.reduceLT]
  refine fun b1 h1=>?_;replace h1:=qn h1;try simp only [Nb] at h1
  simp only [↓rA,rB,Nat.reduceEqDiff,qon,Tryz.results48]
  refine qB Ty.mixed (by kernel_rfl) l.length (fun i S=>S.boxes=[(b1,.c (cH hd (zD l)))]∧S.rows=[]∧S.σ 1=ptr b1∧S.σ 2=vint (depthEs (l.take i))∧S.σ 6=zD l∧S.σ 7=vint l.length∧S.σ 8=vint i) ⟨0,?_⟩ (fun i S hi ⟨gb,gr,g1,g2,g6,g7,g8⟩=>?_) (fun S ⟨gb,gr,g1,g2,g6,g7,g8⟩=>?_)
  ·simp only [rB,Nat.reduceEqDiff,List.length_map]
   exact rfl
  ·have hwi:=qk (i:=i) (N:=l.length) hi (by omega)
   have hx:=List.getElem_mem hi
   simp only [↓rA,rB,Nat.reduceAdd,Nat.reduceEqDiff,qon,gb,gr,g6,g7,g8,Int.ofNat_lt,hi,List.length_map,qd _ _ _ hi,qx]
   refine fun b4 h4=>?_;replace h4:=qn h4;try simp only [Nb] at h4
   simp only [↓rA,rB,Nat.reduceAdd,Nat.reduceEqDiff,qon,gb,g2,qd _ _ _ hi]
   have hd:=w8 hx
   have hc:=ih l[i] hx (ha _ hx) (by unfold big;omega)
   rw [vE,qx] at hc
   refine qg _ hc ?_
   simp only [↓rA,rB,Nat.reduceEqDiff,gr,g1,g6,g7,g8,hwi]
   refine⟨1,rfl,?_⟩
   rw [List.take_succ_eq_append_getElem hi,jZ]
   exact congrArg (fun n=>V.lit (.int .i64 n)) (by simp only [depthEs];split <;> omega)
  ·simp only [↓rA,rB,Nat.reduceEqDiff,gb,gr,g2,g7,g8,Int.ofNat_lt,Nat.lt_irrefl]
   refine qa ?_
   rw [wL,List.take_of_length_le (Nat.le_refl _),zl (by omega) (by omega)]
   exact rfl
def Zk:=(aI (aI (aI Ty.c101 Ty.t126) (aI Ty.t29 (aI Ty.t3 Ty.t35))) (aI (aI Ty.t36 Ty.t38) (aI Ty.t4 (aI Ty.t40 Ty.t9))))
theorem qi4 (a b:Hd) (x y:List E) (hu:a.unit.length≤big):zc Tryz.prog 93 [.agg (cH a (zD x)),.agg (cH b (zD y))] (qv (decide (a=b))):=by
 have fb:∀ {a b:Bool},a=b→V.lit (.bool a)=qv b:=fun h=>by rw [h]
 refine Ok.of_ex Ty.mixed Tryz.func93 rfl (by simp [Tryz.ntmps93]) (by kernel_rfl) fun F w0 I0=>?_
 simp only [↓rA,rB,qf,Nat.reduceLT]
 refine fun b1 h1=>?_;replace h1:=qn h1;try simp only [Nb] at h1
 simp only [↓rA,rB,qf,Nat.reduceEqDiff,Nat.reduceLT]
 refine fun b2 h2=>?_;replace h2:=qn h2;try simp only [Nb] at h2
 by_cases e0:a.kind=b.kind
 case neg =>
  simp only [↓rA,rB,Nat.reduceAdd,Nat.reduceEqDiff,Zk,Tryz.results93,h2,e0]
  exact qa (fb (decide_eq_false fun e=>e0 (by rw [e])).symm)
 by_cases e1:a.op=b.op
 case neg =>
  simp only [↓rA,rB,Nat.reduceAdd,Nat.reduceEqDiff,Zk,Tryz.results93,h2,e0,e1]
  exact qa (fb (decide_eq_false fun e=>e1 (by rw [e])).symm)
 by_cases e2:a.name=b.name
 case neg =>
  simp only [↓rA,rB,Nat.reduceAdd,Nat.reduceEqDiff,Zk,Tryz.results93,h2,e0,e1,e2]
  exact qa (fb (decide_eq_false fun e=>e2 (by rw [e])).symm)
 by_cases e3:a.table=b.table
 case neg =>
  simp only [↓rA,rB,Nat.reduceAdd,Nat.reduceEqDiff,Zk,Tryz.results93,h2,e0,e1,e2,e3]
  exact qa (fb (decide_eq_false fun e=>e3 (by rw [e])).symm)
 have v4:=qhu a.val b.val
 have v7:=qnv a b
 by_cases e4:a.val=b.val
 case neg =>
  simp only [↓rA,rB,Nat.reduceAdd,Nat.reduceEqDiff,Nat.reduceLeDiff,Zk,Tryz.results93,h2,e0,e1,e2,e3,e4,v4]
  exact qa (fb (decide_eq_false fun e=>e4 (by rw [e])).symm)
 simp only [↓rA,rB,Nat.reduceAdd,Nat.reduceEqDiff,Nat.reduceLeDiff,Zk,h2,e0,e1,e2,e3,e4]
 refine qg _ (Vk a.unit b.unit hu) ?_
 by_cases e5:a.unit=b.unit
 case neg =>
  simp only [↓rA,rB,Nat.reduceEqDiff,Tryz.results93,e5]
  exact qa (fb (decide_eq_false fun e=>e5 (by rw [e])).symm)
 by_cases e6:a.param=b.param
 case neg =>
  simp only [↓rA,rB,Nat.reduceAdd,Nat.reduceEqDiff,Zk,Tryz.results93,h2,e5,e6]
  exact qa (fb (decide_eq_false fun e=>e6 (by rw [e])).symm)
 by_cases e7:a.wk=b.wk∧a.ws=b.ws
 case neg =>
  simp only [↓rA,rB,Nat.reduceAdd,Nat.reduceEqDiff,Nat.reduceLeDiff,Zk,Tryz.results93,h2,e5,e6,e7,v7]
  exact qa (fb (decide_eq_false fun e=>e7 (by rw [e];exact⟨rfl,rfl⟩)).symm)
 simp only [↓rA,rB,Nat.reduceAdd,Nat.reduceEqDiff,Nat.reduceLeDiff,Zk,Tryz.results93,h2,e5,e6,e7]
 exact qa (fb (decide_eq_true (by rw [qf7];exact⟨e0,e1,e2,e3,by rw [e4];exact⟨rfl,rfl,rfl⟩,e5,e6,e7.1,e7.2⟩)).symm)
end Go.Proofs.YtohdpcjaoiebkaaGreatDoor
set_option linter.unusedSimpArgs false
set_option maxRecDepth 100000
set_option linter.defProp false
namespace Go.Proofs.YtohdpcjaoiebkaaGreatDoor
open Go.VL Go.Ar Go.Lo Go.Proofs.YtohdpcjaoiebkaaGreatDoor
abbrev pt (b o:Nat):V:=.lit (.pointer (some ⟨b,o,none⟩))
def In6 (b2 b5:Nat) (h:Hd) (a:V) (ins:Bool) (L:Nat→Bool) (S:St):Prop :=
 S.rows=[]∧S.σ 2=ptr b2∧S.σ 5=ptr b5∧S.σ 1=qv ins∧S.σ 6=vint 0∧(L 0=true→S.σ 19=pt b2 4)∧(L 1=true→S.σ 20=.agg [vint h.val.kind,vint h.val.n,qm h.val.s])∧(L 2=true→S.σ 21=pt b2 7)∧(L 3=true→S.σ 22=qG h.unit)∧(L 4=true→S.σ 23=pt b2 2)∧(L 5=true→S.σ 24=qm h.name)∧(L 6=true→S.σ 25=pt b5 4)∧(L 8=true→S.σ 26=pt b5 7)∧(L 10=true→S.σ 27=pt b5 2)∧S.boxes=[(b5,.c [vint 1,qm es0,bif L 11 then qm h.name else qm es0,qm es0,bif L 7 then vint h.val.kind else vint 0,bif L 7 then vint h.val.n else vint 0,bif L 7 then qm h.val.s else qm es0,bif L 9 then qG h.unit else nilS,vint 0,vint 0,vint 0,nilS]),(b2,.c (cH h a))]
def qEp (b2 b5:Nat) (h:Hd) (a:V) (ins:Bool) (L:Nat→Bool) (S:St):Prop :=
 S.rows=[]∧S.σ 2=ptr b2∧S.σ 5=ptr b5∧S.σ 1=qv ins∧(L 0=true→S.σ 73=pt b2 1)∧(L 1=true→S.σ 74=qm h.op)∧(L 2=true→S.σ 75=pt b2 3)∧(L 3=true→S.σ 76=qm h.table)∧(L 4=true→S.σ 77=pt b2 8)∧(L 5=true→S.σ 78=vint h.param)∧(L 6=true→S.σ 79=pt b2 9)∧(L 7=true→S.σ 80=.agg [vint h.wk,vint h.ws])∧(L 8=true→S.σ 81=pt b5 1)∧(L 10=true→S.σ 82=pt b5 3)∧(L 12=true→S.σ 83=pt b5 8)∧(L 14=true→S.σ 84=pt b5 9)∧S.boxes=[(b5,.c [vint 5,bif L 9 then qm h.op else qm es0,qm es0,bif L 11 then qm h.table else qm es0,vint 0,vint 0,qm es0,nilS,bif L 13 then vint h.param else vint 0,bif L 15 then vint h.wk else vint 0,bif L 15 then vint h.ws else vint 0,nilS]),(b2,.c (cH h a))]
def qz:=(aI (aI (aI (aI Ty.c33 Ty.c49) (aI Ty.c90 Ty.c91)) (aI (aI Ty.c92 Ty.c93) (aI Ty.t126 (aI Ty.t27 Ty.t29)))) (aI (aI (aI Ty.t3 Ty.t35) (aI Ty.t36 Ty.t38)) (aI (aI Ty.t4 Ty.t40) (aI Ty.t43 (aI Ty.t69 Ty.t9)))))
set_option maxHeartbeats 4000000 in
theorem qkc:∀ (x:E) (ins:Bool),kI x→zc Tryz.prog 49 [vE x,qv ins] (qv (qS x ins)):=by
 have fb:∀ {a b:Bool},a=b→V.lit (.bool a)=qv b:=fun h=>by rw [h]
 have nq:(jQ=({ data:=#[113,117,97,110,116,105,108,101] }:ByteArray))=False:=eq_false (by decide)
 intro x
 induction x using E.ind with
 | h hd l ih =>
 intro ins hf
 have hl:=hf.len
 have hu:=hf.unit
 have ha:=hf.args
 simp only [E.args,E.hd,big] at hl ha hu
 rw [vE,zq]
 have bad:qH hd ins=false→qS (.mk hd l) ins=false:=fun h=>by rw [vv,h];rfl
 refine Ok.of_exM [(6,3),(18,3)] Ty.mixed Tryz.func49 rfl (by simp [Tryz.ntmps49]) (by kernel_rfl) fun F w0 I0=>?_
 simp only [↓rA,rB,qf,Nat.reduceLT]
 refine fun b2 h2=>?_;replace h2:=qn h2;try simp only [Nb] at h2
 simp only [↓rA,rB,qb,Nat.reduceAdd,Nat.reduceEqDiff,Nat.reduceLeDiff,qz]
 refine fun b5 h5=>?_;replace h5:=qn h5;try simp only [Nb] at h5
 simp only [↓z6,↓jI,↓zA,↓xm,↓kp,↓KG,↓jx,↓uQ,↓yT,↓xN,↓u3,↓wF,xy,qs,uz,Wm,uy,jC,vf,ko,uw,jP,vg,uK,wh,jF,QT,yI,xW,yc,vm,KF,uZ,yO,vi,zR,QO,yP,Nat.le_refl,eq_self,and_self,not_false_eq_true,ne_eq,List.map_cons,List.map_nil,List.take_zero,List.drop_succ_cons,List.drop_zero,List.drop_nil,List.length_cons,List.length_nil,List.nil_append,List.append_nil,List.toList_toArray,Nat.add_zero,Nat.zero_add,Bool.and_true,Nat.reduceEqDiff,Nat.reduceAdd,qz,Tryz.results49,h5]
 refine kz (fun S=>qH hd ins=true∧(∃ u,Le u (qG (zd hd).unit)∧S.boxes=[(b5,.c (cHu (zd hd) u nilS)),(b2,.c (cH hd (zD l)))])∧S.rows=[]∧S.σ 2=ptr b2∧S.σ 5=ptr b5∧S.σ 1=qv (ins || decide (hd.kind=5))∧S.σ 6=vint (xt hd.kind)) ?_ ?_
 ·rcases(by omega:hd.kind=1∨hd.kind=2∨hd.kind=3∨hd.kind=4∨hd.kind=5∨hd.kind=6∨hd.kind=7∨hd.kind=8∨hd.kind=9∨(¬ hd.kind=1∧¬ hd.kind=2∧¬ hd.kind=3∧¬ hd.kind=4∧¬ hd.kind=5∧¬ hd.kind=6∧¬ hd.kind=7∧¬ hd.kind=8∧¬ hd.kind=9)) with e | e | e | e | e | e | e | e | e | e
  ·simp only [↓rA,rB,Int.reduceEq,Nat.reduceEqDiff,e]
   refine qtk (some true) Ty.mixed (by kernel_rfl) (by kernel_rfl) (In6 b2 b5 hd (zD l) ins) ?_ ?_ ?_
   ·exact⟨rfl,rfl,rfl,rfl,rfl,fun h=>(by cases h),fun h=>(by cases h),fun h=>(by cases h),fun h=>(by cases h),fun h=>(by cases h),fun h=>(by cases h),fun h=>(by cases h),fun h=>(by cases h),fun h=>(by cases h),rfl⟩
   ·intro L S i o ho hL he ⟨gr,g2,g5,k0,k1,f0,f1,f2,f3,f4,f5,f6,f8,f10,gb⟩
    match i,ho with
    | 0,ho =>
     cases ho
     simp only [↓rA,rB,reduceCtorEq,qz,g2]
     exact⟨gr,g2,g5,k0,k1,fun _=>rfl,f1,f2,f3,f4,f5,f6,f8,f10,gb⟩
    | 1,ho =>
     cases ho
     have d0:=f0 (he ⟨0,.data⟩ (by simp) rfl)
     simp only [↓rA,rB,Nat.reduceAdd,Nat.reduceLeDiff,reduceCtorEq,qz,gb,h5,d0]
     exact⟨gr,g2,g5,k0,k1,f0,fun _=>rfl,f2,f3,f4,f5,f6,f8,f10,gb⟩
    | 2,ho =>
     cases ho
     simp only [↓rA,rB,reduceCtorEq,qz,g2]
     exact⟨gr,g2,g5,k0,k1,f0,f1,fun _=>rfl,f3,f4,f5,f6,f8,f10,gb⟩
    | 3,ho =>
     cases ho
     have d2:=f2 (he ⟨2,.data⟩ (by simp) rfl)
     simp only [↓rA,rB,reduceCtorEq,qz,gb,h5,d2]
     exact⟨gr,g2,g5,k0,k1,f0,f1,f2,fun _=>rfl,f4,f5,f6,f8,f10,gb⟩
    | 4,ho =>
     cases ho
     simp only [↓rA,rB,reduceCtorEq,qz,g2]
     exact⟨gr,g2,g5,k0,k1,f0,f1,f2,f3,fun _=>rfl,f5,f6,f8,f10,gb⟩
    | 5,ho =>
     cases ho
     have d4:=f4 (he ⟨4,.data⟩ (by simp) rfl)
     simp only [↓rA,rB,reduceCtorEq,qz,gb,h5,d4]
     exact⟨gr,g2,g5,k0,k1,f0,f1,f2,f3,f4,fun _=>rfl,f6,f8,f10,gb⟩
    | 6,ho =>
     cases ho
     simp only [↓rA,rB,reduceCtorEq,qz,g5]
     exact⟨gr,g2,g5,k0,k1,f0,f1,f2,f3,f4,f5,fun _=>rfl,f8,f10,gb⟩
    | 7,ho =>
     cases ho
     have d6:=f6 (he ⟨6,.data⟩ (by simp) rfl)
     have d1:=f1 (he ⟨1,.data⟩ (by simp) rfl)
     simp only [↓rA,rB,Nat.reduceAdd,Nat.reduceLeDiff,qz,gb,d6,d1]
     exact⟨gr,g2,g5,k0,k1,f0,f1,f2,f3,f4,f5,f6,f8,f10,rfl⟩
    | 8,ho =>
     cases ho
     simp only [↓rA,rB,reduceCtorEq,qz,g5]
     exact⟨gr,g2,g5,k0,k1,f0,f1,f2,f3,f4,f5,f6,fun _=>rfl,f10,gb⟩
    | 9,ho =>
     cases ho
     have d8:=f8 (he ⟨8,.data⟩ (by simp) rfl)
     have d3:=f3 (he ⟨3,.data⟩ (by simp) rfl)
     simp only [↓rA,rB,Nat.reduceAdd,Nat.reduceLeDiff,qz,gb,d8,d3]
     exact⟨gr,g2,g5,k0,k1,f0,f1,f2,f3,f4,f5,f6,f8,f10,rfl⟩
    | 10,ho =>
     cases ho
     simp only [↓rA,rB,reduceCtorEq,qz,g5]
     exact⟨gr,g2,g5,k0,k1,f0,f1,f2,f3,f4,f5,f6,f8,fun _=>rfl,gb⟩
    | 11,ho =>
     cases ho
     have d10:=f10 (he ⟨10,.data⟩ (by simp) rfl)
     have d5:=f5 (he ⟨5,.data⟩ (by simp) rfl)
     simp only [↓rA,rB,Nat.reduceAdd,Nat.reduceLeDiff,qz,gb,d10,d5]
     exact⟨gr,g2,g5,k0,k1,f0,f1,f2,f3,f4,f5,f6,f8,f10,rfl⟩
    | n+12,ho=>cases ho
   ·intro L S hL ⟨gr,g2,g5,k0,k1,f0,f1,f2,f3,f4,f5,f6,f8,f10,gb⟩
    replace hL:∀ i,i < 12→L i=true:=hL
    have l7:=hL 7 (by decide)
    have l9:=hL 9 (by decide)
    have l11:=hL 11 (by decide)
    rw [l7,l9,l11] at gb
    simp only [cond_true] at gb
    simp only [↓rA,rB,Nat.reduceAdd,Nat.reduceLeDiff,qz,g2,gb,h5]
    refine qg _ (qhv hd.val) ?_
    by_cases v1:xu hd.val=0
    case neg =>
     simp only [↓rA,rB,Nat.reduceEqDiff,v1,gr]
     exact qa (fb (bad (by simp [qH,e,v1])).symm)
    by_cases v2:hd.val.n < 0
    ·simp only [↓rA,rB,Nat.reduceAdd,Nat.reduceEqDiff,qz,v1,v2,gr,g2,h5]
     exact qa (fb (bad (by simp [qH,e,v1,v2])).symm)
    simp only [↓rA,rB,qb,Nat.reduceAdd,Nat.reduceEqDiff,Nat.reduceLeDiff,qz,v1,v2,gr,g2,h5]
    refine qg _ (qn6 hd.val.kind hd.unit hd.name) ?_
    by_cases v3:zT hd.val.kind hd.unit hd.name=0
    ·have hok:qH hd ins=true:=by simp [qH,e,v1,v2,v3]
     have hw:zd hd={ xn 1 with val:=hd.val,unit:=hd.unit,name:=hd.name }:=by simp [zd,e]
     have hm:xt 1=0:=rfl
     simp only [↓rA,rB,Nat.reduceEqDiff,v3,gr,g2,g5,k0,k1,hok,hw,hm]
     exact⟨_,Le.refl _,rfl⟩
    ·simp only [↓rA,rB,Nat.reduceEqDiff,v3,gr]
     exact qa (fb (bad (by simp [qH,e,v1,v2,v3])).symm)
  ·cases ins
   ·simp only [↓rA,rB,Int.reduceEq,Nat.reduceAdd,Nat.reduceEqDiff,Nat.reduceLeDiff,qz,h5,e]
    exact qa (fb (bad (by simp [qH,e])).symm)
   ·simp only [↓rA,rB,Int.reduceEq,Nat.reduceAdd,Nat.reduceEqDiff,Nat.reduceLeDiff,qz,h5,e]
    refine qg _ (yd hd.name) ?_
    cases v1:qP hd.name
    ·simp only [↓rA,rB,Nat.reduceEqDiff,e]
     exact qa (fb (bad (by simp [qH,e,v1])).symm)
    ·have hok:qH hd true=true:=by simp [qH,e,v1]
     have hw:zd hd={ xn 2 with name:=hd.name }:=by simp [zd,e]
     have hm:xt 2=0:=rfl
     simp only [↓rA,rB,Int.reduceEq,Nat.reduceAdd,Nat.reduceEqDiff,qz,h5,e,hok,hw,hm]
     exact⟨_,Le.nil 2,rfl⟩
  ·cases ins
   ·simp only [↓rA,rB,Int.reduceEq,Nat.reduceAdd,Nat.reduceEqDiff,Nat.reduceLeDiff,qz,h5,e]
    refine qg _ (yd hd.name) ?_
    cases v1:qP hd.name
    ·simp only [↓rA,rB,Nat.reduceEqDiff,e]
     exact qa (fb (bad (by simp [qH,e,v1])).symm)
    ·have hok:qH hd false=true:=by simp [qH,e,v1]
     have hw:zd hd={ xn 3 with name:=hd.name }:=by simp [zd,e]
     have hm:xt 3=0:=rfl
     simp only [↓rA,rB,Int.reduceEq,Nat.reduceAdd,Nat.reduceEqDiff,qz,h5,e,hok,hw,hm]
     exact⟨_,Le.nil 2,rfl⟩
   ·simp only [↓rA,rB,Int.reduceEq,Nat.reduceAdd,Nat.reduceEqDiff,Nat.reduceLeDiff,reduceCtorEq,qz,h5,e]
    exact qa (fb (bad (by simp [qH,e])).symm)
  ·cases ins
   ·simp only [↓rA,rB,Int.reduceEq,Nat.reduceAdd,Nat.reduceEqDiff,Nat.reduceLeDiff,qz,h5,e]
    refine qg _ (yd hd.name) ?_
    cases v1:qP hd.name
    ·simp only [↓rA,rB,Nat.reduceEqDiff,e]
     exact qa (fb (bad (by simp [qH,e,v1])).symm)
    ·have hok:qH hd false=true:=by simp [qH,e,v1]
     have hw:zd hd={ xn 4 with name:=hd.name }:=by simp [zd,e]
     have hm:xt 4=1:=rfl
     simp only [↓rA,rB,Int.reduceEq,Nat.reduceAdd,Nat.reduceEqDiff,qz,h5,e,hok,hw,hm]
     exact⟨_,Le.nil 2,rfl⟩
   ·simp only [↓rA,rB,Int.reduceEq,Nat.reduceAdd,Nat.reduceEqDiff,Nat.reduceLeDiff,reduceCtorEq,qz,h5,e]
    exact qa (fb (bad (by simp [qH,e])).symm)
  ·simp only [↓rA,rB,Int.reduceEq,Nat.reduceEqDiff,e]
   refine qtk (some true) Ty.mixed (by kernel_rfl) (by kernel_rfl) (qEp b2 b5 hd (zD l) ins) ?_ ?_ ?_
   ·exact⟨rfl,rfl,rfl,rfl,fun h=>(by cases h),fun h=>(by cases h),fun h=>(by cases h),fun h=>(by cases h),fun h=>(by cases h),fun h=>(by cases h),fun h=>(by cases h),fun h=>(by cases h),fun h=>(by cases h),fun h=>(by cases h),fun h=>(by cases h),fun h=>(by cases h),rfl⟩
   ·intro L S i o ho hL he ⟨gr,g2,g5,k0,f0,f1,f2,f3,f4,f5,f6,f7,f8,f10,f12,f14,gb⟩
    match i,ho with
    | 0,ho =>
     cases ho
     simp only [↓rA,rB,reduceCtorEq,qz,g2]
     exact⟨gr,g2,g5,k0,fun _=>rfl,f1,f2,f3,f4,f5,f6,f7,f8,f10,f12,f14,gb⟩
    | 1,ho =>
     cases ho
     have d0:=f0 (he ⟨0,.data⟩ (by simp) rfl)
     simp only [↓rA,rB,reduceCtorEq,qz,gb,h5,d0]
     exact⟨gr,g2,g5,k0,f0,fun _=>rfl,f2,f3,f4,f5,f6,f7,f8,f10,f12,f14,gb⟩
    | 2,ho =>
     cases ho
     simp only [↓rA,rB,reduceCtorEq,qz,g2]
     exact⟨gr,g2,g5,k0,f0,f1,fun _=>rfl,f3,f4,f5,f6,f7,f8,f10,f12,f14,gb⟩
    | 3,ho =>
     cases ho
     have d2:=f2 (he ⟨2,.data⟩ (by simp) rfl)
     simp only [↓rA,rB,reduceCtorEq,qz,gb,h5,d2]
     exact⟨gr,g2,g5,k0,f0,f1,f2,fun _=>rfl,f4,f5,f6,f7,f8,f10,f12,f14,gb⟩
    | 4,ho =>
     cases ho
     simp only [↓rA,rB,reduceCtorEq,qz,g2]
     exact⟨gr,g2,g5,k0,f0,f1,f2,f3,fun _=>rfl,f5,f6,f7,f8,f10,f12,f14,gb⟩
    | 5,ho =>
     cases ho
     have d4:=f4 (he ⟨4,.data⟩ (by simp) rfl)
     simp only [↓rA,rB,reduceCtorEq,qz,gb,h5,d4]
     exact⟨gr,g2,g5,k0,f0,f1,f2,f3,f4,fun _=>rfl,f6,f7,f8,f10,f12,f14,gb⟩
    | 6,ho =>
     cases ho
     simp only [↓rA,rB,reduceCtorEq,qz,g2]
     exact⟨gr,g2,g5,k0,f0,f1,f2,f3,f4,f5,fun _=>rfl,f7,f8,f10,f12,f14,gb⟩
    | 7,ho =>
     cases ho
     have d6:=f6 (he ⟨6,.data⟩ (by simp) rfl)
     simp only [↓rA,rB,Nat.reduceAdd,Nat.reduceLeDiff,reduceCtorEq,qz,gb,h5,d6]
     exact⟨gr,g2,g5,k0,f0,f1,f2,f3,f4,f5,f6,fun _=>rfl,f8,f10,f12,f14,gb⟩
    | 8,ho =>
     cases ho
     simp only [↓rA,rB,reduceCtorEq,qz,g5]
     exact⟨gr,g2,g5,k0,f0,f1,f2,f3,f4,f5,f6,f7,fun _=>rfl,f10,f12,f14,gb⟩
    | 9,ho =>
     cases ho
     have d8:=f8 (he ⟨8,.data⟩ (by simp) rfl)
     have d1:=f1 (he ⟨1,.data⟩ (by simp) rfl)
     simp only [↓rA,rB,Nat.reduceAdd,Nat.reduceLeDiff,qz,gb,d8,d1]
     exact⟨gr,g2,g5,k0,f0,f1,f2,f3,f4,f5,f6,f7,f8,f10,f12,f14,rfl⟩
    | 10,ho =>
     cases ho
     simp only [↓rA,rB,reduceCtorEq,qz,g5]
     exact⟨gr,g2,g5,k0,f0,f1,f2,f3,f4,f5,f6,f7,f8,fun _=>rfl,f12,f14,gb⟩
    | 11,ho =>
     cases ho
     have d10:=f10 (he ⟨10,.data⟩ (by simp) rfl)
     have d3:=f3 (he ⟨3,.data⟩ (by simp) rfl)
     simp only [↓rA,rB,Nat.reduceAdd,Nat.reduceLeDiff,qz,gb,d10,d3]
     exact⟨gr,g2,g5,k0,f0,f1,f2,f3,f4,f5,f6,f7,f8,f10,f12,f14,rfl⟩
    | 12,ho =>
     cases ho
     simp only [↓rA,rB,reduceCtorEq,qz,g5]
     exact⟨gr,g2,g5,k0,f0,f1,f2,f3,f4,f5,f6,f7,f8,f10,fun _=>rfl,f14,gb⟩
    | 13,ho =>
     cases ho
     have d12:=f12 (he ⟨12,.data⟩ (by simp) rfl)
     have d5:=f5 (he ⟨5,.data⟩ (by simp) rfl)
     simp only [↓rA,rB,Nat.reduceAdd,Nat.reduceLeDiff,qz,gb,d12,d5]
     exact⟨gr,g2,g5,k0,f0,f1,f2,f3,f4,f5,f6,f7,f8,f10,f12,f14,rfl⟩
    | 14,ho =>
     cases ho
     simp only [↓rA,rB,reduceCtorEq,qz,g5]
     exact⟨gr,g2,g5,k0,f0,f1,f2,f3,f4,f5,f6,f7,f8,f10,f12,fun _=>rfl,gb⟩
    | 15,ho =>
     cases ho
     have d14:=f14 (he ⟨14,.data⟩ (by simp) rfl)
     have d7:=f7 (he ⟨7,.data⟩ (by simp) rfl)
     simp only [↓rA,rB,Nat.reduceAdd,Nat.reduceLeDiff,qz,gb,d14,d7]
     exact⟨gr,g2,g5,k0,f0,f1,f2,f3,f4,f5,f6,f7,f8,f10,f12,f14,rfl⟩
    | n+16,ho=>cases ho
   ·intro L S hL ⟨gr,g2,g5,k0,f0,f1,f2,f3,f4,f5,f6,f7,f8,f10,f12,f14,gb⟩
    replace hL:∀ i,i < 16→L i=true:=hL
    have l9:=hL 9 (by decide)
    have l11:=hL 11 (by decide)
    have l13:=hL 13 (by decide)
    have l15:=hL 15 (by decide)
    rw [l9,l11,l13,l15] at gb
    simp only [cond_true] at gb
    clear hL f0 f1 f2 f3 f4 f5 f6 f7 f8 f10 f12 f14
    cases ins
    case true =>
     by_cases q1:hd.op=yv
     ·simp only [↓rA,rB,Nat.reduceAdd,Nat.reduceEqDiff,qz,gr,g2,k0,gb,h5,q1]
      exact qa (fb (bad (by simp [qH,e])).symm)
     by_cases q2:hd.op=jQ
     ·simp only [↓rA,rB,Nat.reduceAdd,Nat.reduceEqDiff,qz,gr,g2,k0,gb,h5,q2,nq]
      exact qa (fb (bad (by simp [qH,e])).symm)
     simp only [↓rA,rB,Nat.reduceAdd,Nat.reduceEqDiff,qz,gr,g2,k0,gb,h5,q1,q2]
     exact qa (fb (bad (by simp [qH,e])).symm)
    have hw:zd hd={ xn 5 with op:=hd.op,table:=hd.table,param:=hd.param,wk:=hd.wk,ws:=hd.ws }:=by simp [zd,e]
    have hm:xt 5=2:=rfl
    by_cases q1:hd.op=yv
    ·simp only [↓rA,rB,Nat.reduceAdd,Nat.reduceEqDiff,reduceCtorEq,qz,g2,k0,gb,h5,q1]
     refine qg _ (kh Qu yv (by decide)) ?_
     cases v1:xP Qu yv
     ·simp only [↓rA,rB,Nat.reduceEqDiff,gr]
      exact qa (fb (bad (by simp [qH,e,xr,q1,v1])).symm)
     simp only [↓rA,rB,Nat.reduceAdd,Nat.reduceEqDiff,qz,gr,g2,h5,q1]
     refine qg _ (yd hd.table) ?_
     cases v2:qP hd.table
     ·simp only [↓rA,rB,Nat.reduceEqDiff,gr]
      exact qa (fb (bad (by simp [qH,e,xr,q1,v1,v2])).symm)
     by_cases v3:hd.param < 1
     ·simp only [↓rA,rB,Nat.reduceAdd,Nat.reduceEqDiff,qz,gr,g2,h5,q1,v3]
      exact qa (fb (bad (by simp [qH,e,xr,KB,q1,v1,v2,v3])).symm)
     by_cases v4:1000 < hd.param
     ·simp only [↓rA,rB,Nat.reduceAdd,Nat.reduceEqDiff,qz,gr,g2,h5,q1,v3,v4]
      exact qa (fb (bad (by simp [qH,e,xr,KB,J9,q1,v1,v2,v3,v4])).symm)
     have hoa:xr hd=zy hd.wk hd.ws:=by simp [xr,KB,J9,q1,v1,v2,v3,v4]
     by_cases w1:hd.wk < 1
     ·simp only [↓rA,rB,Nat.reduceAdd,Nat.reduceEqDiff,qz,gr,g2,h5,q1,v3,v4,w1]
      exact qa (fb (bad (by simp [qH,e,hoa,zy,w1])).symm)
     by_cases w2:4 < hd.wk
     ·simp only [↓rA,rB,Nat.reduceAdd,Nat.reduceEqDiff,qz,gr,g2,h5,q1,v3,v4,w1,w2]
      exact qa (fb (bad (by simp [qH,e,hoa,zy,w1,w2])).symm)
     by_cases w3:hd.wk=1
     ·by_cases w4:hd.ws=0
      ·have hok:qH hd false=true:=by simp [qH,e,hoa,zy,w3,w4]
       simp only [↓rA,rB,Int.reduceLT,Nat.reduceAdd,Nat.reduceEqDiff,qz,gr,g2,g5,h5,q1,v3,v4,w3,w4,hok,hw,hm]
       exact⟨_,Le.nil 2,rfl⟩
      ·simp only [↓rA,rB,Int.reduceLT,Nat.reduceAdd,Nat.reduceEqDiff,reduceCtorEq,qz,gr,g2,h5,q1,v3,v4,w3,w4]
       exact qa (fb (bad (by simp [qH,e,hoa,zy,w3,w4])).symm)
     ·by_cases w4:hd.ws=0
      ·simp only [↓rA,rB,Nat.reduceAdd,Nat.reduceEqDiff,qz,gr,g2,h5,q1,v3,v4,w1,w2,w3,w4]
       exact qa (fb (bad (by simp [qH,e,hoa,zy,w1,w2,w3,w4])).symm)
      by_cases w5:hd.ws < 0
      ·simp only [↓rA,rB,Nat.reduceAdd,Nat.reduceEqDiff,qz,gr,g2,h5,q1,v3,v4,w1,w2,w3,w4,w5]
       exact qa (fb (bad (by simp [qH,e,hoa,zy,w1,w2,w3,w4,w5])).symm)
      by_cases w6:1099511627776 < hd.ws
      ·simp only [↓rA,rB,Nat.reduceAdd,Nat.reduceEqDiff,qz,gr,g2,h5,q1,v3,v4,w1,w2,w3,w4,w5,w6]
       exact qa (fb (bad (by simp [qH,e,hoa,zy,w1,w2,w3,w4,w5,w6])).symm)
      have hok:qH hd false=true:=by simp [qH,e,hoa,zy,w1,w2,w3,w4,w5,w6]
      simp only [↓rA,rB,Nat.reduceAdd,Nat.reduceEqDiff,qz,gr,g2,g5,h5,q1,v3,v4,w1,w2,w3,w4,w5,w6,hok,hw,hm]
      exact⟨_,Le.nil 2,rfl⟩
    by_cases q2:hd.op=jQ
    ·simp only [↓rA,rB,Nat.reduceAdd,Nat.reduceEqDiff,reduceCtorEq,qz,g2,k0,gb,h5,q2,nq]
     refine qg _ (kh Qu jQ (by decide)) ?_
     cases v1:xP Qu jQ
     ·simp only [↓rA,rB,Nat.reduceEqDiff,gr]
      exact qa (fb (bad (by simp [qH,e,xr,q2,v1])).symm)
     simp only [↓rA,rB,Nat.reduceAdd,Nat.reduceEqDiff,qz,gr,g2,h5,q2]
     refine qg _ (yd hd.table) ?_
     cases v2:qP hd.table
     ·simp only [↓rA,rB,Nat.reduceEqDiff,gr]
      exact qa (fb (bad (by simp [qH,e,xr,q2,v1,v2])).symm)
     by_cases v3:hd.param < 1
     ·simp only [↓rA,rB,Nat.reduceAdd,Nat.reduceEqDiff,qz,gr,g2,h5,q2,v3]
      exact qa (fb (bad (by simp [qH,e,xr,KB,q2,v1,v2,v3])).symm)
     by_cases v4:1073741824 < hd.param
     ·simp only [↓rA,rB,Nat.reduceAdd,Nat.reduceEqDiff,qz,gr,g2,h5,q2,v3,v4]
      exact qa (fb (bad (by simp [qH,e,xr,KB,J9,q2,v1,v2,v3,v4])).symm)
     have hoa:xr hd=zy hd.wk hd.ws:=by simp [xr,KB,J9,q2,v1,v2,v3,v4]
     by_cases w1:hd.wk < 1
     ·simp only [↓rA,rB,Nat.reduceAdd,Nat.reduceEqDiff,qz,gr,g2,h5,q2,v3,v4,w1]
      exact qa (fb (bad (by simp [qH,e,hoa,zy,w1])).symm)
     by_cases w2:4 < hd.wk
     ·simp only [↓rA,rB,Nat.reduceAdd,Nat.reduceEqDiff,qz,gr,g2,h5,q2,v3,v4,w1,w2]
      exact qa (fb (bad (by simp [qH,e,hoa,zy,w1,w2])).symm)
     by_cases w3:hd.wk=1
     ·by_cases w4:hd.ws=0
      ·have hok:qH hd false=true:=by simp [qH,e,hoa,zy,w3,w4]
       simp only [↓rA,rB,Int.reduceLT,Nat.reduceAdd,Nat.reduceEqDiff,qz,gr,g2,g5,h5,q2,v3,v4,w3,w4,hok,hw,hm]
       exact⟨_,Le.nil 2,rfl⟩
      ·simp only [↓rA,rB,Int.reduceLT,Nat.reduceAdd,Nat.reduceEqDiff,reduceCtorEq,qz,gr,g2,h5,q2,v3,v4,w3,w4]
       exact qa (fb (bad (by simp [qH,e,hoa,zy,w3,w4])).symm)
     ·by_cases w4:hd.ws=0
      ·simp only [↓rA,rB,Nat.reduceAdd,Nat.reduceEqDiff,qz,gr,g2,h5,q2,v3,v4,w1,w2,w3,w4]
       exact qa (fb (bad (by simp [qH,e,hoa,zy,w1,w2,w3,w4])).symm)
      by_cases w5:hd.ws < 0
      ·simp only [↓rA,rB,Nat.reduceAdd,Nat.reduceEqDiff,qz,gr,g2,h5,q2,v3,v4,w1,w2,w3,w4,w5]
       exact qa (fb (bad (by simp [qH,e,hoa,zy,w1,w2,w3,w4,w5])).symm)
      by_cases w6:1099511627776 < hd.ws
      ·simp only [↓rA,rB,Nat.reduceAdd,Nat.reduceEqDiff,qz,gr,g2,h5,q2,v3,v4,w1,w2,w3,w4,w5,w6]
       exact qa (fb (bad (by simp [qH,e,hoa,zy,w1,w2,w3,w4,w5,w6])).symm)
      have hok:qH hd false=true:=by simp [qH,e,hoa,zy,w1,w2,w3,w4,w5,w6]
      simp only [↓rA,rB,Nat.reduceAdd,Nat.reduceEqDiff,qz,gr,g2,g5,h5,q2,v3,v4,w1,w2,w3,w4,w5,w6,hok,hw,hm]
      exact⟨_,Le.nil 2,rfl⟩
    simp only [↓rA,rB,Nat.reduceAdd,Nat.reduceEqDiff,reduceCtorEq,qz,g2,k0,gb,h5,q1,q2]
    refine qg _ (kh Qu hd.op (by decide)) ?_
    cases v1:xP Qu hd.op
    ·simp only [↓rA,rB,Nat.reduceEqDiff,gr]
     exact qa (fb (bad (by simp [qH,e,xr,v1])).symm)
    simp only [↓rA,rB,Nat.reduceAdd,Nat.reduceEqDiff,qz,gr,g2,h5]
    refine qg _ (yd hd.table) ?_
    cases v2:qP hd.table
    ·simp only [↓rA,rB,Nat.reduceEqDiff,gr]
     exact qa (fb (bad (by simp [qH,e,xr,v1,v2])).symm)
    by_cases v3:hd.param < 0
    ·simp only [↓rA,rB,Nat.reduceAdd,Nat.reduceEqDiff,qz,gr,g2,h5,v3]
     exact qa (fb (bad (by simp [qH,e,xr,KB,q1,q2,v1,v2,v3])).symm)
    by_cases v4:0 < hd.param
    ·simp only [↓rA,rB,Nat.reduceAdd,Nat.reduceEqDiff,qz,gr,g2,h5,v3,v4]
     exact qa (fb (bad (by simp [qH,e,xr,KB,J9,q1,q2,v1,v2,v3,v4])).symm)
    have hoa:xr hd=zy hd.wk hd.ws:=by simp [xr,KB,J9,q1,q2,v1,v2,v3,v4]
    by_cases w1:hd.wk < 1
    ·simp only [↓rA,rB,Nat.reduceAdd,Nat.reduceEqDiff,qz,gr,g2,h5,v3,v4,w1]
     exact qa (fb (bad (by simp [qH,e,hoa,zy,w1])).symm)
    by_cases w2:4 < hd.wk
    ·simp only [↓rA,rB,Nat.reduceAdd,Nat.reduceEqDiff,qz,gr,g2,h5,v3,v4,w1,w2]
     exact qa (fb (bad (by simp [qH,e,hoa,zy,w1,w2])).symm)
    by_cases w3:hd.wk=1
    ·by_cases w4:hd.ws=0
     ·have hok:qH hd false=true:=by simp [qH,e,hoa,zy,w3,w4]
      simp only [↓rA,rB,Int.reduceLT,Nat.reduceAdd,Nat.reduceEqDiff,qz,gr,g2,g5,h5,v3,v4,w3,w4,hok,hw,hm]
      exact⟨_,Le.nil 2,rfl⟩
     ·simp only [↓rA,rB,Int.reduceLT,Nat.reduceAdd,Nat.reduceEqDiff,reduceCtorEq,qz,gr,g2,h5,v3,v4,w3,w4]
      exact qa (fb (bad (by simp [qH,e,hoa,zy,w3,w4])).symm)
    ·by_cases w4:hd.ws=0
     ·simp only [↓rA,rB,Nat.reduceAdd,Nat.reduceEqDiff,qz,gr,g2,h5,v3,v4,w1,w2,w3,w4]
      exact qa (fb (bad (by simp [qH,e,hoa,zy,w1,w2,w3,w4])).symm)
     by_cases w5:hd.ws < 0
     ·simp only [↓rA,rB,Nat.reduceAdd,Nat.reduceEqDiff,qz,gr,g2,h5,v3,v4,w1,w2,w3,w4,w5]
      exact qa (fb (bad (by simp [qH,e,hoa,zy,w1,w2,w3,w4,w5])).symm)
     by_cases w6:1099511627776 < hd.ws
     ·simp only [↓rA,rB,Nat.reduceAdd,Nat.reduceEqDiff,qz,gr,g2,h5,v3,v4,w1,w2,w3,w4,w5,w6]
      exact qa (fb (bad (by simp [qH,e,hoa,zy,w1,w2,w3,w4,w5,w6])).symm)
     have hok:qH hd false=true:=by simp [qH,e,hoa,zy,w1,w2,w3,w4,w5,w6]
     simp only [↓rA,rB,Nat.reduceAdd,Nat.reduceEqDiff,qz,gr,g2,g5,h5,v3,v4,w1,w2,w3,w4,w5,w6,hok,hw,hm]
     exact⟨_,Le.nil 2,rfl⟩
  ·simp only [↓rA,rB,Int.reduceEq,Nat.reduceAdd,Nat.reduceEqDiff,Nat.reduceLeDiff,reduceCtorEq,qz,h5,e]
   refine qg _ (kh unL hd.op (by decide)) ?_
   cases v1:xP unL hd.op
   ·simp only [↓rA,rB,e]
    exact qa (fb (bad (by simp [qH,e,v1])).symm)
   ·have hok:qH hd ins=true:=by simp [qH,e,v1]
    have hw:zd hd={ xn 6 with op:=hd.op }:=by simp [zd,e]
    have hm:xt 6=1:=rfl
    simp only [↓rA,rB,Int.reduceEq,Nat.reduceEqDiff,e,hok,hw,hm]
    exact⟨_,Le.nil 2,rfl⟩
  ·simp only [↓rA,rB,Int.reduceEq,Nat.reduceAdd,Nat.reduceEqDiff,Nat.reduceLeDiff,reduceCtorEq,qz,h5,e]
   refine qg _ (kh uf hd.op (by decide)) ?_
   cases v1:xP uf hd.op
   ·simp only [↓rA,rB,e]
    exact qa (fb (bad (by simp [qH,e,v1])).symm)
   ·have hok:qH hd ins=true:=by simp [qH,e,v1]
    have hw:zd hd={ xn 7 with op:=hd.op }:=by simp [zd,e]
    have hm:xt 7=2:=rfl
    simp only [↓rA,rB,Int.reduceEq,Nat.reduceEqDiff,e,hok,hw,hm]
    exact⟨_,Le.nil 2,rfl⟩
  ·have hok:qH hd ins=true:=by simp [qH,e]
   have hw:zd hd=xn 8:=by simp [zd,e]
   have hm:xt 8=3:=rfl
   simp only [↓rA,rB,Int.reduceEq,Nat.reduceEqDiff,e,hok,hw,hm]
   exact⟨_,Le.nil 2,rfl⟩
  ·have hok:qH hd ins=true:=by simp [qH,e]
   have hw:zd hd=xn 9:=by simp [zd,e]
   have hm:xt 9=2:=rfl
   simp only [↓rA,rB,Int.reduceEq,Nat.reduceEqDiff,e,hok,hw,hm]
   exact⟨_,Le.nil 2,rfl⟩
  ·simp only [↓rA,rB,Nat.reduceEqDiff,e]
   exact qa (fb (bad (by simp [qH,e])).symm)
 ·rintro S ⟨hok,⟨u,hle,gb⟩,gr,g2,g5,g1,g6⟩
  have hpm:qS (.mk hd l) ins=(decide (hd=zd hd) && decide ((l.length:Int)=xt hd.kind) && properEs l (ins || decide (hd.kind=5)) && kg hd l):=by rw [vv,hok];simp
  simp only [↓rA,rB,Nat.reduceAdd,Nat.reduceEqDiff,qz,gb,g2,g5,h5]
  refine vN (.cons (Le.refl _) (.cons (qDa hle) .nil)) _ (qi4 hd (zd hd) l [] hu) ?_
  by_cases c1:hd=zd hd
  case neg =>
   simp only [↓rA,rB,Nat.reduceEqDiff,gr,c1]
   exact qa (fb (by rw [hpm,decide_eq_false c1];rfl))
  by_cases c2:(l.length:Int)=xt hd.kind
  case neg =>
   simp only [↓rA,rB,Nat.reduceAdd,Nat.reduceEqDiff,qz,gr,g2,g6,h5,decide_eq_true c1,c2,List.length_map]
   exact qa (fb (by rw [hpm,decide_eq_false c2];simp))
  simp only [↓rA,rB,Nat.reduceAdd,Nat.reduceEqDiff,qz,gr,g2,g6,h5,decide_eq_true c1,c2,List.length_map]
  have fin:properEs l (ins || decide (hd.kind=5))=false→qS (.mk hd l) ins=false:=fun h=>by rw [hpm,h];simp
  refine qB Ty.mixed (by kernel_rfl) l.length (fun i S=>properEs (l.take i) (ins || decide (hd.kind=5))=true∧S.boxes=[(b5,.c (cHu (zd hd) u nilS)),(b2,.c (cH hd (zD l)))]∧S.rows=[]∧S.σ 1=qv (ins || decide (hd.kind=5))∧S.σ 2=ptr b2∧S.σ 186=zD l∧S.σ 187=vint (xt hd.kind)∧S.σ 188=vint i) ⟨0,?_⟩ (fun i S hi ⟨hq,gb,gr,g1,g2,g186,g187,g188⟩=>?_) (fun S ⟨hq,gb,gr,g1,g2,g186,g187,g188⟩=>?_)
  ·simp only [rB,Nat.reduceEqDiff,g1,g2]
   exact rfl
  ·have hlt:((i:Int) < xt hd.kind):=by rw [← c2];omega
   have hwi:=qk (i:=i) (N:=l.length) hi (by omega)
   have hx:=List.getElem_mem hi
   simp only [↓rA,rB,Nat.reduceAdd,Nat.reduceEqDiff,qz,gb,gr,g186,g187,g188,hlt,Int.ofNat_lt,hi,List.length_map,qd _ _ _ hi,qx]
   refine fun b10 h10=>?_;replace h10:=qn h10;try simp only [Nb] at h10
   simp only [↓rA,rB,Nat.reduceAdd,Nat.reduceEqDiff,qz,gb,g1,qd _ _ _ hi]
   have hc:=ih l[i] hx (ins || decide (hd.kind=5)) (ha _ hx)
   rw [vE,qx] at hc
   refine qg _ hc ?_
   cases r1:qS l[i] (ins || decide (hd.kind=5))
   ·simp only [↓rA,rB,gr]
    refine qa (fb (fin ?_).symm)
    cases q:properEs l (ins || decide (hd.kind=5))
    ·rfl
    ·rw [(jt l _).1 q _ hx] at r1;cases r1
   ·simp only [↓rA,rB,Nat.reduceEqDiff,gr,g1,g2,g186,g187,g188,hwi]
    refine⟨1,?_,rfl⟩
    rw [List.take_succ_eq_append_getElem hi,kH,hq]
    simp only [properEs,r1,Bool.and_true]
  ·have hlt:¬ ((l.length:Int) < xt hd.kind):=by rw [← c2];omega
   rw [List.take_of_length_le (Nat.le_refl _)] at hq
   have hpc:qS (.mk hd l) ins=kg hd l:=by rw [hpm,decide_eq_true c1,decide_eq_true c2,hq];simp
   by_cases k1:hd.op=yw
   case neg =>
    simp only [↓rA,rB,Nat.reduceAdd,Nat.reduceEqDiff,qz,gb,gr,g2,g187,g188,hlt,k1,h5]
    exact qa (fb (by rw [hpc];simp [kg,k1]))
   by_cases k2:hd.kind=5
   case neg =>
    simp only [↓rA,rB,Nat.reduceAdd,Nat.reduceEqDiff,qz,gb,gr,g2,g187,g188,hlt,k1,k2,h5]
    exact qa (fb (by rw [hpc];simp [kg,k1,k2]))
   rw [k2] at c2 hlt
   have hl2:l.length=2:=by
    have:(l.length:Int)=2:=c2
    omega
   cases l with
   | nil=>cases hl2
   | cons x r =>
   have hlt2:¬ (((r.length+1:Nat):Int) < xt 5):=hlt
   simp only [↓rA,rB,Int.reduceToNat,Nat.reduceAdd,Nat.reduceEqDiff,qz,gb,gr,g2,g187,g188,hlt2,k1,k2,h5,qx]
   refine fun b11 h11=>?_;replace h11:=qn h11;try simp only [Nb] at h11
   simp only [↓rA,rB,qb,Nat.reduceAdd,Nat.reduceEqDiff,Nat.reduceLeDiff,qz,gb,k2]
   have hx:=ha x List.mem_cons_self
   refine vN (.cons (Le.refl _) (.cons (qDa (h:=hdTrue) (Le.nil 2)) .nil)) _ (qi4 x.hd hdTrue x.args [] hx.unit) ?_
   simp only [↓rA,rB]
   exact qa (fb (by rw [hpc];simp [kg,k1,k2]))
def qom:=(aI (aI (aI Ty.c47 (aI Ty.c48 Ty.c49)) (aI Ty.t126 (aI Ty.t27 Ty.t29))) (aI (aI Ty.t3 (aI Ty.t35 Ty.t36)) (aI (aI Ty.t38 Ty.t4) (aI Ty.t40 Ty.t9))))
theorem qaj (x:E) (hf:kI x) (hb:qZ x≤big):zc Tryz.prog 25 [vE x] (vint (qY x)):=by
 have fi:∀ {a b:Int},a=b→V.lit (.int .i64 a)=vint b:=fun h=>by rw [h]
 have hs:=quh x hf
 have hd:=qr6 x hf hb
 have hp:=qkc x false hf
 rw [vE,qx] at hs hd hp ⊢
 refine Ok.of_ex Ty.mixed Tryz.func25 rfl (by simp [Tryz.ntmps25]) (by kernel_rfl) fun F w0 I0=>?_
 simp only [↓rA,rB,qf,Nat.reduceLT]
 refine fun b1 h1=>?_;replace h1:=qn h1;try simp only [Nb] at h1
 simp only [↓rA,rB,Nat.reduceAdd,Nat.reduceEqDiff,qom]
 refine qg _ hs ?_
 by_cases e1:64 < IntKind.i64.wrap (zj x)
 ·simp only [↓rA,rB,Nat.reduceEqDiff,Tryz.results25,e1]
  exact qa (fi (by rw [qY,if_pos e1]))
 simp only [↓rA,rB,Nat.reduceAdd,Nat.reduceEqDiff,qom,e1]
 refine qg _ hd ?_
 by_cases e2:12 < qZ x
 ·have e2':(12:Int) < qZ x:=by omega
  simp only [↓rA,rB,Nat.reduceEqDiff,Tryz.results25,e2']
  exact qa (fi (by rw [qY,if_neg e1,if_pos e2]))
 have e2':¬ (12:Int) < qZ x:=by omega
 simp only [↓rA,rB,Nat.reduceAdd,Nat.reduceEqDiff,qom,e2']
 refine qg _ hp ?_
 cases e3:qS x false
 ·simp only [↓rA,rB,Tryz.results25]
  exact qa (fi (by rw [qY,if_neg e1,if_neg e2,if_neg (by rw [e3];decide)]))
 ·simp only [↓rA,rB,Tryz.results25]
  exact qa (fi (by rw [qY,if_neg e1,if_neg e2,if_pos e3]))
end Go.Proofs.YtohdpcjaoiebkaaGreatDoor
set_option linter.unusedSimpArgs false
set_option maxRecDepth 100000
set_option linter.defProp false
namespace Go.Proofs.YtohdpcjaoiebkaaGreatDoor
open Go.VL Go.Ar Go.Lo Go.Pr Go.Proofs.YtohdpcjaoiebkaaGreatDoor Go.Shelf
theorem qas {w:World} {I:Cells}:∀ {ls xs:List Value},xs=ls→V.reps w I (ls.map .lit) xs
 | [],_,rfl=>by simp [V.reps]
 | l::ls,_,rfl=>by
  simp only [List.map_cons,V.reps,V.rep]
  exact⟨trivial,qas rfl⟩
theorem Ul (a b:Bs) {k:Value→Prop} (h:a.length+b.length≤9223372036854775807) (hk:k (.string (ts (a++b)))):qj (if (ts a).size+(ts b).size≤9223372036854775807 then some (Value.string (ts a++ts b)) else none) k:=by
 rw [kd,kd,if_pos h,yE]
 exact hk
theorem Le.lits (ls:List Value):Le (.lit (.agg ls.toArray)) (.agg (ls.map .lit)):=fun w I x h=>by
 simp only [V.rep] at h ⊢
 exact⟨_,h,qas rfl⟩
theorem ql0 (b:Bool):zc Tryz.prog 167 [qv b] (qm (ts (if b then yB else wFalse))):=by
 cases b
 all_goals
  refine Ok.of_ex Ty.mixed Tryz.func167 rfl (by simp [Tryz.ntmps167]) (by kernel_rfl) fun F w0 I0=>?_
  simp only [↓rA,rB,simprocAttr,Tryz.results167]
  exact qa rfl
def qCc:=(aI Ty.c167 (aI Ty.t4 Ty.t9))
theorem qrt (b:Bool):zc Tryz.prog 155 [qv b] (qm (ts (if b then yB else wFalse))):=by
 refine Ok.of_ex Ty.mixed Tryz.func155 rfl (by simp [Tryz.ntmps155]) (by kernel_rfl) fun F w0 I0=>?_
 simp only [↓rA,rB,simprocAttr,qCc]
 refine qg _ (ql0 b) ?_
 simp only [↓rA,rB,simprocAttr,Tryz.results155]
 exact qa rfl
def qCb:=(aI (aI Ty.c155 (aI Ty.t173 Ty.t3)) (aI Ty.t35 (aI Ty.t4 Ty.t9)))
theorem qg0 (v:Val):zc Tryz.prog 130 [.agg (qc5 v)] (qm (ts (if v.n=1 then yB else wFalse))):=by
 refine Ok.of_ex Ty.mixed Tryz.func130 rfl (by simp [Tryz.ntmps130]) (by kernel_rfl) fun F w0 I0=>?_
 simp only [↓rA,rB,qf,simprocAttr]
 refine fun b1 h1=>?_;replace h1:=qn h1;try simp only [Nb] at h1
 simp only [↓rA,rB,simprocAttr,qCb]
 refine qg _ (qrt _) ?_
 simp only [↓rA,rB,simprocAttr,Tryz.results130]
 exact qa (by simp only [])
def qCa:=(aI (aI Ty.c98 Ty.t173) (aI Ty.t3 (aI Ty.t35 Ty.t9)))
theorem qf3 (v:Val) (h:vX v.n):zc Tryz.prog 131 [.agg (qc5 v)] (qm (ts (Lib.itoa v.n))):=by
 refine Ok.of_ex Ty.mixed Tryz.func131 rfl (by simp [Tryz.ntmps131]) (by kernel_rfl) fun F w0 I0=>?_
 simp only [↓rA,rB,qf,simprocAttr]
 refine fun b1 h1=>?_;replace h1:=qn h1;try simp only [Nb] at h1
 simp only [↓rA,rB,simprocAttr,qCa]
 refine qg _ (yk _ h) ?_
 simp only [↓rA,rB,simprocAttr,Tryz.results131]
 exact qa rfl
def qB9:=(aI (aI Ty.c156 Ty.t173) (aI Ty.t3 (aI Ty.t35 Ty.t9)))
theorem qgl (v:Val) (h0:0≤v.n) (h:v.n≤1152921504606846976):zc Tryz.prog 132 [.agg (qc5 v)] (qm (ts (Ue v.n.toNat))):=by
 obtain⟨k,n,s⟩:=v
 obtain⟨m,rfl⟩:=Int.eq_ofNat_of_zero_le h0
 refine Ok.of_ex Ty.mixed Tryz.func132 rfl (by simp [Tryz.ntmps132]) (by kernel_rfl) fun F w0 I0=>?_
 simp only [↓rA,rB,qf,simprocAttr]
 refine fun b1 h1=>?_;replace h1:=qn h1;try simp only [Nb] at h1
 simp only [↓rA,rB,simprocAttr,qB9]
 refine qg _ (qAx m (by simp only at h;omega)) ?_
 simp only [↓rA,rB,simprocAttr,Tryz.results132]
 exact qa rfl
def qB8:=(aI (aI Ty.t173 Ty.t3) (aI Ty.t35 Ty.t9))
theorem qpu (v:Val) (h:v.s.size≤1000000):zc Tryz.prog 133 [.agg (qc5 v)] (qm (ts (34::(sb v.s++[34])))):=by
 obtain⟨k,n,s⟩:=v
 have hs:s=ts (sb s):=(KS s).symm
 have hl:(sb s).length≤1000000:=by rw [hs,kd] at h;exact h
 generalize sb s=l at *
 subst hs
 refine Ok.of_ex Ty.mixed Tryz.func133 rfl (by simp [Tryz.ntmps133]) (by kernel_rfl) fun F w0 I0=>?_
 simp only [↓rA,rB,qf,simprocAttr]
 refine fun b1 h1=>?_;replace h1:=qn h1;try simp only [Nb] at h1
 simp only [↓rA,rB,simprocAttr,qB8,Tryz.results133]
 refine Ul [34] l (by simp only [List.length_cons,List.length_nil];omega) ?_
 simp only [rB,simprocAttr]
 refine Ul _ [34] (by simp only [List.length_cons,List.length_nil];omega) ?_
 simp only [rB,simprocAttr]
 exact qa rfl
theorem VA {v:Val} (h:xu v=0):v.n≤1152921504606846976∧-1152921504606846976≤v.n∧v.s.size≤64:=by
 unfold xu at h
 split at h
 ·cases h
 split at h
 ·cases h
 split at h
 ·cases h
 split at h
 ·cases h
 rename_i h1 h2 h3 h4
 split at h
 ·cases h
 split at h
 ·cases h
 refine⟨by omega,by omega,?_⟩
 by_cases h5:¬ v.kind=4∧¬ v.kind=5
 ·have:v.s=es0:=Classical.byContradiction fun hn=>h3 ⟨h5.1,h5.2,hn⟩
  rw [this]
  decide
 rw [if_neg h5] at h
 split at h
 ·split at h
  ·cases h
  omega
 ·split at h
  ·cases h
  omega
theorem yX (k:Value):zb [] k=none:=rfl
theorem yY (n:Nat) (a b:Int) (v:V) (r:List Ent):zb ((n,.int .i64 a,v)::r) (.int .i64 b)=if b=a then some v else zb r (.int .i64 b):=by
 have:Xf (.int .i64 b) (.int .i64 a)=decide (b=a):=by simp only [Xf,Value.cells,xx,veq,Bool.and_true,decide_true,Bool.true_and]
 unfold zb
 rw [List.find?_cons,this]
 by_cases h:b=a <;> simp [h]
def KW:=(aI (aI (aI Ty.c129 (aI Ty.c130 Ty.c131)) (aI (aI Ty.c132 Ty.c133) (aI Ty.c134 Ty.c90))) (aI (aI (aI Ty.t173 Ty.t174) (aI Ty.t27 Ty.t3)) (aI (aI Ty.t35 Ty.t4) (aI Ty.t79 Ty.t9))))
theorem qlt (v:Val) (hv:xu v=0) (hp:0≤v.n) (hk:v.kind=1∨v.kind=2∨v.kind=3∨v.kind=4):zc Tryz.prog 95 [.agg (qc5 v)] (qm (ts (Xj v))):=by
 obtain⟨b1,b2,b3⟩:=VA hv
 have hc:=qhv v
 rw [hv] at hc
 have e1:=qg0 v
 have e2:=qf3 v ⟨by omega,by omega⟩
 have e3:=qgl v hp b1
 have e4:=qpu v (by omega)
 have hL:=Le.lits [.int .i64 v.kind,.int .i64 v.n,.string v.s]
 obtain⟨k,n,s⟩:=v
 simp only at hk hL
 refine Ok.of_ex Ty.mixed Tryz.func95 rfl (by simp [Tryz.ntmps95]) (by kernel_rfl) fun F w0 I0=>?_
 simp only [↓rA,rB,qf,simprocAttr]
 refine fun b1 h1=>?_;replace h1:=qn h1;try simp only [Nb] at h1
 simp only [↓rA,rB,simprocAttr,KW]
 refine qg _ hc ?_
 simp only [↓rA,rB,qb,simprocAttr,KW]
 refine fun b3 h3=>?_;replace h3:=qn h3;try simp only [Nb] at h3
 simp only [↓rA,rB,simprocAttr,KW,Tryz.results95]
 refine fun b4 h4=>?_;replace h4:=qn h4;try simp only [Nb] at h4
 rcases hk with rfl | rfl | rfl | rfl
 ·simp only [↓rA,rB,simprocAttr,KW,h3,h4,yX,yY]
  refine vN (.cons hL .nil) _ e1 ?_
  simp only [rB,simprocAttr]
  exact qa rfl
 ·simp only [↓rA,rB,simprocAttr,KW,h3,h4,yX,yY]
  refine vN (.cons hL .nil) _ e2 ?_
  simp only [rB,simprocAttr]
  exact qa rfl
 ·simp only [↓rA,rB,simprocAttr,KW,h3,h4,yX,yY]
  refine vN (.cons hL .nil) _ e3 ?_
  simp only [rB,simprocAttr]
  exact qa rfl
 ·simp only [↓rA,rB,simprocAttr,KW,h3,h4,yX,yY]
  refine vN (.cons hL .nil) _ e4 ?_
  simp only [rB,simprocAttr]
  exact qa rfl
end Go.Proofs.YtohdpcjaoiebkaaGreatDoor
set_option linter.unusedSimpArgs false
set_option maxRecDepth 100000
set_option linter.defProp false
namespace Go.Proofs.YtohdpcjaoiebkaaGreatDoor
open Go.VL Go.Ar Go.Lo Go.Pr Go.Proofs.YtohdpcjaoiebkaaGreatDoor Go.Shelf
theorem jU {n:Int} (h:vX n):(Lib.itoa n).length≤21:=by
 unfold Lib.itoa
 split
 ·have:=Lib.nDigits_le20 n.natAbs (by omega)
  rw [List.length_cons,Lib.decDigits_length];omega
 ·have:=Lib.nDigits_le20 n.toNat (by omega)
  rw [Lib.decDigits_length];omega
theorem qq5 {k:Nat} (b:UInt8):∀ xs:List Bs,(∀ x ∈ xs,x.length≤k)→(Lib.join xs [b]).length≤xs.length * (k+1)
 | [],_=>by rw [show Lib.join [] [b]=[] from rfl];simp
 | x::r,h=>by
  have h1:=h x (.head _)
  have:∀ r:List Bs,(∀ x ∈ r,x.length≤k)→(Lib.joinTail [b] r).length≤r.length * (k+1):=fun r=>by
   induction r with
   | nil=>intro _;simp [Lib.joinTail]
   | cons y r ih =>
    intro h
    have:=ih fun x hx=>h x (.tail _ hx)
    have:=h y (.head _)
    simp only [Lib.joinTail,List.map_cons,List.flatten_cons,List.length_append,List.length_cons,List.length_nil,Nat.succ_mul] at *
    omega
  have:=this r fun x hx=>h x (.tail _ hx)
  rw [Lib.join_cons,List.length_append,List.length_cons,Nat.succ_mul]
  omega
structure qdm (u:List kK):Prop where
 len:u.length≤4
 name:∀ f ∈ u,(sb f.name).length≤24
 exp:∀ f ∈ u,vX f.exp
theorem Yq:∀ {u:List kK} {p:Option Str},vP p u=0→∀ f ∈ u,vX f.exp
 | g::r,p,h,f,hf=>by
  unfold vP at h
  split at h
  ·cases h
  split at h
  ·cases h
  split at h
  ·cases h
  rename_i _ _ h3
  split at h
  ·cases h
  rcases List.mem_cons.1 hf with rfl | hf
  ·simp only [Wv,Bool.or_eq_true,decide_eq_true_eq,not_or] at h3
   exact⟨by omega,by omega⟩
  ·exact Yq h f hf
theorem QL {k:Int} {u:List kK} {of:Str} (h:zT k u of=0):qdm u:=by
 have h2:xI u=0∧ZW u=true:=by
  unfold zT at h
  repeat' split at h
  all_goals first | (cases h;done) | (simp_all;done)
 refine⟨kM h2.1,fun f hf=>?_,fun f hf=>?_⟩
 ·have hn:=List.all_eq_true.1 h2.2 f hf
  unfold qP at hn
  split at hn
  ·cases hn
  split at hn
  ·cases hn
  rename_i h24
  rw [← KS f.name,kd] at h24
  omega
 ·have:=h2.1
  unfold xI at this
  split at this
  ·cases this
  exact Yq this f hf
theorem qrv {f:kK} (h1:(sb f.name).length≤24) (h2:vX f.exp):(facT f).length≤50:=by
 have:=jU h2
 unfold facT
 split <;> simp only [List.length_append,List.length_cons,List.length_nil] <;> omega
theorem WY {u:List kK} (h:qdm u):(qcg u).length≤204:=by
 have:=qq5 (k:=50) 42 (u.map facT) fun x hx=>by
  obtain⟨f,hf,rfl⟩:=List.mem_map.1 hx
  exact qrv (h.name f hf) (h.exp f hf)
 have h4:=h.len
 rw [List.length_map] at this
 unfold qcg
 omega
def XK:=(aI (aI (aI Ty.c128 Ty.c98) (aI Ty.t126 Ty.t3)) (aI (aI Ty.t36 Ty.t4) (aI Ty.t69 Ty.t9)))
theorem qgg (u:List kK) (h:qdm u):zc Tryz.prog 135 [qG u] (qm (ts (qcg u))):=by
 have h4:=h.len
 have hJ:=fun own=>qag own (u.map fun f=>ts (facT f)) ⟨#[42]⟩ (by rw [List.length_map];omega) (by
  have:=WY h
  have e:(u.map fun f=>ts (facT f)).map (fun s=>s.data.toList)=u.map facT:=by rw [List.map_map];rfl
  rw [e]
  exact Nat.le_trans this (by decide))
 have e:(u.map fun f=>ts (facT f)).map (fun s=>s.data.toList)=u.map facT:=by rw [List.map_map];rfl
 simp only [e,List.map_map] at hJ
 refine Ok.of_ex Ty.mixed Tryz.func135 rfl (by simp [Tryz.ntmps135]) (by kernel_rfl) fun F w0 I0=>?_
 simp only [↓rA,rB,simprocAttr,XK,Tryz.results135]
 refine zC.nilRow 3 1 9 (by simp only [rB,simprocAttr]) (by decide) ?_
 refine yr Ty.mixed (by kernel_rfl) u.length (fun i S=>∃ y,S.boxes=[]∧S.σ 3=.list (some y) 1 ((u.take i).map fun f=>[qm (ts (facT f))])∧S.rows=[⟨y,1,9⟩]∧S.σ 7=qG u∧S.σ 8=vint u.length∧S.σ 9=vint i) ⟨0,1,nilv,?_⟩ (fun i S hi ⟨y,gb,g3,gr,g7,g8,g9⟩=>?_) (fun S ⟨y,gb,g3,gr,g7,g8,g9⟩=>?_)
 ·simp only [rB,simprocAttr,List.length_map]
 ·have hwi:=qk (i:=i) (N:=u.length) hi (by omega)
  have hn:=h.name _ (List.getElem_mem hi)
  have he:=h.exp _ (List.getElem_mem hi)
  simp only [↓rA,rB,simprocAttr,XK,gb,gr,g7,g8,g9,Int.ofNat_lt,hi,List.length_map,qd _ _ _ hi]
  refine fun b1 h1=>?_;replace h1:=qn h1;try simp only [Nb] at h1
  simp only [↓rA,rB,simprocAttr,XK,gb]
  have hT:(u.take (i+1)).map (fun f=>[qm (ts (facT f))])=(u.take i).map (fun f=>[qm (ts (facT f))])++[[qm (ts (facT u[i]))]]:=by rw [List.take_succ_eq_append_getElem hi,List.map_append];rfl
  have hl:=jU he
  by_cases h1e:u[i].exp=1
  ·have hF:facT u[i]=sb u[i].name:=by rw [facT,if_pos h1e,List.append_nil]
   simp only [↓rA,rB,simprocAttr,XK,gr,g3,h1e]
   intro y1
   refine xd ?_
   simp only [↓rA,rB,simprocAttr,g7,g8,g9,hwi,List.length_map,List.length_take]
   refine⟨by omega,fun y2=>⟨1,1,y2,?_⟩⟩
   rw [hT,hF,KS]
   exact⟨rfl,rfl,rfl⟩
  ·have hF:facT u[i]=sb u[i].name++94::Lib.itoa u[i].exp:=by rw [facT,if_neg h1e]
   simp only [↓rA,rB,simprocAttr,XK,h1e]
   refine qg _ (yk _ he) ?_
   simp only [↓rA,rB,simprocAttr,XK]
   refine Ul [94] _ (by simp only [List.length_cons,List.length_nil];omega) ?_
   simp only [rB,simprocAttr]
   refine Ul (sb u[i].name) _ (by simp only [List.length_cons];omega) ?_
   simp only [↓rA,rB,simprocAttr,XK,gr,g3]
   intro y1
   refine xd ?_
   simp only [↓rA,rB,simprocAttr,g7,g8,g9,hwi,List.length_map,List.length_take]
   refine⟨by omega,fun y2=>⟨1,1,y2,?_⟩⟩
   rw [hT,hF]
   exact⟨rfl,rfl,rfl⟩
 ·have hJ':=fun own=>hJ own
  simp only [↓rA,rB,simprocAttr,XK,gb,g3,g8,g9,Int.ofNat_lt,Nat.lt_irrefl,List.take_length]
  refine qg _ (hJ _) ?_
  simp only [↓rA,rB,simprocAttr,gr]
  exact qa rfl
theorem zI (own:Option Value) (xs:List Bs) (hN:xs.length≤1000) (hlen:xs.flatten.length≤140737488355328):zc Tryz.prog 94 [.list own 1 (xs.map fun l=>[qm (ts l)])] (qm (ts xs.flatten)):=by
 have e:(xs.map ts).map sb=xs:=by rw [List.map_map];exact List.map_id' _
 have h:=qvb own (xs.map ts) (by rw [List.length_map];exact hN) (by rw [e];exact hlen)
 rw [e,List.map_map] at h
 exact h
def qoc:=(aI (aI (aI Ty.c135 Ty.c94) (aI Ty.t126 Ty.t3)) (aI (aI Ty.t36 Ty.t4) (aI Ty.t69 Ty.t9)))
theorem qt7 (u:List kK) (h:qdm u):zc Tryz.prog 96 [qG u] (qm (ts (wU u))):=by
 by_cases e:u=[]
 ·subst e
  refine Ok.of_ex Ty.mixed Tryz.func96 rfl (by simp [Tryz.ntmps96]) (by kernel_rfl) fun F w0 I0=>?_
  simp only [↓rA,rB,simprocAttr,qoc,Tryz.results96]
  exact qa rfl
 have e':¬ (u.length:Int)=0:=fun e'=>e (List.length_eq_zero_iff.1 (by omega))
 have hl:=WY h
 have h4:=h.len
 refine Ok.of_ex Ty.mixed Tryz.func96 rfl (by simp [Tryz.ntmps96]) (by kernel_rfl) fun F w0 I0=>?_
 simp only [↓rA,rB,simprocAttr,qoc,e',List.length_map]
 refine qg _ (qgg u h) ?_
 simp only [↓rA,rB,simprocAttr,qoc]
 intro y1
 refine qg _ (zI _ [[32,91],qcg u,[93]] (by simp) (by simp only [List.flatten_cons,List.flatten_nil,List.length_append,List.length_cons,List.length_nil];omega)) ?_
 simp only [↓rA,rB,simprocAttr,Tryz.results96]
 refine qa ?_
 unfold wU
 rw [if_neg e]
 rfl
end Go.Proofs.YtohdpcjaoiebkaaGreatDoor
set_option linter.unusedSimpArgs false
set_option maxRecDepth 100000
namespace Go.Proofs.YtohdpcjaoiebkaaGreatDoor
open Go.VL Go.Ar Go.Lo Go.Pr Go.Proofs.YtohdpcjaoiebkaaGreatDoor
theorem qik {i:Nat} {c:UInt8} (h:yR i c=true):Z2 c=true∧(i=0→97≤c):=by
 unfold yR at h
 rw [Bool.or_eq_true,Bool.and_eq_true,Bool.and_eq_true,decide_eq_true_eq,decide_eq_true_eq,decide_eq_true_eq,Bool.or_eq_true,Bool.and_eq_true,decide_eq_true_eq,decide_eq_true_eq,decide_eq_true_eq] at h
 have h97:(97≤c)↔97≤c.toNat:=by rw [UInt8.le_iff_toNat_le];rfl
 have h122:(c≤122)↔c.toNat≤122:=by rw [UInt8.le_iff_toNat_le];rfl
 have h48:(48≤c)↔48≤c.toNat:=by rw [UInt8.le_iff_toNat_le];rfl
 have h57:(c≤57)↔c.toNat≤57:=by rw [UInt8.le_iff_toNat_le];rfl
 have h95:c=95↔c.toNat=95:=⟨fun e=>by rw [e];rfl,fun e=>UInt8.toNat_inj.1 (by rw [e];rfl)⟩
 unfold Z2
 simp only [Bool.or_eq_true,Bool.and_eq_true,decide_eq_true_eq,beq_iff_eq,h97,h122,h48,h57,h95]
 omega
theorem qij:∀ {l:List UInt8} {i:Nat},kR i l=true→∀ c ∈ l,Z2 c=true
 | c::r,i,h,d,hd=>by
  unfold kR at h
  rw [Bool.and_eq_true] at h
  rcases List.mem_cons.1 hd with rfl | hd
  ·exact(qik h.1).1
  ·exact qij h.2 d hd
theorem kIf:ZI ⟨#[105,102]⟩=true:=by decide +kernel
theorem qEf:ZI ⟨#[110,111,116]⟩=true:=by decide +kernel
theorem qDd:ZI ⟨#[110,117,108,108]⟩=true:=by decide +kernel
theorem qDc:ZI ⟨#[116,114,117,101]⟩=true:=by decide +kernel
theorem qAn:ZI ⟨#[102,97,108,115,101]⟩=true:=by decide +kernel
theorem wd {s:Str} (h:qP s=true):Lw (sb s):=by
 unfold qP at h
 split at h
 ·cases h
 rename_i h0
 split at h
 ·cases h
 split at h
 ·cases h
 rename_i hk
 refine⟨?_,qij h,?_,?_,?_,?_,?_⟩
 ·match hs:s.data.toList with
  | []=>exact absurd (xe (t:=es0) (by rw [hs])) h0
  | c::t =>
   rw [hs] at h
   unfold kR at h
   rw [Bool.and_eq_true] at h
   exact⟨c,t,hs,(qik h.1).2 rfl⟩
 ·exact fun e=>hk (by rw [xe (s:=s) (t:=⟨#[105,102]⟩) e];exact kIf)
 ·exact fun e=>hk (by rw [xe (s:=s) (t:=⟨#[110,111,116]⟩) e];exact qEf)
 ·exact fun e=>hk (by rw [xe (s:=s) (t:=⟨#[110,117,108,108]⟩) e];exact qDd)
 ·exact fun e=>hk (by rw [xe (s:=s) (t:=⟨#[116,114,117,101]⟩) e];exact qDc)
 ·exact fun e=>hk (by rw [xe (s:=s) (t:=⟨#[102,97,108,115,101]⟩) e];exact qAn)
theorem kL {k:Int} {u:List kK} {of:Str} (h:zT k u of=0):qdw u:=by
 have hall:ZW u=true:=by
  unfold zT at h
  repeat' split at h
  all_goals first | (cases h;done) | (simp_all;done)
 intro f hf
 have:=wd (List.all_eq_true.1 hall f hf)
 refine⟨this.2.1,?_⟩
 obtain⟨⟨c,t,e,_⟩,_⟩:=this
 rw [e];simp
theorem wD {k:Int} {u:List kK} {of:Str} (h:zT k u of=0):(k=1∧u=[]∧of=es0)∨(k=2∧of=es0)∨(k=3∧of=es0)∨(k=4∧u=[]∧of=es0)∨(k=5∧u=[]∧qP of=true):=by
 unfold zT at h
 split at h
 ·cases h
 split at h
 ·cases h
 split at h
 ·cases h
 rename_i h1 h2 h3
 have hu:¬ (k=2∨k=3)→u=[]:=fun hk=>by
  rcases Nat.eq_zero_or_pos u.length with e | e
  ·exact List.length_eq_zero_iff.1 e
  ·exact absurd ⟨e,hk⟩ h3
 split at h
 ·rename_i h5
  split at h
  ·cases h
  split at h
  ·cases h
  rename_i h6
  exact .inr (.inr (.inr (.inr ⟨h5,hu (by omega),by simpa using h6⟩)))
 ·rename_i h5
  split at h
  ·cases h
  rename_i h6
  have ho:of=es0:=Classical.not_not.1 h6
  have:k=1∨k=2∨k=3∨k=4:=by omega
  rcases this with rfl | rfl | rfl | rfl
  ·exact .inl ⟨rfl,hu (by omega),ho⟩
  ·exact .inr (.inl ⟨rfl,ho⟩)
  ·exact .inr (.inr (.inl ⟨rfl,ho⟩))
  ·exact .inr (.inr (.inr (.inl ⟨rfl,hu (by omega),ho⟩)))
theorem WC {low:Int} {c:UInt8} (h:zM low c=true):c ≠ 34:=by
 rintro rfl
 unfold zM at h
 split at h
 ·cases h
 split at h
 ·cases h
 ·rw [if_pos (by decide)] at h;cases h
theorem Yl {v:Val} (h:xu v=0):(v.kind=1→(v.n=0∨v.n=1)∧v.s=es0)∧(v.kind=2∨v.kind=3→v.s=es0)∧(v.kind=4∨v.kind=5→v.n=0∧(34:UInt8) ∉ sb v.s):=by
 unfold xu at h
 split at h
 ·cases h
 split at h
 ·cases h
 split at h
 ·cases h
 split at h
 ·cases h
 rename_i h1 h2 h3 h4
 split at h
 ·cases h
 split at h
 ·cases h
 refine⟨fun e=>⟨by omega,Classical.byContradiction fun hn=>h3 ⟨by omega,by omega,hn⟩⟩,fun e=>Classical.byContradiction fun hn=>h3 ⟨by omega,by omega,hn⟩,fun e=>⟨by omega,?_⟩⟩
 rw [if_neg (by omega)] at h
 split at h
 ·split at h
  ·cases h
  split at h
  ·cases h
  split at h
  ·rename_i ha
   exact fun hc=>WC (List.all_eq_true.1 ha _ hc) rfl
  ·cases h
 ·split at h
  ·cases h
  split at h
  ·rename_i ha
   exact fun hc=>WC (List.all_eq_true.1 ha _ hc) rfl
  ·cases h
structure Kh (h:Hd):Prop where
 val:xu h.val=0
 pos:0≤h.val.n
 typ:zT h.val.kind h.unit h.name=0
theorem uU:wU []=[]:=rfl
theorem qz9 {h:Hd} (k:Kh h):At (kf h):=by
 obtain⟨v1,v2,v3⟩:=Yl k.val
 have hu:=Za (kL k.typ)
 unfold kf
 rcases wD k.typ with⟨e,u,o⟩ | ⟨e,o⟩ | ⟨e,o⟩ | ⟨e,u,o⟩ | ⟨e,u,o⟩
 ·rw [if_neg (by omega),u,uU,List.append_nil,Xj,if_pos e]
  split
  ·exact .yes
  ·exact .no
 ·rw [if_neg (by omega),Xj,if_neg (by omega),if_pos e]
  refine .num _ _ ?_ hu
  unfold Lib.itoa
  rw [if_neg (by have:=k.pos;omega)]
  exact yz _
 ·rw [if_neg (by omega),Xj,if_neg (by omega),if_neg (by omega),if_pos e]
  obtain⟨d,f,e,hd,hf,_⟩:=vF h.val.n.toNat
  rw [e,List.append_assoc,List.cons_append]
  exact .dec _ _ _ hd hf hu
 ·rw [if_neg (by omega),u,uU,List.append_nil,Xj,if_neg (by omega),if_neg (by omega),if_neg (by omega)]
  exact .text _ (v3 (.inl e)).2
 ·rw [if_pos e]
  exact .key _ _ (wd o) (v3 (.inr e)).2
theorem WP {h:Hd} (k:Kh h):(h.val.kind=1∧h.unit=[]∧h.name=es0∧h.val.s=es0∧((h.val.n=1∧code (kf h)=8)∨(h.val.n=0∧code (kf h)=9))) ∨
  (h.val.kind=2∧h.name=es0∧h.val.s=es0∧kf h=Lib.decDigits h.val.n.toNat++wU h.unit∧code (kf h)=10) ∨
  (h.val.kind=3∧h.name=es0∧h.val.s=es0∧kf h=Ue h.val.n.toNat++wU h.unit∧code (kf h)=11) ∨
  (h.val.kind=4∧h.unit=[]∧h.name=es0∧h.val.n=0∧kf h=34::(sb h.val.s++[34])∧code (kf h)=3) ∨
  (h.val.kind=5∧h.unit=[]∧Lw (sb h.name)∧h.val.n=0∧kf h=64::(sb h.name++(32::34::(sb h.val.s++[34])))∧code (kf h)=4):=by
 obtain⟨v1,v2,v3⟩:=Yl k.val
 have hu:=Za (kL k.typ)
 rcases wD k.typ with⟨e,u,o⟩ | ⟨e,o⟩ | ⟨e,o⟩ | ⟨e,u,o⟩ | ⟨e,u,o⟩
 ·obtain⟨q1,q2⟩:=v1 e
  refine .inl ⟨e,u,o,q2,?_⟩
  have hl:kf h=if h.val.n=1 then yB else wFalse:=by
   unfold kf;rw [if_neg (by omega),u,uU,List.append_nil,Xj,if_pos e]
  rcases q1 with q1 | q1
  ·refine .inr ⟨q1,?_⟩
   rw [hl,if_neg (by omega)]
   have:=ju (r:=0) (w:=[]) .nil
   rwa [List.append_nil] at this
  ·refine .inl ⟨q1,?_⟩
   rw [hl,if_pos q1]
   have:=wm (r:=0) (w:=[]) .nil
   rwa [List.append_nil] at this
 ·have hl:kf h=Lib.decDigits h.val.n.toNat++wU h.unit:=by
   unfold kf;rw [if_neg (by omega),Xj,if_neg (by omega),if_pos e,Lib.itoa,if_neg (by have:=k.pos;omega)]
  refine .inr (.inl ⟨e,o,v2 (.inl e),hl,?_⟩)
  have:=wn (r:=0) (w:=[]) (yz h.val.n.toNat) hu .nil
  rwa [List.append_nil,← hl] at this
 ·have hl:kf h=Ue h.val.n.toNat++wU h.unit:=by
   unfold kf;rw [if_neg (by omega),Xj,if_neg (by omega),if_neg (by omega),if_pos e]
  refine .inr (.inr (.inl ⟨e,o,v2 (.inr e),hl,?_⟩))
  obtain⟨d,f,e2,hd,hf,_⟩:=vF h.val.n.toNat
  have:=wq (d:=d) (f:=f++wU h.unit) (w:=[]) hd
  rw [hl,e2,List.append_assoc,List.cons_append]
  rwa [List.append_nil] at this
 ·have hl:kf h=34::(sb h.val.s++[34]):=by
   unfold kf;rw [if_neg (by omega),u,uU,List.append_nil,Xj,if_neg (by omega),if_neg (by omega),if_neg (by omega)]
  refine .inr (.inr (.inr (.inl ⟨e,u,o,(v3 (.inl e)).1,hl,?_⟩)))
  have:=ki (s:=sb h.val.s++[34]) (w:=[])
  rwa [List.append_nil,← hl] at this
 ·have hl:kf h=64::(sb h.name++(32::34::(sb h.val.s++[34]))):=by
   unfold kf;rw [if_pos e]
  refine .inr (.inr (.inr (.inr ⟨e,u,wd o,(v3 (.inr e)).1,hl,?_⟩)))
  have:=wo (s:=sb h.name++(32::34::(sb h.val.s++[34]))) (w:=[])
  rwa [List.append_nil,← hl] at this
theorem uT {a b:Val} (h1:a.kind=b.kind) (h2:a.n=b.n) (h3:a.s=b.s):a=b:=by
 cases a;cases b;simp only at h1 h2 h3;rw [h1,h2,h3]
theorem qu3 {h g:Hd} (k:Kh h) (l:Kh g) (e:kf h=kf g):h.val=g.val∧h.unit=g.unit∧h.name=g.name:=by
 have ce:code (kf h)=code (kf g):=by rw [e]
 have hu:=Za (kL k.typ)
 have gu:=Za (kL l.typ)
 have hp:=k.pos
 have gp:=l.pos
 rcases WP k with⟨a1,a2,a3,a4,a5⟩ | ⟨a1,a2,a3,a4,a5⟩ | ⟨a1,a2,a3,a4,a5⟩ | ⟨a1,a2,a3,a4,a5,a6⟩ | ⟨a1,a2,a3,a4,a5,a6⟩ <;>
  rcases WP l with⟨b1,b2,b3,b4,b5⟩ | ⟨b1,b2,b3,b4,b5⟩ | ⟨b1,b2,b3,b4,b5⟩ | ⟨b1,b2,b3,b4,b5,b6⟩ | ⟨b1,b2,b3,b4,b5,b6⟩ <;> try omega
 ·exact⟨uT (by omega) (by omega) (by rw [a4,b4]),by rw [a2,b2],by rw [a3,b3]⟩
 ·rw [a4,b4] at e
  obtain⟨q1,q2⟩:=qQ (yz _).w (yz _).w (by have:=Zb hu WD;rwa [List.append_nil] at this) (by have:=Zb gu WD;rwa [List.append_nil] at this) e
  have:=Ud q1
  exact⟨uT (by omega) (by omega) (by rw [a3,b3]),Yp (kL k.typ) (kL l.typ) q2,by rw [a2,b2]⟩
 ·rw [a4,b4] at e
  obtain⟨d,f,e1,hd,hf,hn⟩:=vF h.val.n.toNat
  obtain⟨d',f',e1',hd',hf',hn'⟩:=vF g.val.n.toNat
  rw [e1,e1',List.append_assoc,List.append_assoc] at e
  obtain⟨q1,q2⟩:=qQ hd.w hd'.w (za (by decide)) (za (by decide)) e
  simp only [List.cons.injEq,true_and] at q2
  obtain⟨q3,q4⟩:=qQ hf.w hf'.w (by have:=Zb hu WD;rwa [List.append_nil] at this) (by have:=Zb gu WD;rwa [List.append_nil] at this) q2
  rw [q1,q3,hn'] at hn
  exact⟨uT (by omega) (by omega) (by rw [a3,b3]),Yp (kL k.typ) (kL l.typ) q4,by rw [a2,b2]⟩
 ·rw [a5,b5] at e
  have:=xe (List.append_cancel_right (List.cons.inj e).2)
  exact⟨uT (by omega) (by omega) this,by rw [a2,b2],by rw [a3,b3]⟩
 ·rw [a5,b5] at e
  simp only [List.cons.injEq,true_and] at e
  obtain⟨q1,q2⟩:=qQ a3.2.1 b3.2.1 (za (by decide)) (za (by decide)) e
  simp only [List.cons.injEq,true_and] at q2
  exact⟨uT (by omega) (by omega) (xe (List.append_cancel_right q2)),by rw [a2,b2],xe q1⟩
theorem ye {h:Hd} (k:Kh h) {n:Bs} (hn:Lw n):kf h ≠ n:=fun e=>by
 have hc:=kj (r:=0) (w:=[]) hn .nil
 rw [List.append_nil,← e] at hc
 rcases WP k with⟨_,_,_,_,a5⟩ | ⟨_,_,_,_,a5⟩ | ⟨_,_,_,_,a5⟩ | ⟨_,_,_,_,_,a6⟩ | ⟨_,_,_,_,_,a6⟩ <;> omega
end Go.Proofs.YtohdpcjaoiebkaaGreatDoor
