/- Merged out of my text V16. -/
import Derived.Test.YtohdpcjaoiebkaaGreatDoorKVN
set_option linter.unusedSimpArgs false
set_option linter.unusedVariables false
namespace Go.VL
open Go.RowKit
inductive Dr where
 | f
 | t
 | g (hc:Option Bool)
def qDm:Dr→List (Nat × B)→List (Nat × B)
 | .f,bx=>bx
 | _,_=>[]
theorem qA2 (bx:List (Nat × B)):qDm .f bx=bx:=rfl
inductive It where
 | code (c:Code)
 | blk (id:Nat)
 | sc
 | ops (dr:Dr) (ops:Array Oper) (l:List Oper)
 | stop (K:St→Prop)
def qU (C:Ctx):List It→(Exit→St→Prop)→Exit→St→Prop
 | [],Q=>Q
 | .code c::k,Q=>zZ (fun S=>j5 C c S (qU C k Q)) (qU C k Q)
 | .blk id::k,Q=>Q2 id (qU C k Q)
 | .sc::k,Q=>Ur (qU C k Q)
 | .ops .f ops l::k,Q=>zZ (fun S=>Qv C.P ops (qU C k Q .normal) l S) (qU C k Q)
 | .ops .t ops l::k,Q=>zZ (fun S=>QV C.P ops (fun S'=>Qv C.P ops (qU C k Q .normal) (l.drop (JX l)) S') (l.take (JX l)) S) (qU C k Q)
 | .ops (.g hc) ops l::k,Q=>zZ (fun S=>yW C.P hc ops (qU C k Q .normal) l S) (qU C k Q)
 | .stop K::k,Q=>zZ K (qU C k Q)
def EX (C:Ctx) (k:List It) (S:St) (Q:Exit→St→Prop):Prop:=qU C k Q .normal S
def XI (C:Ctx) (k:List It) (e:Exit) (S:St) (Q:Exit→St→Prop):Prop:=qU C k Q e S
def zK (C:Ctx) (dr:Dr) (ops:Array Oper) (o:Oper) (l:List Oper) (k:List It) (S:St) (Q:Exit→St→Prop):Prop :=
 match dr with
 | .f=>aOp C.P S o fun S'=>EX C (.ops .f ops l::k) S' Q
 | .t=>detG C.P S o fun v=>EX C (.ops .t ops l::k) (S.put o.dst v) Q
 | .g hc=>detG C.P S o fun v=>EX C (.ops (.g hc) ops l::k) (S.put o.dst v) Q
section
variable {C:Ctx} {k:List It} {S:St} {Q:Exit→St→Prop}
theorem qBk:EX C [] S Q=Q .normal S:=qh rfl
theorem z6 (x y:Code):EX C (.code (.seq x y)::k) S Q=EX C (.code x::.code y::k) S Q:=qh rfl
theorem qjd:EX C (.code .skip::k) S Q=EX C k S Q:=qh rfl
theorem qtj (l:Nat):EX C (.code (.label l)::k) S Q=EX C k S Q:=qh rfl
theorem qtp (id:Nat) (c:Code):EX C (.code (.block id c)::k) S Q=EX C (.code c::.blk id::k) S Q:=qh rfl
theorem qBl (id:Nat):EX C (.blk id::k) S Q=EX C k S Q:=qh rfl
theorem qti (c:Code):EX C (.code (.scope c)::k) S Q=EX C (.code c::.sc::k) S Q:=qh rfl
theorem qDx:EX C (.sc::k) S Q=EX C k S Q:=qh rfl
theorem qw6 (K:St→Prop):EX C (.stop K::k) S Q=K S:=qh rfl
theorem qxa (i:Nat):EX C (.code (.exit i)::k) S Q=XI C k (.exit i) S Q:=qh rfl
theorem kU:∀ (k:List It) (S:St),qU C k Q .ret S=Q .ret S
 | [],_=>rfl
 | .code _::k,S=>kU k S
 | .blk _::k,S=>kU k S
 | .sc::k,S=>kU k S
 | .ops .f _ _::k,S=>kU k S
 | .ops .t _ _::k,S=>kU k S
 | .ops (.g _) _ _::k,S=>kU k S
 | .stop _::k,S=>kU k S
theorem qBj:EX C (.code .ret::k) S Q=Q .ret S:=kU k S
theorem qje (c:Operand) (x y:Code):EX C (.code (.cond c x y)::k) S Q=jj (ev S.σ c) (EX C (.code x::k) S Q) (EX C (.code y::k) S Q) .mk .mk:=by
 simp only [EX,qU,zZ,j5,jj]
 rfl
theorem jI (id:Nat) (l:List Oper):EX C (.code (.region id l.toArray false)::k) S Q=EX C (.ops .f l.toArray l::k) S Q:=qh rfl
def QP (m:Nat) (A B B' X D:Prop) (_:zH A) (_:zH B) (_:zH B') (_:zH X) (_:zH D):Prop:=match m with | 0=>A | 1=>B | 2=>B' | 4=>X | _=>D
theorem qp5 (A B B' X D:Prop) (a:zH A) (b:zH B) (b':zH B') (x:zH X) (d:zH D):QP 0 A B B' X D a b b' x d=A:=qh rfl
theorem qp4 (A B B' X D:Prop) (a:zH A) (b:zH B) (b':zH B') (x:zH X) (d:zH D):QP 1 A B B' X D a b b' x d=B:=qh rfl
theorem qp3 (A B B' X D:Prop) (a:zH A) (b:zH B) (b':zH B') (x:zH X) (d:zH D):QP 2 A B B' X D a b b' x d=B':=qh rfl
theorem qp2 (A B B' X D:Prop) (a:zH A) (b:zH B) (b':zH B') (x:zH X) (d:zH D):QP 3 A B B' X D a b b' x d=D:=qh rfl
theorem qp1 (A B B' X D:Prop) (a:zH A) (b:zH B) (b':zH B') (x:zH X) (d:zH D):QP 4 A B B' X D a b b' x d=X:=qh rfl
theorem qfl (j:Nat):uF [] j=0:=qh rfl
theorem qbi (i m j:Nat) (r:List (Nat × Nat)):uF ((i,m)::r) j=if i=j then m else uF r j:=qh rfl
theorem qxb (id:Nat) (l:List Oper):EX C (.code (.region id l.toArray true)::k) S Q=QP (uF C.M id) (EX C (.ops .t l.toArray l::k) S Q) (EX C (.ops (.g none) l.toArray l::k) S Q) (EX C (.ops (.g (some false)) l.toArray l::k) S Q) (EX C (.ops (.g (some true)) l.toArray l::k) S Q) (zC C (.region id l.toArray true) S (qU C k Q)) .mk .mk .mk .mk .mk:=by
 simp only [EX,qU,zZ,j5,QP]
 match uF C.M id with
 | 0 | 1 | 2 | 3 | 4=>rfl
 | n+5=>rfl
theorem UC (g:Operand) (ps:Array Tmp) (a b:Code):EX C (.code (.rangeFunc g ps a b)::k) S Q=zC C (.rangeFunc g ps a b) S (qU C k Q):=qh rfl
theorem qdx (c:Code):EX C (.code (.loop c)::k) S Q=zC C (.loop c) S (qU C k Q):=qh rfl
theorem qBa (e:Exit):XI C [] e S Q=Q e S:=qh rfl
theorem qwu (c:Code) (i:Nat):XI C (.code c::k) (.exit i) S Q=XI C k (.exit i) S Q:=qh rfl
theorem qA9 (dr:Dr) (ops:Array Oper) (l:List Oper) (i:Nat):XI C (.ops dr ops l::k) (.exit i) S Q=XI C k (.exit i) S Q:=qh (by cases dr <;> rfl)
theorem qDo (i:Nat):XI C (.sc::k) (.exit i) S Q=XI C k (.exit i) S Q:=qh rfl
theorem qws (K:St→Prop) (i:Nat):XI C (.stop K::k) (.exit i) S Q=XI C k (.exit i) S Q:=qh rfl
theorem qwt (i:Nat):XI C (.blk i::k) (.exit i) S Q=EX C k S Q:=by simp [XI,qU,Q2,EX]
theorem qs4 (i j:Nat) (h:i ≠ j):XI C (.blk j::k) (.exit i) S Q=XI C k (.exit i) S Q:=by simp [XI,qU,Q2,h]
def QS (ops:Array Oper) (σ:Nat→V) (g:Nat):V:=match (ops[g]?).bind (·.dst) with | some d=>σ d | none=>.any
variable {ops:Array Oper} {l:List Oper} {d:Option Nat} {op:Op} {ty:TypeId} {pos:String} {af:Array Edge}
theorem zA (dr:Dr):EX C (.ops dr ops []::k) S Q=EX C k S Q:=qh (by cases dr <;> rfl)
theorem xm:EX C (.ops .f ops (⟨d,op,ty,pos,af,none⟩::l)::k) S Q=zK C .f ops ⟨d,op,ty,pos,af,none⟩ l k S Q:=qh rfl
theorem uj (g:Nat) (w:Bool) (A B:Prop):(match zS ops S.σ ⟨d,op,ty,pos,af,some (g,w)⟩ with | some true=>A | some false=>B | none=>False)=zP (QS ops S.σ g) w A B .mk .mk:=by
 unfold zS zP QS
 simp only []
 cases (ops[g]?).bind (·.dst) with
 | none=>rfl
 | some t =>
  simp only []
  cases S.σ t with
  | lit x=>simp only [];cases isB x w <;> rfl
  | _=>rfl
theorem qtm (g:Nat) (w:Bool):EX C (.ops .f ops (⟨d,op,ty,pos,af,some (g,w)⟩::l)::k) S Q =
  zP (QS ops S.σ g) w (zK C .f ops ⟨d,op,ty,pos,af,some (g,w)⟩ l k S Q) (EX C (.ops .f ops l::k) (S.put d wA) Q) .mk .mk:=by
 rw [← uj (d:=d) (op:=op) (ty:=ty) (pos:=pos) (af:=af)]
 rfl
theorem qkd {o:Oper} (h:zW o=true):JX (o::l)=JX l+1:=by simp [JX,h]
theorem qke {o:Oper} (h:zW o=false):JX (o::l)=0:=by simp [JX,h]
theorem qjc {o:Oper} (h:zW o=true):EX C (.ops .t ops (o::l)::k) S Q =
  (match zS ops S.σ o with | some true=>zK C .t ops o l k S Q | some false=>EX C (.ops .t ops l::k) (S.put o.dst wA) Q | none=>False):=by
 simp only [EX,qU,zZ,qkd h,List.drop_succ_cons,List.take_succ_cons,QV]
 rfl
theorem jy {o:Oper} (h:zW o=false):EX C (.ops .t ops (o::l)::k) S Q=EX C (.ops .f ops (o::l)::k) S Q:=by
 simp only [EX,qU,zZ,qke h,List.drop_zero,List.take_zero,QV]
theorem qnn (h:zW ⟨d,op,ty,pos,af,none⟩=true):EX C (.ops .t ops (⟨d,op,ty,pos,af,none⟩::l)::k) S Q=zK C .t ops ⟨d,op,ty,pos,af,none⟩ l k S Q:=qjc h
theorem qno (g:Nat) (w:Bool) (h:zW ⟨d,op,ty,pos,af,some (g,w)⟩=true):EX C (.ops .t ops (⟨d,op,ty,pos,af,some (g,w)⟩::l)::k) S Q =
  zP (QS ops S.σ g) w (zK C .t ops ⟨d,op,ty,pos,af,some (g,w)⟩ l k S Q) (EX C (.ops .t ops l::k) (S.put d wA) Q) .mk .mk:=by
 rw [qjc h,← uj (d:=d) (op:=op) (ty:=ty) (pos:=pos) (af:=af)]
variable {gd:Option (Nat × Bool)} (dr:Dr)
theorem qi6 (x:Operand):zK C dr ops ⟨d,.move x,ty,pos,af,gd⟩ l k S Q=QE (qc (ev S.σ x)) fun v=>EX C (.ops dr ops l::k) (S.put d v) Q:=qh (by cases dr <;> rfl)
theorem kp (x:Operand):zK C dr ops ⟨d,.assign x,ty,pos,af,gd⟩ l k S Q=QE (qc (ev S.σ x)) fun v=>EX C (.ops dr ops l::k) (S.put d v) Q:=qh (by cases dr <;> rfl)
theorem qwx (c x y:Operand):zK C dr ops ⟨d,.pick c x y,ty,pos,af,gd⟩ l k S Q=jj (ev S.σ c) (EX C (.ops dr ops l::k) (S.put d (ev S.σ x)) Q) (EX C (.ops dr ops l::k) (S.put d (ev S.σ y)) Q) .mk .mk:=by
 have:∀ K:V→Prop,(match ev S.σ c with | .lit (.bool t)=>K (if t=true then ev S.σ x else ev S.σ y) | _=>False)=jj (ev S.σ c) (K (ev S.σ x)) (K (ev S.σ y)) .mk .mk:=fun K=>by
  unfold jj
  cases ev S.σ c with
  | lit z=>cases z with
   | bool b=>cases b <;> rfl
   | _=>rfl
  | _=>rfl
 cases dr with
 | f=>exact this fun v=>EX C (.ops .f ops l::k) (S.put d v) Q
 | t=>exact this fun v=>EX C (.ops .t ops l::k) (S.put d v) Q
 | g hc=>exact this fun v=>EX C (.ops (.g hc) ops l::k) (S.put d v) Q
theorem KG (t:TypeId) (x:Operand):zK C dr ops ⟨d,.load t x,ty,pos,af,gd⟩ l k S Q=atP S (qc (ev S.σ x)) fun cs=>loadK C.P t cs fun v=>EX C (.ops dr ops l::k) (S.put d v) Q:=qh (by cases dr <;> rfl)
theorem jx (s:TypeId) (x:Operand) (f:Nat):zK C dr ops ⟨d,.fieldAddr s x f,ty,pos,af,gd⟩ l k S Q=fieldAddrK C.P (qDm dr S.boxes) s f (qc (ev S.σ x)) fun v=>EX C (.ops dr ops l::k) (S.put d v) Q:=qh (by cases dr <;> rfl)
theorem qs9 (s:TypeId) (x:Operand) (f:Nat):zK C dr ops ⟨d,.field s x f,ty,pos,af,gd⟩ l k S Q=fieldK C.P s f (qc (ev S.σ x)) fun v=>EX C (.ops dr ops l::k) (S.put d v) Q:=qh (by cases dr <;> rfl)
theorem Uz (t:TypeId) (x i:Operand):zK C dr ops ⟨d,.indexAddr t x i,ty,pos,af,gd⟩ l k S Q=idxAddrK C.P t (qc (ev S.σ x)) (qc (ev S.σ i)) fun v=>EX C (.ops dr ops l::k) (S.put d v) Q:=qh (by cases dr <;> rfl)
theorem qs7 (t:TypeId) (x i:Operand):zK C dr ops ⟨d,.index t x i,ty,pos,af,gd⟩ l k S Q=idxK C.P t (qc (ev S.σ x)) (qc (ev S.σ i)) fun v=>EX C (.ops dr ops l::k) (S.put d v) Q:=qh (by cases dr <;> rfl)
theorem qdr (b:BinOp) (t t':TypeId) (x y:Operand):zK C dr ops ⟨d,.binOp b t x y t',ty,pos,af,gd⟩ l k S Q=binK C.P b t (qc (ev S.σ x)) (qc (ev S.σ y)) fun v=>EX C (.ops dr ops l::k) (S.put d v) Q:=qh (by cases dr <;> rfl)
theorem qwv (b:UnOp) (t:TypeId) (x:Operand):zK C dr ops ⟨d,.unOp b t x,ty,pos,af,gd⟩ l k S Q=unK b (qc (ev S.σ x)) fun v=>EX C (.ops dr ops l::k) (S.put d v) Q:=qh (by cases dr <;> rfl)
theorem qhh (s t:TypeId) (x:Operand):zK C .f ops ⟨d,.convert s t x,ty,pos,af,gd⟩ l k S Q=uL C.P S s t (qc (ev S.σ x)) fun v=>EX C (.ops .f ops l::k) (S.put d v) Q:=qh rfl
theorem qdq (s t:TypeId) (x:Operand):zK C .t ops ⟨d,.convert s t x,ty,pos,af,gd⟩ l k S Q=convK C.P s t (qc (ev S.σ x)) fun v=>EX C (.ops .t ops l::k) (S.put d v) Q:=qh rfl
theorem qdp (hc:Option Bool) (s t:TypeId) (x:Operand):zK C (.g hc) ops ⟨d,.convert s t x,ty,pos,af,gd⟩ l k S Q=convK C.P s t (qc (ev S.σ x)) fun v=>EX C (.ops (.g hc) ops l::k) (S.put d v) Q:=qh rfl
theorem qhg (x:Operand) (i:Nat):zK C dr ops ⟨d,.extract x i,ty,pos,af,gd⟩ l k S Q=YY (qc (ev S.σ x)) fun vs=>qj (qc (vs[i]?)) fun v=>EX C (.ops dr ops l::k) (S.put d v) Q:=by
 have:∀ K:V→Prop,(match ev S.σ x with | .tup vs=>(match vs[i]? with | some v=>K v | none=>False) | _=>False)=YY (ev S.σ x) fun vs=>qj (vs[i]?) K:=fun K=>by
  unfold YY qj
  cases ev S.σ x with
  | tup vs=>simp only [];cases vs[i]? <;> rfl
  | _=>rfl
 cases dr with
 | f=>exact this fun v=>EX C (.ops .f ops l::k) (S.put d v) Q
 | t=>exact this fun v=>EX C (.ops .t ops l::k) (S.put d v) Q
 | g hc=>exact this fun v=>EX C (.ops (.g hc) ops l::k) (S.put d v) Q
theorem qs5 (t:TypeId) (x:Operand) (lo hi mx:Option Operand):zK C dr ops ⟨d,.slice t x lo hi mx,ty,pos,af,gd⟩ l k S Q =
  sliceK C.P t (qc (ev S.σ x)) (qc (lo.map (ev S.σ))) (qc (hi.map (ev S.σ))) (qc (mx.map (ev S.σ))) fun v=>EX C (.ops dr ops l::k) (S.put d v) Q:=qh (by cases dr <;> rfl)
theorem qtd (t:TypeId) (ps:List (Nat × Operand)):zK C dr ops ⟨d,.build t ps.toArray,ty,pos,af,gd⟩ l k S Q =
  qy (qc (qb C.P t=true)) (buildK C.P t (qc (ps.map fun p=>(p.1,ev S.σ p.2))) fun v=>EX C (.ops dr ops l::k) (S.put d v) Q):=qh (by cases dr <;> rfl)
theorem qBb (x:Operand):zK C dr ops ⟨d,.nilCheck x,ty,pos,af,gd⟩ l k S Q=nilK (qc (ev S.σ x)) fun v=>EX C (.ops dr ops l::k) (S.put d v) Q:=qh (by cases dr <;> rfl)
theorem qBe (x:Operand) (t:TypeId):zK C .f ops ⟨d,.call ⟨.builtin .len,#[x],#[t]⟩,ty,pos,af,gd⟩ l k S Q=J4 C.P S t (qc (ev S.σ x)) fun v=>EX C (.ops .f ops l::k) (S.put d v) Q:=qh rfl
theorem qww (x:Operand) (t:TypeId):zK C .t ops ⟨d,.call ⟨.builtin .len,#[x],#[t]⟩,ty,pos,af,gd⟩ l k S Q=lenK C.P t (qc (ev S.σ x)) fun v=>EX C (.ops .t ops l::k) (S.put d v) Q:=qh rfl
theorem qwz {hc:Option Bool} (x:Operand) (t:TypeId):zK C (.g hc) ops ⟨d,.call ⟨.builtin .len,#[x],#[t]⟩,ty,pos,af,gd⟩ l k S Q=lenK C.P t (qc (ev S.σ x)) fun v=>EX C (.ops (.g hc) ops l::k) (S.put d v) Q:=qh rfl
def JZ (mx:Bool) (x y:V) (k:V→Prop):Prop:=xB x fun kk a=>xB y fun _ b=>k (.lit (.int kk (if mx then (if b > a then b else a) else (if b < a then b else a))))
@[congr] theorem qz8 {mx:Bool} {x x' y y':V} {k:V→Prop} (h:qc x=x') (h':qc y=y'):JZ mx (qc x) (qc y) k=JZ mx x' y' k:=by rw [← h,← h']
theorem qqm (kk k2:IntKind) (a b:Int) (k:V→Prop):JZ true (.lit (.int kk a)) (.lit (.int k2 b)) k=k (.lit (.int kk (if b > a then b else a))):=qh rfl
theorem qql (kk k2:IntKind) (a b:Int) (k:V→Prop):JZ false (.lit (.int kk a)) (.lit (.int k2 b)) k=k (.lit (.int kk (if b < a then b else a))):=qh rfl
theorem qBd (x y:Operand) (ts:Array TypeId):zK C dr ops ⟨d,.call ⟨.builtin .max,#[x,y],ts⟩,ty,pos,af,gd⟩ l k S Q=JZ true (qc (ev S.σ x)) (qc (ev S.σ y)) fun v=>EX C (.ops dr ops l::k) (S.put d v) Q:=by
 have:∀ K:V→Prop,(match [ev S.σ x,ev S.σ y] with | [.lit (.int kk x),.lit (.int _ y)]=>K (.lit (.int kk (if y > x then y else x))) | _=>False)=JZ true (ev S.σ x) (ev S.σ y) K:=fun K=>by
  unfold JZ xB
  cases ev S.σ x with
  | lit a=>cases a <;> (first | rfl | (cases ev S.σ y with | lit b=>cases b <;> rfl | _=>rfl))
  | _=>rfl
 cases dr with
 | f=>exact this fun v=>EX C (.ops .f ops l::k) (S.put d v) Q
 | t=>exact this fun v=>EX C (.ops .t ops l::k) (S.put d v) Q
 | g hc=>exact this fun v=>EX C (.ops (.g hc) ops l::k) (S.put d v) Q
theorem qBc (x y:Operand) (ts:Array TypeId):zK C dr ops ⟨d,.call ⟨.builtin .min,#[x,y],ts⟩,ty,pos,af,gd⟩ l k S Q=JZ false (qc (ev S.σ x)) (qc (ev S.σ y)) fun v=>EX C (.ops dr ops l::k) (S.put d v) Q:=by
 have:∀ K:V→Prop,(match [ev S.σ x,ev S.σ y] with | [.lit (.int kk x),.lit (.int _ y)]=>K (.lit (.int kk (if y < x then y else x))) | _=>False)=JZ false (ev S.σ x) (ev S.σ y) K:=fun K=>by
  unfold JZ xB
  cases ev S.σ x with
  | lit a=>cases a <;> (first | rfl | (cases ev S.σ y with | lit b=>cases b <;> rfl | _=>rfl))
  | _=>rfl
 cases dr with
 | f=>exact this fun v=>EX C (.ops .f ops l::k) (S.put d v) Q
 | t=>exact this fun v=>EX C (.ops .t ops l::k) (S.put d v) Q
 | g hc=>exact this fun v=>EX C (.ops (.g hc) ops l::k) (S.put d v) Q
theorem qw1 (f:Operand) (as:List Operand) (ts:Array TypeId):zK C .f ops ⟨d,.call ⟨.value f,as.toArray,ts⟩,ty,pos,af,gd⟩ l k S Q=ja C.P S d (qc (ev S.σ f)) (qc (as.map (ev S.σ))) fun S'=>EX C (.ops .f ops l::k) S' Q:=qh rfl
theorem qs8 {hc:Option Bool} (f:Operand) (as:List Operand) (ts:Array TypeId):zK C (.g hc) ops ⟨d,.call ⟨.value f,as.toArray,ts⟩,ty,pos,af,gd⟩ l k S Q=callK C.P (qc (ev S.σ f)) (qc (as.map (ev S.σ))) fun v=>EX C (.ops (.g hc) ops l::k) (S.put d v) Q:=qh rfl
theorem qtb (f:Operand) (as:List Operand) (ts:Array TypeId):zK C .t ops ⟨d,.call ⟨.value f,as.toArray,ts⟩,ty,pos,af,gd⟩ l k S Q=callK C.P (qc (ev S.σ f)) (qc (as.map (ev S.σ))) fun v=>EX C (.ops .t ops l::k) (S.put d v) Q:=qh rfl
theorem qjj:j6 []=some []:=qh rfl
theorem qjk (v:Value) (r:List V):j6 (.lit v::r)=(j6 r).map (v::·):=qh rfl
theorem qjl (vs r:List V):j6 (.agg vs::r)=((vals vs).map fun l=>Value.agg l.toArray).bind fun x=>(j6 r).map (x::·):=qh rfl
def qcc (fn:Fn) (a b:List V) (k:V→Prop):Prop:=∃ l m,j6 a=some l∧vals b=some m∧k (.lit (.func fn l.toArray m.toArray))
@[congr] theorem qyo {fn:Fn} {a a' b b':List V} {k:V→Prop} (h:qc a=a') (h':qc b=b'):qcc fn (qc a) (qc b) k=qcc fn a' b' k:=by rw [← h,← h']
theorem qrm (fn:Fn) (a b:List V) (k:V→Prop):qcc fn a b k=qj (qc (j6 a)) fun l=>qj (qc (vals b)) fun m=>k (.lit (.func fn l.toArray m.toArray)):=by
 simp only [qcc,qj,qs]
 cases h:j6 a <;> cases h':vals b <;> simp
theorem qdo (fn:Fn) (a b:List Operand):zK C dr ops ⟨d,.makeFunc fn a.toArray b.toArray,ty,pos,af,gd⟩ l k S Q=qcc fn (qc (a.map (ev S.σ))) (qc (b.map (ev S.σ))) fun v=>EX C (.ops dr ops l::k) (S.put d v) Q:=qh (by cases dr <;> rfl)
theorem qte (t:TypeId):zK C .f ops ⟨d,.alloc t,ty,pos,af,gd⟩ l k S Q=ky C.P S d t fun S'=>EX C (.ops .f ops l::k) S' Q:=qh rfl
theorem qBg (t:TypeId) (x:Operand):zK C .f ops ⟨d,.box t x,ty,pos,af,gd⟩ l k S Q=ue S d t (qc (ev S.σ x)) fun S'=>EX C (.ops .f ops l::k) S' Q:=qh rfl
theorem uQ (t:TypeId) (x y:Operand):zK C .f ops ⟨d,.store t x y,ty,pos,af,gd⟩ l k S Q=xO C.P S d t (qc (ev S.σ x)) (qc (ev S.σ y)) fun S'=>EX C (.ops .f ops l::k) S' Q:=qh rfl
theorem Yh (t:TypeId) (n:Nat) (ps:List (Nat × Operand)):zK C .f ops ⟨d,.buildSlice t n ps.toArray,ty,pos,af,gd⟩ l k S Q=ka C.P S d t n (qc (ps.map fun p=>(p.1,ev S.σ p.2))) fun S'=>EX C (.ops .f ops l::k) S' Q:=qh rfl
theorem Jz (t:TypeId) (n:Nat) (ps:List (Nat × Operand)):zK C .t ops ⟨d,.buildSlice t n ps.toArray,ty,pos,af,gd⟩ l k S Q=buildSliceD C.P t n (qc (ps.map fun p=>(p.1,ev S.σ p.2))) fun v=>EX C (.ops .t ops l::k) (S.put d v) Q:=qh rfl
theorem qnf (x y:Operand) (t t':TypeId):zK C .f ops ⟨d,.call ⟨.builtin .append,#[x,y],#[t,t']⟩,ty,pos,af,gd⟩ l k S Q=zi C.P S d t t' (qc (ev S.σ x)) (qc (ev S.σ y)) fun S'=>EX C (.ops .f ops l::k) S' Q:=qh rfl
theorem qtc (x:Operand) (t:TypeId):zK C .f ops ⟨d,.call ⟨.builtin .clear,#[x],#[t]⟩,ty,pos,af,gd⟩ l k S Q=vJ C.P S d t (ev S.σ x) fun S'=>EX C (.ops .f ops l::k) S' Q:=qh rfl
theorem qw0 (x y:Operand) (t t':TypeId):zK C .f ops ⟨d,.call ⟨.builtin .copy,#[x,y],#[t,t']⟩,ty,pos,af,gd⟩ l k S Q=js C.P S d t t' (ev S.σ x) (ev S.σ y) fun S'=>EX C (.ops .f ops l::k) S' Q:=qh rfl
theorem Uy (t:TypeId) (x y:Operand):zK C .f ops ⟨d,.makeSlice t x y,ty,pos,af,gd⟩ l k S Q=zo C.P S d t (qc (ev S.σ x)) (qc (ev S.σ y)) fun S'=>EX C (.ops .f ops l::k) S' Q:=qh rfl
theorem qBf (x:Operand) (t:TypeId):zK C dr ops ⟨d,.call ⟨.builtin .cap,#[x],#[t]⟩,ty,pos,af,gd⟩ l k S Q=capK C.P t (qc (ev S.σ x)) fun v=>EX C (.ops dr ops l::k) (S.put d v) Q:=qh (by cases dr <;> rfl)
theorem JE (t:TypeId) (x y:Operand):EX C (.ops .t ops (⟨d,.makeSlice t x y,ty,pos,af,gd⟩::l)::k) S Q=EX C (.ops .f ops (⟨d,.makeSlice t x y,ty,pos,af,gd⟩::l)::k) S Q:=jy rfl
theorem qnj (as:Array Operand) (ts:Array TypeId):EX C (.ops .t ops (⟨d,.call ⟨.builtin .copy,as,ts⟩,ty,pos,af,gd⟩::l)::k) S Q=EX C (.ops .f ops (⟨d,.call ⟨.builtin .copy,as,ts⟩,ty,pos,af,gd⟩::l)::k) S Q:=jy rfl
theorem qhl (t:TypeId):EX C (.ops .t ops (⟨d,.alloc t,ty,pos,af,gd⟩::l)::k) S Q=EX C (.ops .f ops (⟨d,.alloc t,ty,pos,af,gd⟩::l)::k) S Q:=jy rfl
theorem qtl (t:TypeId) (x:Operand):EX C (.ops .t ops (⟨d,.box t x,ty,pos,af,gd⟩::l)::k) S Q=EX C (.ops .f ops (⟨d,.box t x,ty,pos,af,gd⟩::l)::k) S Q:=jy rfl
theorem qhk (t:TypeId) (x y:Operand):EX C (.ops .t ops (⟨d,.store t x y,ty,pos,af,gd⟩::l)::k) S Q=EX C (.ops .f ops (⟨d,.store t x y,ty,pos,af,gd⟩::l)::k) S Q:=jy rfl
theorem qdz (as:Array Operand) (ts:Array TypeId):EX C (.ops .t ops (⟨d,.call ⟨.builtin .append,as,ts⟩,ty,pos,af,gd⟩::l)::k) S Q=EX C (.ops .f ops (⟨d,.call ⟨.builtin .append,as,ts⟩,ty,pos,af,gd⟩::l)::k) S Q:=jy rfl
theorem qhf (t:TypeId) (r:Option Operand):zK C .f ops ⟨d,.makeMap t r,ty,pos,af,gd⟩ l k S Q=xX C.P S d t (r.map (ev S.σ)) fun S'=>EX C (.ops .f ops l::k) S' Q:=qh rfl
theorem qnc (t:TypeId) (x y:Operand) (ok:Bool):zK C .f ops ⟨d,.lookup t x y ok,ty,pos,af,gd⟩ l k S Q=QG C.P S t (ev S.σ x) (ev S.σ y) ok fun v=>EX C (.ops .f ops l::k) (S.put d v) Q:=qh rfl
theorem Ux (t:TypeId) (x y z:Operand):zK C .f ops ⟨d,.mapUpdate t x y z,ty,pos,af,gd⟩ l k S Q=KO C.P S d t (ev S.σ x) (ev S.σ y) (ev S.σ z) fun S'=>EX C (.ops .f ops l::k) S' Q:=qh rfl
theorem qne (t:TypeId) (x y z:Operand):zK C .f ops ⟨d,.insert t x y z,ty,pos,af,gd⟩ l k S Q=KO C.P S d t (ev S.σ x) (ev S.σ y) (ev S.σ z) fun S'=>EX C (.ops .f ops l::k) S' Q:=qh rfl
theorem XA (t:TypeId) (x:Operand):zK C .f ops ⟨d,.makeInterface t x,ty,pos,af,gd⟩ l k S Q=uI C.P S d t (ev S.σ x) fun S'=>EX C (.ops .f ops l::k) S' Q:=qh rfl
theorem qnd (r:Operand) (n:String) (as:List Operand) (ts:Array TypeId):zK C .f ops ⟨d,.call ⟨.invoke r n,as.toArray,ts⟩,ty,pos,af,gd⟩ l k S Q=J6 C.P S d (qc (ev S.σ r)) n (qc (as.map (ev S.σ))) fun S'=>EX C (.ops .f ops l::k) S' Q:=qh rfl
theorem qdn (t:TypeId) (x y:Operand):zK C .f ops ⟨d,.mapEntry t x y,ty,pos,af,gd⟩ l k S Q=ZG C.P S d t (ev S.σ x) (ev S.σ y) fun S'=>EX C (.ops .f ops l::k) S' Q:=qh rfl
theorem Yg (t:TypeId) (x y z:Operand):zK C .f ops ⟨d,.entryStore t x y z,ty,pos,af,gd⟩ l k S Q=W5 S d (qc (ev S.σ x)) (qc (ev S.σ y)) (qc (ev S.σ z)) fun S'=>EX C (.ops .f ops l::k) S' Q:=qh rfl
theorem qs6 (t:TypeId) (x:Operand):zK C .f ops ⟨d,.range t x,ty,pos,af,gd⟩ l k S Q=vr C.P S d t (ev S.σ x) fun S'=>EX C (.ops .f ops l::k) S' Q:=qh rfl
theorem qwy (x:Operand):zK C .f ops ⟨d,.next x false,ty,pos,af,gd⟩ l k S Q=uE S d (qc (ev S.σ x)) fun S'=>EX C (.ops .f ops l::k) S' Q:=qh rfl
theorem qta (x:Operand):zK C .f ops ⟨d,.entry x,ty,pos,af,gd⟩ l k S Q=jY S (qc (ev S.σ x)) fun v=>EX C (.ops .f ops l::k) (S.put d v) Q:=qh rfl
theorem UD (t:TypeId) (r:Option Operand):EX C (.ops .t ops (⟨d,.makeMap t r,ty,pos,af,gd⟩::l)::k) S Q=EX C (.ops .f ops (⟨d,.makeMap t r,ty,pos,af,gd⟩::l)::k) S Q:=jy rfl
theorem qdy (t:TypeId) (x y:Operand) (ok:Bool):EX C (.ops .t ops (⟨d,.lookup t x y ok,ty,pos,af,gd⟩::l)::k) S Q=EX C (.ops .f ops (⟨d,.lookup t x y ok,ty,pos,af,gd⟩::l)::k) S Q:=jy rfl
theorem JD (t:TypeId) (x y z:Operand):EX C (.ops .t ops (⟨d,.mapUpdate t x y z,ty,pos,af,gd⟩::l)::k) S Q=EX C (.ops .f ops (⟨d,.mapUpdate t x y z,ty,pos,af,gd⟩::l)::k) S Q:=jy rfl
def X3 (hc:Option Bool) (op:Op):Bool:=match hc with
 | none=>true
 | some b=>match op with
  | .call c=>(match c.callee with | .value _=>false | _=>true)
  | .buildSlice _ _ _=>!b
  | _=>true
theorem qac {hc:Option Bool} (h:zW ⟨d,op,ty,pos,af,gd⟩=true) (hn:X3 hc op=true):wa hc ⟨d,op,ty,pos,af,gd⟩=true:=by
 unfold zW at h
 unfold wa
 unfold X3 at hn
 cases op <;> simp only [] at h hn ⊢ <;> try (exact h)
 case call c =>
  cases hcl:c.callee <;> simp only [hcl] at h hn ⊢
  case builtin b=>cases b <;> first | exact h | rfl
  case value f=>cases hc <;> first | rfl | cases hn
  case invoke r n=>cases h
 case buildSlice t n ps =>
  cases hc with
  | none=>rfl
  | some b=>cases b <;> first | rfl | cases hn
theorem qtn {hc:Option Bool} (h:zW ⟨d,op,ty,pos,af,none⟩=true) (hn:hc=none∨X3 hc op=true):EX C (.ops (.g hc) ops (⟨d,op,ty,pos,af,none⟩::l)::k) S Q=zK C (.g hc) ops ⟨d,op,ty,pos,af,none⟩ l k S Q:=by
 have hs:=qac (gd:=none) h (hn.elim (fun e=>by rw [e];rfl) id)
 simp only [EX,qU,zZ,yW,zf,zS,xM,hs,if_true,zK]
theorem qnk {hc:Option Bool} (g:Nat) (w:Bool) (h:zW ⟨d,op,ty,pos,af,some (g,w)⟩=true) (hn:hc=none∨X3 hc op=true):EX C (.ops (.g hc) ops (⟨d,op,ty,pos,af,some (g,w)⟩::l)::k) S Q =
  zP (QS ops S.σ g) w (zK C (.g hc) ops ⟨d,op,ty,pos,af,some (g,w)⟩ l k S Q) (EX C (.ops (.g hc) ops l::k) (S.put d wA) Q) .mk .mk:=by
 have hs:=qac (gd:=some (g,w)) h (hn.elim (fun e=>by rw [e];rfl) id)
 rw [← uj (d:=d) (op:=op) (ty:=ty) (pos:=pos) (af:=af)]
 simp only [EX,qU,zZ,yW,zf,xM,hs,if_true,zK]
 rfl
theorem qhn {hc:Option Bool} (t:TypeId):EX C (.ops (.g hc) ops (⟨d,.alloc t,ty,pos,af,none⟩::l)::k) S Q=ky C.P S d t fun S'=>EX C (.ops (.g hc) ops l::k) S' Q:=by
 simp only [EX,qU,zZ,yW,zf,zS,xM,wa,xC,if_false,Bool.false_eq_true]
theorem qto {hc:Option Bool} (t:TypeId) (x:Operand):EX C (.ops (.g hc) ops (⟨d,.box t x,ty,pos,af,none⟩::l)::k) S Q=ue S d t (qc (ev S.σ x)) fun S'=>EX C (.ops (.g hc) ops l::k) S' Q:=by
 simp only [EX,qU,zZ,yW,zf,zS,xM,wa,xC,if_false,Bool.false_eq_true];rfl
theorem qhm {hc:Option Bool} (t:TypeId) (x y:Operand):EX C (.ops (.g hc) ops (⟨d,.store t x y,ty,pos,af,none⟩::l)::k) S Q=xO C.P S d t (qc (ev S.σ x)) (qc (ev S.σ y)) fun S'=>EX C (.ops (.g hc) ops l::k) S' Q:=by
 simp only [EX,qU,zZ,yW,zf,zS,xM,wa,xC,if_false,Bool.false_eq_true];rfl
theorem qnl {hc:Option Bool} (x y:Operand) (t t':TypeId):EX C (.ops (.g hc) ops (⟨d,.call ⟨.builtin .copy,#[x,y],#[t,t']⟩,ty,pos,af,none⟩::l)::k) S Q=js C.P S d t t' (ev S.σ x) (ev S.σ y) fun S'=>EX C (.ops (.g hc) ops l::k) S' Q:=by
 simp only [EX,qU,zZ,yW,zf,zS,xM,wa,xC,if_false,Bool.false_eq_true]
theorem qd0 {hc:Option Bool} (x y:Operand) (t t':TypeId):EX C (.ops (.g hc) ops (⟨d,.call ⟨.builtin .append,#[x,y],#[t,t']⟩,ty,pos,af,none⟩::l)::k) S Q=qy (qc (t'=t)) (zh C.P S d t (qc (ev S.σ x)) (qc (ev S.σ y)) fun S'=>EX C (.ops (.g hc) ops l::k) S' Q):=by
 simp only [EX,qU,zZ,yW,zf,zS,xM,wa,xC,if_false,Bool.false_eq_true];rfl
@[congr] theorem qy1 {P:Program} {S:St} {d:Option Nat} {f f':V} {as as':List V} {K:St→Prop} (h:qc f=f') (h':qc as=as'):uM P S d (qc f) (qc as) K=uM P S d f' as' K:=by rw [← h,← h']
theorem qnm (f:Operand) (as:List Operand) (ts:Array TypeId):EX C (.ops (.g (some false)) ops (⟨d,.call ⟨.value f,as.toArray,ts⟩,ty,pos,af,none⟩::l)::k) S Q=uM C.P S d (qc (ev S.σ f)) (qc (as.map (ev S.σ))) fun S'=>EX C (.ops (.g (some false)) ops l::k) S' Q:=by
 simp only [EX,qU,zZ,yW,zf,zS,xM,wa,xC,if_false,Bool.false_eq_true,Option.isNone_some];rfl
@[congr] theorem qy0 {P:Program} {S:St} {d:Option Nat} {f f':V} {as as':List V} {K:St→Prop} (h:qc f=f') (h':qc as=as'):vZ P S d (qc f) (qc as) K=vZ P S d f' as' K:=by rw [← h,← h']
theorem qni (f:Operand) (as:List Operand) (ts:Array TypeId):EX C (.ops (.g (some true)) ops (⟨d,.call ⟨.value f,as.toArray,ts⟩,ty,pos,af,none⟩::l)::k) S Q=vZ C.P S d (qc (ev S.σ f)) (qc (as.map (ev S.σ))) fun S'=>EX C (.ops (.g (some true)) ops l::k) S' Q:=by
 simp only [EX,qU,zZ,yW,zf,zS,xM,wa,xC,if_false,Bool.false_eq_true,Option.isNone_some];rfl
theorem qgr (P:Program) (S:St) (d:Option Nat) (g:FuncId) (first cap:Array Value) (as:List V) (K:St→Prop):vZ P S d (.lit (.func (.func g) first cap)) as K =
  qy (qc (ql P g=true)) (OkF P g (first.toList.map .lit++as++cap.toList.map .lit) S.boxes (fun v bs rs=>K (((S.setBoxes bs).setRows (rs++S.rows)).put d v)) .mk):=qh rfl
theorem qc3 (P:Program) (S:St) (d:Option Nat) (l:Nat) (first cap:Array Value) (as:List V) (K:St→Prop):vZ P S d (.lit (.func (.yield l) first cap)) as K =
  qBh P l (first.toList.map .lit++as) S.boxes (fun v bs rs=>K (((S.setBoxes bs).setRows (rs++S.rows)).put d v)) .mk:=qh rfl
theorem Kt (t:TypeId) (n:Nat) (ps:List (Nat × Operand)):EX C (.ops (.g (some true)) ops (⟨d,.buildSlice t n ps.toArray,ty,pos,af,none⟩::l)::k) S Q=qI C.P S d t n (ps.map fun p=>(p.1,ev S.σ p.2)) fun S'=>EX C (.ops (.g (some true)) ops l::k) S' Q:=by
 simp only [EX,qU,zZ,yW,zf,zS,xM,wa,xC,if_false,Bool.false_eq_true]
def OkR (P:Program) (f:FuncId) (zs:List V) (Q:V→List Row→Prop) (_:zH Q):Prop:=Ok P f zs [] fun v bs rs=>bs=[]∧Q v rs
theorem qgs (P:Program) (S:St) (d:Option Nat) (g:FuncId) (first cap:Array Value) (as:List V) (K:St→Prop):uM P S d (.lit (.func (.func g) first cap)) as K =
  qy (qc (ql P g=true)) (OkR P g (first.toList.map .lit++as++cap.toList.map .lit) (fun v rs=>K ((S.setRows (rs++S.rows)).put d v)) .mk):=qh rfl
theorem wu {P:Program} {g:FuncId} {zs:List V} {Q:V→List Row→Prop} {p:zH Q} {Q0:V→List (Nat × B)→List Row→Prop} (h:Ok P g zs [] Q0) (hk:∀ v bs rs,Q0 v bs rs→bs=[]∧Q v rs):OkR P g zs Q p :=
 Ok.mono h hk
end
theorem qjy {d:Option Nat} {ty:TypeId} {pos:String} {af:Array Edge} {gd:Option (Nat × Bool)} (x:Operand):zW ⟨d,.move x,ty,pos,af,gd⟩=true:=qh rfl
theorem qab {d:Option Nat} {ty:TypeId} {pos:String} {af:Array Edge} {gd:Option (Nat × Bool)} (x:Operand):zW ⟨d,.assign x,ty,pos,af,gd⟩=true:=qh rfl
theorem qjx {d:Option Nat} {ty:TypeId} {pos:String} {af:Array Edge} {gd:Option (Nat × Bool)} (c x y:Operand):zW ⟨d,.pick c x y,ty,pos,af,gd⟩=true:=qh rfl
theorem qjz {d:Option Nat} {ty:TypeId} {pos:String} {af:Array Edge} {gd:Option (Nat × Bool)} (t:TypeId) (x:Operand):zW ⟨d,.load t x,ty,pos,af,gd⟩=true:=qh rfl
theorem Wg {d:Option Nat} {ty:TypeId} {pos:String} {af:Array Edge} {gd:Option (Nat × Bool)} (t:TypeId) (x:Operand) (i:Nat):zW ⟨d,.fieldAddr t x i,ty,pos,af,gd⟩=true:=qh rfl
theorem qeh {d:Option Nat} {ty:TypeId} {pos:String} {af:Array Edge} {gd:Option (Nat × Bool)} (t:TypeId) (x:Operand) (i:Nat):zW ⟨d,.field t x i,ty,pos,af,gd⟩=true:=qh rfl
theorem We {d:Option Nat} {ty:TypeId} {pos:String} {af:Array Edge} {gd:Option (Nat × Bool)} (t:TypeId) (x y:Operand):zW ⟨d,.indexAddr t x y,ty,pos,af,gd⟩=true:=qh rfl
theorem qeg {d:Option Nat} {ty:TypeId} {pos:String} {af:Array Edge} {gd:Option (Nat × Bool)} (t:TypeId) (x y:Operand):zW ⟨d,.index t x y,ty,pos,af,gd⟩=true:=qh rfl
theorem qek {d:Option Nat} {ty:TypeId} {pos:String} {af:Array Edge} {gd:Option (Nat × Bool)} (b:BinOp) (t t2:TypeId) (x y:Operand):zW ⟨d,.binOp b t x y t2,ty,pos,af,gd⟩=true:=qh rfl
theorem qjw {d:Option Nat} {ty:TypeId} {pos:String} {af:Array Edge} {gd:Option (Nat × Bool)} (b:UnOp) (t:TypeId) (x:Operand):zW ⟨d,.unOp b t x,ty,pos,af,gd⟩=true:=qh rfl
theorem VJ {d:Option Nat} {ty:TypeId} {pos:String} {af:Array Edge} {gd:Option (Nat × Bool)} (t t2:TypeId) (x:Operand):zW ⟨d,.convert t t2 x,ty,pos,af,gd⟩=true:=qh rfl
theorem VI {d:Option Nat} {ty:TypeId} {pos:String} {af:Array Edge} {gd:Option (Nat × Bool)} (x:Operand) (i:Nat):zW ⟨d,.extract x i,ty,pos,af,gd⟩=true:=qh rfl
theorem qef {d:Option Nat} {ty:TypeId} {pos:String} {af:Array Edge} {gd:Option (Nat × Bool)} (t:TypeId) (x:Operand) (a b c:Option Operand):zW ⟨d,.slice t x a b c,ty,pos,af,gd⟩=true:=qh rfl
theorem qej {d:Option Nat} {ty:TypeId} {pos:String} {af:Array Edge} {gd:Option (Nat × Bool)} (t:TypeId) (ps:Array (Nat × Operand)):zW ⟨d,.build t ps,ty,pos,af,gd⟩=true:=qh rfl
theorem qpa {d:Option Nat} {ty:TypeId} {pos:String} {af:Array Edge} {gd:Option (Nat × Bool)} (x:Operand):zW ⟨d,.nilCheck x,ty,pos,af,gd⟩=true:=qh rfl
theorem Kl {d:Option Nat} {ty:TypeId} {pos:String} {af:Array Edge} {gd:Option (Nat × Bool)} (t:TypeId) (n:Nat) (ps:Array (Nat × Operand)):zW ⟨d,.buildSlice t n ps,ty,pos,af,gd⟩=true:=qh rfl
theorem JN {d:Option Nat} {ty:TypeId} {pos:String} {af:Array Edge} {gd:Option (Nat × Bool)} (fn:Fn) (a b:Array Operand):zW ⟨d,.makeFunc fn a b,ty,pos,af,gd⟩=true:=qh rfl
theorem qei {d:Option Nat} {ty:TypeId} {pos:String} {af:Array Edge} {gd:Option (Nat × Bool)} (f:Operand) (as:Array Operand) (ts:Array TypeId):zW ⟨d,.call ⟨.value f,as,ts⟩,ty,pos,af,gd⟩=true:=qh rfl
theorem qpd {d:Option Nat} {ty:TypeId} {pos:String} {af:Array Edge} {gd:Option (Nat × Bool)} (as:Array Operand) (ts:Array TypeId):zW ⟨d,.call ⟨.builtin .len,as,ts⟩,ty,pos,af,gd⟩=true:=qh rfl
theorem qpe {d:Option Nat} {ty:TypeId} {pos:String} {af:Array Edge} {gd:Option (Nat × Bool)} (as:Array Operand) (ts:Array TypeId):zW ⟨d,.call ⟨.builtin .cap,as,ts⟩,ty,pos,af,gd⟩=true:=qh rfl
theorem qpc {d:Option Nat} {ty:TypeId} {pos:String} {af:Array Edge} {gd:Option (Nat × Bool)} (as:Array Operand) (ts:Array TypeId):zW ⟨d,.call ⟨.builtin .max,as,ts⟩,ty,pos,af,gd⟩=true:=qh rfl
theorem qpb {d:Option Nat} {ty:TypeId} {pos:String} {af:Array Edge} {gd:Option (Nat × Bool)} (as:Array Operand) (ts:Array TypeId):zW ⟨d,.call ⟨.builtin .min,as,ts⟩,ty,pos,af,gd⟩=true:=qh rfl
theorem uz (S:St) (d:Nat) (v:V):(S.put (some d) v).σ d=v:=by simp [St.put,JJ]
theorem Wm (S:St) (d i:Nat) (v:V) (h:d ≠ i):(S.put (some d) v).σ i=S.σ i:=by simp [St.put,JJ,h]
theorem uy (S:St) (v:V):S.put none v=S:=qh rfl
theorem jC (S:St) (d:Option Nat) (v:V):(S.put d v).boxes=S.boxes:=qh rfl
theorem qaw (S:St) (d:Option Nat) (v:V):(S.put d v).rows=S.rows:=qh rfl
theorem vf (S:St) (b:Nat) (cs:List V):(S.addBox b cs).σ=S.σ:=qh rfl
theorem ko (S:St) (b:Nat) (cs:List V):(S.addBox b cs).boxes=(b,.c cs)::S.boxes:=qh rfl
theorem qdl (S:St) (b:Nat) (cs:List V):(S.addBox b cs).rows=S.rows:=qh rfl
theorem qna (S:St) (r:Row):(S.addRow r).σ=S.σ:=qh rfl
theorem Uu (S:St) (r:Row):(S.addRow r).boxes=S.boxes:=qh rfl
theorem qdk (S:St) (r:Row):(S.addRow r).rows=r::S.rows:=qh rfl
theorem uw (S:St) (bs:List (Nat × B)):(S.setBoxes bs).σ=S.σ:=qh rfl
theorem jP (S:St) (bs:List (Nat × B)):(S.setBoxes bs).boxes=bs:=qh rfl
theorem JT (S:St) (bs:List (Nat × B)):(S.setBoxes bs).rows=S.rows:=qh rfl
theorem qen (S:St) (rs:List Row):(S.setRows rs).σ=S.σ:=qh rfl
theorem JS (S:St) (rs:List Row):(S.setRows rs).boxes=S.boxes:=qh rfl
theorem VN (S:St) (rs:List Row):(S.setRows rs).rows=rs:=qh rfl
theorem qDr (args:List V) (bs:List (Nat × B)) (i:Nat):(S0 args bs).σ i=args.getD i .any:=qh rfl
theorem vg (args:List V) (bs:List (Nat × B)):(S0 args bs).boxes=bs:=qh rfl
theorem qw2 (args:List V) (bs:List (Nat × B)):(S0 args bs).rows=[]:=qh rfl
theorem uK (σ:Nat→V) (t:Tmp):ev σ (.tmp t)=σ t:=qh rfl
theorem wh (σ:Nat→V) (v:Value):ev σ (.const v)=.lit v:=qh rfl
theorem ql1 (σ:Nat→V) (g:Nat):ev σ (.global g)=gvL qir g:=qh rfl
theorem qvm (g:Nat):gvL [] g=.lit (.pointer (some ⟨g,0,none⟩)):=qh rfl
theorem qrf (a:Nat) (vs:List V) (r:List (Nat × List V)) (g:Nat):gvL ((a,vs)::r) g=if a=g then .ref vs else gvL r g:=qh rfl
theorem qrj:qir=globsV:=qh rfl
theorem qvx (σ:Nat→V) (f:FuncId):ev σ (.func f)=.lit (.func (.func f) #[] #[]):=qh rfl
theorem qlj (ops:List Oper) (σ:Nat→V) (g:Nat):QS ops.toArray σ g=match (ops[g]?).bind (·.dst) with | some d=>σ d | none=>.any:=by simp [QS]
theorem jF (b:Nat) (cs:List V) (r:List (Nat × B)):zu ((b,.c cs)::r) b=some cs:=by simp [zu]
theorem QT (b b':Nat) (x:B) (r:List (Nat × B)) (h:b' ≠ b):zu ((b,x)::r) b'=zu r b':=by cases x <;> simp [zu,h]
theorem yI (b:Nat) (x:B) (ds:List V) (r:List (Nat × B)):xV ((b,x)::r) b ds=(b,.c ds)::r:=by simp [xV]
theorem qeo (b b':Nat) (x:B) (ds:List V) (r:List (Nat × B)) (h:b' ≠ b):xV ((b,x)::r) b' ds=(b,x)::xV r b' ds:=by simp [xV,h]
theorem Ok.of_exM (M:List (Nat × Nat)) {P:Program} {f:FuncId} {fn:Func} {c:Code} {args:List V} {bs:List (Nat × B)} {Q:V→List (Nat × B)→List Row→Prop} (hm:P.follows .mixedOrders=true) (hf:P.funcs[f]? = some fn) (hb:fn.body=some c)
  (hn:args.length≤fn.ntmps) (hk:z1 fn.ntmps M c=true) (h:∀ F w0 I0,EX { P:=P,N:=fn.ntmps,F:=F,w0:=w0,I0:=I0,M:=M } [.code c] (S0 args bs) (qpo P fn.results.toList Q)):Ok P f args bs Q :=
 Ok.of_body M hm hf hb hn hk h
theorem Ok.of_ex {P:Program} {f:FuncId} {fn:Func} {c:Code} {args:List V} {bs:List (Nat × B)} {Q:V→List (Nat × B)→List Row→Prop} (hm:P.follows .mixedOrders=true) (hf:P.funcs[f]? = some fn) (hb:fn.body=some c)
  (hn:args.length≤fn.ntmps) (hk:z1 fn.ntmps [] c=true) (h:∀ F w0 I0,EX { P:=P,N:=fn.ntmps,F:=F,w0:=w0,I0:=I0,M:=[] } [.code c] (S0 args bs) (qpo P fn.results.toList Q)):Ok P f args bs Q :=
 Ok.of_exM [] hm hf hb hn hk h
theorem qpq (P:Program) (S:St) (k:List V→Prop):JU P S [] k=k []:=qh rfl
theorem qpp (P:Program) (S:St) (t:Tmp) (r:List ResultVar) (k:List V→Prop):JU P S (.tmp t::r) k=JU P S r fun l=>k (S.σ t::l):=qh rfl
theorem qj9 (P:Program) (S:St) (t:Tmp) (T:TypeId) (r:List ResultVar) (k:List V→Prop):JU P S (.cell t T::r) k=atP S (qc (S.σ t)) fun cs=>loadK P T cs fun v=>JU P S r fun l=>k (v::l):=qh rfl
theorem qpn (P:Program) (rs:List ResultVar) (Q:V→List (Nat × B)→List Row→Prop) (S:St):qpo P rs Q .ret S=qes P rs Q S:=qh rfl
theorem qar (P:Program) (rs:List ResultVar) (Q:V→List (Nat × B)→List Row→Prop) (S:St):qpo P rs Q .normal S=qes P rs Q S:=qh rfl
end Go.VL
