/- Merged out of my text V16. -/
import Derived.Test.YtopfanlkbepemaaGreatKVN
namespace Go.VL
open Go.RowKit
inductive Dr where
 | f
 | t
 | g (hc:Option Bool)
inductive It where
 | code (c:Code)
 | blk (id:Nat)
 | sc
 | ops (dr:Dr) (ops:Array Oper) (l:List Oper)
 | stop (K:St→Prop)
def contQ (C:Ctx):List It→(Exit→St→Prop)→Exit→St→Prop
 | [],Q=>Q
 | .code c::k,Q=>athen (fun S=>cwp C c S (contQ C k Q)) (contQ C k Q)
 | .blk id::k,Q=>ablock id (contQ C k Q)
 | .sc::k,Q=>anoGoto (contQ C k Q)
 | .ops .f ops l::k,Q=>athen (fun S=>aOps C.P ops (contQ C k Q .normal) l S) (contQ C k Q)
 | .ops .t ops l::k,Q=>athen (fun S=>dOps C.P ops (fun S'=>aOps C.P ops (contQ C k Q .normal) (l.drop (preN l)) S') (l.take (preN l)) S) (contQ C k Q)
 | .ops (.g hc) ops l::k,Q=>athen (fun S=>gSeq C.P hc ops (contQ C k Q .normal) l S) (contQ C k Q)
 | .stop K::k,Q=>athen K (contQ C k Q)
def EX (C:Ctx) (k:List It) (S:St) (Q:Exit→St→Prop):Prop:=contQ C k Q .normal S
def XI (C:Ctx) (k:List It) (e:Exit) (S:St) (Q:Exit→St→Prop):Prop:=contQ C k Q e S
def STEP (C:Ctx) (dr:Dr) (ops:Array Oper) (o:Oper) (l:List Oper) (k:List It) (S:St) (Q:Exit→St→Prop):Prop :=
 match dr with
 | .f=>aOp C.P S o fun S'=>EX C (.ops .f ops l::k) S' Q
 | .t=>detG C.P S o fun v=>EX C (.ops .t ops l::k) (S.put o.dst v) Q
 | .g hc=>detG C.P S o fun v=>EX C (.ops (.g hc) ops l::k) (S.put o.dst v) Q
section
variable {C:Ctx} {k:List It} {S:St} {Q:Exit→St→Prop}
theorem EX_end:EX C [] S Q=Q .normal S:=eqq rfl
theorem EX_seq (x y:Code):EX C (.code (.seq x y)::k) S Q=EX C (.code x::.code y::k) S Q:=eqq rfl
theorem EX_skip:EX C (.code .skip::k) S Q=EX C k S Q:=eqq rfl
theorem EX_label (l:Nat):EX C (.code (.label l)::k) S Q=EX C k S Q:=eqq rfl
theorem EX_block (id:Nat) (c:Code):EX C (.code (.block id c)::k) S Q=EX C (.code c::.blk id::k) S Q:=eqq rfl
theorem EX_blk (id:Nat):EX C (.blk id::k) S Q=EX C k S Q:=eqq rfl
theorem EX_scope (c:Code):EX C (.code (.scope c)::k) S Q=EX C (.code c::.sc::k) S Q:=eqq rfl
theorem EX_sc:EX C (.sc::k) S Q=EX C k S Q:=eqq rfl
theorem EX_stop (K:St→Prop):EX C (.stop K::k) S Q=K S:=eqq rfl
theorem EX_exit (i:Nat):EX C (.code (.exit i)::k) S Q=XI C k (.exit i) S Q:=eqq rfl
theorem contQ_ret:∀ (k:List It) (S:St),contQ C k Q .ret S=Q .ret S
 | [],_=>rfl
 | .code _::k,S=>contQ_ret k S
 | .blk _::k,S=>contQ_ret k S
 | .sc::k,S=>contQ_ret k S
 | .ops .f _ _::k,S=>contQ_ret k S
 | .ops .t _ _::k,S=>contQ_ret k S
 | .ops (.g _) _ _::k,S=>contQ_ret k S
 | .stop _::k,S=>contQ_ret k S
theorem EX_ret:EX C (.code .ret::k) S Q=Q .ret S:=contQ_ret k S
theorem EX_cond (c:Operand) (x y:Code):EX C (.code (.cond c x y)::k) S Q=onCond (ev S.σ c) (EX C (.code x::k) S Q) (EX C (.code y::k) S Q) .mk .mk:=by
 simp only [EX,contQ,athen,cwp,onCond]
 rfl
theorem EX_region (id:Nat) (l:List Oper):EX C (.code (.region id l.toArray false)::k) S Q=EX C (.ops .f l.toArray l::k) S Q:=eqq rfl
def onMode (m:Nat) (A B B' X D:Prop) (_:Fix A) (_:Fix B) (_:Fix B') (_:Fix X) (_:Fix D):Prop:=match m with | 0=>A | 1=>B | 2=>B' | 4=>X | _=>D
theorem onMode_0 (A B B' X D:Prop) (a:Fix A) (b:Fix B) (b':Fix B') (x:Fix X) (d:Fix D):onMode 0 A B B' X D a b b' x d=A:=eqq rfl
theorem onMode_1 (A B B' X D:Prop) (a:Fix A) (b:Fix B) (b':Fix B') (x:Fix X) (d:Fix D):onMode 1 A B B' X D a b b' x d=B:=eqq rfl
theorem onMode_2 (A B B' X D:Prop) (a:Fix A) (b:Fix B) (b':Fix B') (x:Fix X) (d:Fix D):onMode 2 A B B' X D a b b' x d=B':=eqq rfl
theorem onMode_3 (A B B' X D:Prop) (a:Fix A) (b:Fix B) (b':Fix B') (x:Fix X) (d:Fix D):onMode 3 A B B' X D a b b' x d=D:=eqq rfl
theorem onMode_4 (A B B' X D:Prop) (a:Fix A) (b:Fix B) (b':Fix B') (x:Fix X) (d:Fix D):onMode 4 A B B' X D a b b' x d=X:=eqq rfl
theorem modeOf_nil (j:Nat):modeOf [] j=0:=eqq rfl
theorem modeOf_cons (i m j:Nat) (r:List (Nat × Nat)):modeOf ((i,m)::r) j=if i=j then m else modeOf r j:=eqq rfl
theorem EX_draw (id:Nat) (l:List Oper):EX C (.code (.region id l.toArray true)::k) S Q=onMode (modeOf C.M id) (EX C (.ops .t l.toArray l::k) S Q) (EX C (.ops (.g none) l.toArray l::k) S Q) (EX C (.ops (.g (some false)) l.toArray l::k) S Q) (EX C (.ops (.g (some true)) l.toArray l::k) S Q) (AWP C (.region id l.toArray true) S (contQ C k Q)) .mk .mk .mk .mk .mk:=by
 simp only [EX,contQ,athen,cwp,onMode]
 match modeOf C.M id with
 | 0 | 1 | 2 | 3 | 4=>rfl
 | n+5=>rfl
theorem EX_rangeleaf (g:Operand) (ps:Array Tmp) (a b:Code):EX C (.code (.rangeFunc g ps a b)::k) S Q=AWP C (.rangeFunc g ps a b) S (contQ C k Q):=eqq rfl
theorem EX_loopleaf (c:Code):EX C (.code (.loop c)::k) S Q=AWP C (.loop c) S (contQ C k Q):=eqq rfl
theorem XI_end (e:Exit):XI C [] e S Q=Q e S:=eqq rfl
theorem XI_code (c:Code) (i:Nat):XI C (.code c::k) (.exit i) S Q=XI C k (.exit i) S Q:=eqq rfl
theorem XI_ops (dr:Dr) (ops:Array Oper) (l:List Oper) (i:Nat):XI C (.ops dr ops l::k) (.exit i) S Q=XI C k (.exit i) S Q:=eqq (by cases dr <;> rfl)
theorem XI_sc (i:Nat):XI C (.sc::k) (.exit i) S Q=XI C k (.exit i) S Q:=eqq rfl
theorem XI_stop (K:St→Prop) (i:Nat):XI C (.stop K::k) (.exit i) S Q=XI C k (.exit i) S Q:=eqq rfl
theorem XI_same (i:Nat):XI C (.blk i::k) (.exit i) S Q=EX C k S Q:=by simp [XI,contQ,ablock,EX]
theorem XI_other (i j:Nat) (h:i ≠ j):XI C (.blk j::k) (.exit i) S Q=XI C k (.exit i) S Q:=by simp [XI,contQ,ablock,h]
def guardV (ops:Array Oper) (σ:Nat→V) (g:Nat):V:=match (ops[g]?).bind (·.dst) with | some d=>σ d | none=>.any
variable {ops:Array Oper} {l:List Oper} {d:Option Nat} {op:Op} {ty:TypeId} {pos:String} {af:Array Edge}
theorem EX_ops_nil (dr:Dr):EX C (.ops dr ops []::k) S Q=EX C k S Q:=eqq (by cases dr <;> rfl)
theorem EX_plain:EX C (.ops .f ops (⟨d,op,ty,pos,af,none⟩::l)::k) S Q=STEP C .f ops ⟨d,op,ty,pos,af,none⟩ l k S Q:=eqq rfl
theorem wantA_guard (g:Nat) (w:Bool) (A B:Prop):(match wantA ops S.σ ⟨d,op,ty,pos,af,some (g,w)⟩ with | some true=>A | some false=>B | none=>False)=onGuard (guardV ops S.σ g) w A B .mk .mk:=by
 unfold wantA onGuard guardV
 simp only []
 cases (ops[g]?).bind (·.dst) with
 | none=>rfl
 | some t =>
  simp only []
  cases S.σ t with
  | lit x=>simp only [];cases isB x w <;> rfl
  | _=>rfl
theorem EX_guard (g:Nat) (w:Bool):EX C (.ops .f ops (⟨d,op,ty,pos,af,some (g,w)⟩::l)::k) S Q =
  onGuard (guardV ops S.σ g) w (STEP C .f ops ⟨d,op,ty,pos,af,some (g,w)⟩ l k S Q) (EX C (.ops .f ops l::k) (S.put d skipV) Q) .mk .mk:=by
 rw [← wantA_guard (d:=d) (op:=op) (ty:=ty) (pos:=pos) (af:=af)]
 rfl
theorem preN_soft {o:Oper} (h:softB o=true):preN (o::l)=preN l+1:=by simp [preN,h]
theorem preN_hard {o:Oper} (h:softB o=false):preN (o::l)=0:=by simp [preN,h]
theorem EX_soft {o:Oper} (h:softB o=true):EX C (.ops .t ops (o::l)::k) S Q =
  (match wantA ops S.σ o with | some true=>STEP C .t ops o l k S Q | some false=>EX C (.ops .t ops l::k) (S.put o.dst skipV) Q | none=>False):=by
 simp only [EX,contQ,athen,preN_soft h,List.drop_succ_cons,List.take_succ_cons,dOps]
 rfl
theorem EX_hard {o:Oper} (h:softB o=false):EX C (.ops .t ops (o::l)::k) S Q=EX C (.ops .f ops (o::l)::k) S Q:=by
 simp only [EX,contQ,athen,preN_hard h,List.drop_zero,List.take_zero,dOps]
theorem EX_dplain (h:softB ⟨d,op,ty,pos,af,none⟩=true):EX C (.ops .t ops (⟨d,op,ty,pos,af,none⟩::l)::k) S Q=STEP C .t ops ⟨d,op,ty,pos,af,none⟩ l k S Q:=EX_soft h
theorem EX_dguard (g:Nat) (w:Bool) (h:softB ⟨d,op,ty,pos,af,some (g,w)⟩=true):EX C (.ops .t ops (⟨d,op,ty,pos,af,some (g,w)⟩::l)::k) S Q =
  onGuard (guardV ops S.σ g) w (STEP C .t ops ⟨d,op,ty,pos,af,some (g,w)⟩ l k S Q) (EX C (.ops .t ops l::k) (S.put d skipV) Q) .mk .mk:=by
 rw [EX_soft h,← wantA_guard (d:=d) (op:=op) (ty:=ty) (pos:=pos) (af:=af)]
variable {gd:Option (Nat × Bool)} (dr:Dr)
theorem ST_move (x:Operand):STEP C dr ops ⟨d,.move x,ty,pos,af,gd⟩ l k S Q=onVal (Todo (ev S.σ x)) fun v=>EX C (.ops dr ops l::k) (S.put d v) Q:=eqq (by cases dr <;> rfl)
theorem ST_assign (x:Operand):STEP C dr ops ⟨d,.assign x,ty,pos,af,gd⟩ l k S Q=onVal (Todo (ev S.σ x)) fun v=>EX C (.ops dr ops l::k) (S.put d v) Q:=eqq (by cases dr <;> rfl)
theorem ST_pick (c x y:Operand):STEP C dr ops ⟨d,.pick c x y,ty,pos,af,gd⟩ l k S Q=onCond (ev S.σ c) (EX C (.ops dr ops l::k) (S.put d (ev S.σ x)) Q) (EX C (.ops dr ops l::k) (S.put d (ev S.σ y)) Q) .mk .mk:=by
 have:∀ K:V→Prop,(match ev S.σ c with | .lit (.bool t)=>K (if t=true then ev S.σ x else ev S.σ y) | _=>False)=onCond (ev S.σ c) (K (ev S.σ x)) (K (ev S.σ y)) .mk .mk:=fun K=>by
  unfold onCond
  cases ev S.σ c with
  | lit z=>cases z with
   | bool b=>cases b <;> rfl
   | _=>rfl
  | _=>rfl
 cases dr with
 | f=>exact this fun v=>EX C (.ops .f ops l::k) (S.put d v) Q
 | t=>exact this fun v=>EX C (.ops .t ops l::k) (S.put d v) Q
 | g hc=>exact this fun v=>EX C (.ops (.g hc) ops l::k) (S.put d v) Q
theorem ST_load (t:TypeId) (x:Operand):STEP C dr ops ⟨d,.load t x,ty,pos,af,gd⟩ l k S Q=atP S (Todo (ev S.σ x)) fun cs=>loadK C.P t cs fun v=>EX C (.ops dr ops l::k) (S.put d v) Q:=eqq (by cases dr <;> rfl)
theorem ST_fieldAddr (s:TypeId) (x:Operand) (f:Nat):STEP C dr ops ⟨d,.fieldAddr s x f,ty,pos,af,gd⟩ l k S Q=fieldAddrK C.P s f (Todo (ev S.σ x)) fun v=>EX C (.ops dr ops l::k) (S.put d v) Q:=eqq (by cases dr <;> rfl)
theorem ST_field (s:TypeId) (x:Operand) (f:Nat):STEP C dr ops ⟨d,.field s x f,ty,pos,af,gd⟩ l k S Q=fieldK C.P s f (Todo (ev S.σ x)) fun v=>EX C (.ops dr ops l::k) (S.put d v) Q:=eqq (by cases dr <;> rfl)
theorem ST_indexAddr (t:TypeId) (x i:Operand):STEP C dr ops ⟨d,.indexAddr t x i,ty,pos,af,gd⟩ l k S Q=idxAddrK C.P t (Todo (ev S.σ x)) (Todo (ev S.σ i)) fun v=>EX C (.ops dr ops l::k) (S.put d v) Q:=eqq (by cases dr <;> rfl)
theorem ST_index (t:TypeId) (x i:Operand):STEP C dr ops ⟨d,.index t x i,ty,pos,af,gd⟩ l k S Q=idxK C.P t (Todo (ev S.σ x)) (Todo (ev S.σ i)) fun v=>EX C (.ops dr ops l::k) (S.put d v) Q:=eqq (by cases dr <;> rfl)
theorem ST_binOp (b:BinOp) (t t':TypeId) (x y:Operand):STEP C dr ops ⟨d,.binOp b t x y t',ty,pos,af,gd⟩ l k S Q=binK C.P b t (Todo (ev S.σ x)) (Todo (ev S.σ y)) fun v=>EX C (.ops dr ops l::k) (S.put d v) Q:=eqq (by cases dr <;> rfl)
theorem ST_unOp (b:UnOp) (t:TypeId) (x:Operand):STEP C dr ops ⟨d,.unOp b t x,ty,pos,af,gd⟩ l k S Q=unK b (Todo (ev S.σ x)) fun v=>EX C (.ops dr ops l::k) (S.put d v) Q:=eqq (by cases dr <;> rfl)
theorem ST_convert (s t:TypeId) (x:Operand):STEP C .f ops ⟨d,.convert s t x,ty,pos,af,gd⟩ l k S Q=convB C.P S s t (Todo (ev S.σ x)) fun v=>EX C (.ops .f ops l::k) (S.put d v) Q:=eqq rfl
theorem ST_dconvert (s t:TypeId) (x:Operand):STEP C .t ops ⟨d,.convert s t x,ty,pos,af,gd⟩ l k S Q=convK C.P s t (Todo (ev S.σ x)) fun v=>EX C (.ops .t ops l::k) (S.put d v) Q:=eqq rfl
theorem ST_gconvert (hc:Option Bool) (s t:TypeId) (x:Operand):STEP C (.g hc) ops ⟨d,.convert s t x,ty,pos,af,gd⟩ l k S Q=convK C.P s t (Todo (ev S.σ x)) fun v=>EX C (.ops (.g hc) ops l::k) (S.put d v) Q:=eqq rfl
theorem ST_extract (x:Operand) (i:Nat):STEP C dr ops ⟨d,.extract x i,ty,pos,af,gd⟩ l k S Q=onTup (Todo (ev S.σ x)) fun vs=>onSome (Todo (vs[i]?)) fun v=>EX C (.ops dr ops l::k) (S.put d v) Q:=by
 have:∀ K:V→Prop,(match ev S.σ x with | .tup vs=>(match vs[i]? with | some v=>K v | none=>False) | _=>False)=onTup (ev S.σ x) fun vs=>onSome (vs[i]?) K:=fun K=>by
  unfold onTup onSome
  cases ev S.σ x with
  | tup vs=>simp only [];cases vs[i]? <;> rfl
  | _=>rfl
 cases dr with
 | f=>exact this fun v=>EX C (.ops .f ops l::k) (S.put d v) Q
 | t=>exact this fun v=>EX C (.ops .t ops l::k) (S.put d v) Q
 | g hc=>exact this fun v=>EX C (.ops (.g hc) ops l::k) (S.put d v) Q
theorem ST_slice (t:TypeId) (x:Operand) (lo hi mx:Option Operand):STEP C dr ops ⟨d,.slice t x lo hi mx,ty,pos,af,gd⟩ l k S Q =
  sliceK C.P t (Todo (ev S.σ x)) (Todo (lo.map (ev S.σ))) (Todo (hi.map (ev S.σ))) (Todo (mx.map (ev S.σ))) fun v=>EX C (.ops dr ops l::k) (S.put d v) Q:=eqq (by cases dr <;> rfl)
theorem ST_build (t:TypeId) (ps:List (Nat × Operand)):STEP C dr ops ⟨d,.build t ps.toArray,ty,pos,af,gd⟩ l k S Q =
  And2 (Todo ((placeOf C.P t 0).isSome=true)) (buildK C.P t (Todo (ps.map fun p=>(p.1,ev S.σ p.2))) fun v=>EX C (.ops dr ops l::k) (S.put d v) Q):=eqq (by cases dr <;> rfl)
theorem ST_nil (x:Operand):STEP C dr ops ⟨d,.nilCheck x,ty,pos,af,gd⟩ l k S Q=nilK (Todo (ev S.σ x)) fun v=>EX C (.ops dr ops l::k) (S.put d v) Q:=eqq (by cases dr <;> rfl)
theorem ST_len (x:Operand) (t:TypeId):STEP C dr ops ⟨d,.call ⟨.builtin .len,#[x],#[t]⟩,ty,pos,af,gd⟩ l k S Q=lenK C.P t (Todo (ev S.σ x)) fun v=>EX C (.ops dr ops l::k) (S.put d v) Q:=eqq (by cases dr <;> rfl)
def maxK (mx:Bool) (x y:V) (k:V→Prop):Prop:=onInt x fun kk a=>onInt y fun _ b=>k (.lit (.int kk (if mx then (if b > a then b else a) else (if b < a then b else a))))
@[congr] theorem maxK_congr {mx:Bool} {x x' y y':V} {k:V→Prop} (h:Todo x=x') (h':Todo y=y'):maxK mx (Todo x) (Todo y) k=maxK mx x' y' k:=by rw [← h,← h']
theorem maxK_max (kk k2:IntKind) (a b:Int) (k:V→Prop):maxK true (.lit (.int kk a)) (.lit (.int k2 b)) k=k (.lit (.int kk (if b > a then b else a))):=eqq rfl
theorem maxK_min (kk k2:IntKind) (a b:Int) (k:V→Prop):maxK false (.lit (.int kk a)) (.lit (.int k2 b)) k=k (.lit (.int kk (if b < a then b else a))):=eqq rfl
theorem ST_max (x y:Operand) (ts:Array TypeId):STEP C dr ops ⟨d,.call ⟨.builtin .max,#[x,y],ts⟩,ty,pos,af,gd⟩ l k S Q=maxK true (Todo (ev S.σ x)) (Todo (ev S.σ y)) fun v=>EX C (.ops dr ops l::k) (S.put d v) Q:=by
 have:∀ K:V→Prop,(match [ev S.σ x,ev S.σ y] with | [.lit (.int kk x),.lit (.int _ y)]=>K (.lit (.int kk (if y > x then y else x))) | _=>False)=maxK true (ev S.σ x) (ev S.σ y) K:=fun K=>by
  unfold maxK onInt
  cases ev S.σ x with
  | lit a=>cases a <;> (first | rfl | (cases ev S.σ y with | lit b=>cases b <;> rfl | _=>rfl))
  | _=>rfl
 cases dr with
 | f=>exact this fun v=>EX C (.ops .f ops l::k) (S.put d v) Q
 | t=>exact this fun v=>EX C (.ops .t ops l::k) (S.put d v) Q
 | g hc=>exact this fun v=>EX C (.ops (.g hc) ops l::k) (S.put d v) Q
theorem ST_min (x y:Operand) (ts:Array TypeId):STEP C dr ops ⟨d,.call ⟨.builtin .min,#[x,y],ts⟩,ty,pos,af,gd⟩ l k S Q=maxK false (Todo (ev S.σ x)) (Todo (ev S.σ y)) fun v=>EX C (.ops dr ops l::k) (S.put d v) Q:=by
 have:∀ K:V→Prop,(match [ev S.σ x,ev S.σ y] with | [.lit (.int kk x),.lit (.int _ y)]=>K (.lit (.int kk (if y < x then y else x))) | _=>False)=maxK false (ev S.σ x) (ev S.σ y) K:=fun K=>by
  unfold maxK onInt
  cases ev S.σ x with
  | lit a=>cases a <;> (first | rfl | (cases ev S.σ y with | lit b=>cases b <;> rfl | _=>rfl))
  | _=>rfl
 cases dr with
 | f=>exact this fun v=>EX C (.ops .f ops l::k) (S.put d v) Q
 | t=>exact this fun v=>EX C (.ops .t ops l::k) (S.put d v) Q
 | g hc=>exact this fun v=>EX C (.ops (.g hc) ops l::k) (S.put d v) Q
theorem ST_call (f:Operand) (as:List Operand) (ts:Array TypeId):STEP C .f ops ⟨d,.call ⟨.value f,as.toArray,ts⟩,ty,pos,af,gd⟩ l k S Q=callE C.P S d (Todo (ev S.σ f)) (Todo (as.map (ev S.σ))) fun S'=>EX C (.ops .f ops l::k) S' Q:=eqq rfl
theorem ST_gcall {hc:Option Bool} (f:Operand) (as:List Operand) (ts:Array TypeId):STEP C (.g hc) ops ⟨d,.call ⟨.value f,as.toArray,ts⟩,ty,pos,af,gd⟩ l k S Q=callK C.P (Todo (ev S.σ f)) (Todo (as.map (ev S.σ))) fun v=>EX C (.ops (.g hc) ops l::k) (S.put d v) Q:=eqq rfl
theorem ST_dcall (f:Operand) (as:List Operand) (ts:Array TypeId):STEP C .t ops ⟨d,.call ⟨.value f,as.toArray,ts⟩,ty,pos,af,gd⟩ l k S Q=callK C.P (Todo (ev S.σ f)) (Todo (as.map (ev S.σ))) fun v=>EX C (.ops .t ops l::k) (S.put d v) Q:=eqq rfl
def funcK (fn:Fn) (a b:List V) (k:V→Prop):Prop:=∃ l m,vals a=some l∧vals b=some m∧k (.lit (.func fn l.toArray m.toArray))
@[congr] theorem funcK_congr {fn:Fn} {a a' b b':List V} {k:V→Prop} (h:Todo a=a') (h':Todo b=b'):funcK fn (Todo a) (Todo b) k=funcK fn a' b' k:=by rw [← h,← h']
theorem funcK_eq (fn:Fn) (a b:List V) (k:V→Prop):funcK fn a b k=onSome (Todo (vals a)) fun l=>onSome (Todo (vals b)) fun m=>k (.lit (.func fn l.toArray m.toArray)):=by
 simp only [funcK,onSome,Todo_eq]
 cases h:vals a <;> cases h':vals b <;> simp
theorem ST_makeFunc (fn:Fn) (a b:List Operand):STEP C dr ops ⟨d,.makeFunc fn a.toArray b.toArray,ty,pos,af,gd⟩ l k S Q=funcK fn (Todo (a.map (ev S.σ))) (Todo (b.map (ev S.σ))) fun v=>EX C (.ops dr ops l::k) (S.put d v) Q:=eqq (by cases dr <;> rfl)
theorem ST_alloc (t:TypeId):STEP C .f ops ⟨d,.alloc t,ty,pos,af,gd⟩ l k S Q=allocK C.P S d t fun S'=>EX C (.ops .f ops l::k) S' Q:=eqq rfl
theorem ST_box (t:TypeId) (x:Operand):STEP C .f ops ⟨d,.box t x,ty,pos,af,gd⟩ l k S Q=boxK S d (Todo (ev S.σ x)) fun S'=>EX C (.ops .f ops l::k) S' Q:=eqq rfl
theorem ST_store (t:TypeId) (x y:Operand):STEP C .f ops ⟨d,.store t x y,ty,pos,af,gd⟩ l k S Q=storeK C.P S d t (Todo (ev S.σ x)) (Todo (ev S.σ y)) fun S'=>EX C (.ops .f ops l::k) S' Q:=eqq rfl
theorem ST_buildSlice (t:TypeId) (n:Nat) (ps:List (Nat × Operand)):STEP C .f ops ⟨d,.buildSlice t n ps.toArray,ty,pos,af,gd⟩ l k S Q=buildAny C.P S d t n (Todo (ps.map fun p=>(p.1,ev S.σ p.2))) fun S'=>EX C (.ops .f ops l::k) S' Q:=eqq rfl
theorem ST_dbuildSlice (t:TypeId) (n:Nat) (ps:List (Nat × Operand)):STEP C .t ops ⟨d,.buildSlice t n ps.toArray,ty,pos,af,gd⟩ l k S Q=buildSliceD C.P t n (Todo (ps.map fun p=>(p.1,ev S.σ p.2))) fun v=>EX C (.ops .t ops l::k) (S.put d v) Q:=eqq rfl
theorem ST_append (x y:Operand) (t t':TypeId):STEP C .f ops ⟨d,.call ⟨.builtin .append,#[x,y],#[t,t']⟩,ty,pos,af,gd⟩ l k S Q=appendAny C.P S d t t' (Todo (ev S.σ x)) (Todo (ev S.σ y)) fun S'=>EX C (.ops .f ops l::k) S' Q:=eqq rfl
theorem ST_clear (x:Operand) (t:TypeId):STEP C .f ops ⟨d,.call ⟨.builtin .clear,#[x],#[t]⟩,ty,pos,af,gd⟩ l k S Q=clearK C.P S d t (ev S.σ x) fun S'=>EX C (.ops .f ops l::k) S' Q:=eqq rfl
theorem ST_copy (x y:Operand) (t t':TypeId):STEP C .f ops ⟨d,.call ⟨.builtin .copy,#[x,y],#[t,t']⟩,ty,pos,af,gd⟩ l k S Q=copyK C.P S d t t' (ev S.σ x) (ev S.σ y) fun S'=>EX C (.ops .f ops l::k) S' Q:=eqq rfl
theorem ST_makeSlice (t:TypeId) (x y:Operand):STEP C .f ops ⟨d,.makeSlice t x y,ty,pos,af,gd⟩ l k S Q=makeSliceK C.P S d t (Todo (ev S.σ x)) (Todo (ev S.σ y)) fun S'=>EX C (.ops .f ops l::k) S' Q:=eqq rfl
theorem ST_cap (x:Operand) (t:TypeId):STEP C dr ops ⟨d,.call ⟨.builtin .cap,#[x],#[t]⟩,ty,pos,af,gd⟩ l k S Q=capK C.P t (Todo (ev S.σ x)) fun v=>EX C (.ops dr ops l::k) (S.put d v) Q:=eqq (by cases dr <;> rfl)
theorem EX_h_makeSlice (t:TypeId) (x y:Operand):EX C (.ops .t ops (⟨d,.makeSlice t x y,ty,pos,af,gd⟩::l)::k) S Q=EX C (.ops .f ops (⟨d,.makeSlice t x y,ty,pos,af,gd⟩::l)::k) S Q:=EX_hard rfl
theorem EX_h_copy (as:Array Operand) (ts:Array TypeId):EX C (.ops .t ops (⟨d,.call ⟨.builtin .copy,as,ts⟩,ty,pos,af,gd⟩::l)::k) S Q=EX C (.ops .f ops (⟨d,.call ⟨.builtin .copy,as,ts⟩,ty,pos,af,gd⟩::l)::k) S Q:=EX_hard rfl
theorem EX_h_alloc (t:TypeId):EX C (.ops .t ops (⟨d,.alloc t,ty,pos,af,gd⟩::l)::k) S Q=EX C (.ops .f ops (⟨d,.alloc t,ty,pos,af,gd⟩::l)::k) S Q:=EX_hard rfl
theorem EX_h_box (t:TypeId) (x:Operand):EX C (.ops .t ops (⟨d,.box t x,ty,pos,af,gd⟩::l)::k) S Q=EX C (.ops .f ops (⟨d,.box t x,ty,pos,af,gd⟩::l)::k) S Q:=EX_hard rfl
theorem EX_h_store (t:TypeId) (x y:Operand):EX C (.ops .t ops (⟨d,.store t x y,ty,pos,af,gd⟩::l)::k) S Q=EX C (.ops .f ops (⟨d,.store t x y,ty,pos,af,gd⟩::l)::k) S Q:=EX_hard rfl
theorem EX_h_append (as:Array Operand) (ts:Array TypeId):EX C (.ops .t ops (⟨d,.call ⟨.builtin .append,as,ts⟩,ty,pos,af,gd⟩::l)::k) S Q=EX C (.ops .f ops (⟨d,.call ⟨.builtin .append,as,ts⟩,ty,pos,af,gd⟩::l)::k) S Q:=EX_hard rfl
theorem ST_makeMap (t:TypeId) (r:Option Operand):STEP C .f ops ⟨d,.makeMap t r,ty,pos,af,gd⟩ l k S Q=makeMapK C.P S d t (r.map (ev S.σ)) fun S'=>EX C (.ops .f ops l::k) S' Q:=eqq rfl
theorem ST_lookup (t:TypeId) (x y:Operand) (ok:Bool):STEP C .f ops ⟨d,.lookup t x y ok,ty,pos,af,gd⟩ l k S Q=lookK C.P S t (ev S.σ x) (ev S.σ y) ok fun v=>EX C (.ops .f ops l::k) (S.put d v) Q:=eqq rfl
theorem ST_mapUpdate (t:TypeId) (x y z:Operand):STEP C .f ops ⟨d,.mapUpdate t x y z,ty,pos,af,gd⟩ l k S Q=updK C.P S d t (ev S.σ x) (ev S.σ y) (ev S.σ z) fun S'=>EX C (.ops .f ops l::k) S' Q:=eqq rfl
theorem ST_mapEntry (t:TypeId) (x y:Operand):STEP C .f ops ⟨d,.mapEntry t x y,ty,pos,af,gd⟩ l k S Q=mentK C.P S d t (ev S.σ x) (ev S.σ y) fun S'=>EX C (.ops .f ops l::k) S' Q:=eqq rfl
theorem ST_entryStore (t:TypeId) (x y z:Operand):STEP C .f ops ⟨d,.entryStore t x y z,ty,pos,af,gd⟩ l k S Q=estD S d (Todo (ev S.σ x)) (Todo (ev S.σ y)) (Todo (ev S.σ z)) fun S'=>EX C (.ops .f ops l::k) S' Q:=eqq rfl
theorem ST_range (t:TypeId) (x:Operand):STEP C .f ops ⟨d,.range t x,ty,pos,af,gd⟩ l k S Q=rangeK C.P S d t (ev S.σ x) fun S'=>EX C (.ops .f ops l::k) S' Q:=eqq rfl
theorem ST_next (x:Operand):STEP C .f ops ⟨d,.next x false,ty,pos,af,gd⟩ l k S Q=nextK S d (Todo (ev S.σ x)) fun S'=>EX C (.ops .f ops l::k) S' Q:=eqq rfl
theorem ST_entry (x:Operand):STEP C .f ops ⟨d,.entry x,ty,pos,af,gd⟩ l k S Q=entryK S (Todo (ev S.σ x)) fun v=>EX C (.ops .f ops l::k) (S.put d v) Q:=eqq rfl
theorem EX_h_makeMap (t:TypeId) (r:Option Operand):EX C (.ops .t ops (⟨d,.makeMap t r,ty,pos,af,gd⟩::l)::k) S Q=EX C (.ops .f ops (⟨d,.makeMap t r,ty,pos,af,gd⟩::l)::k) S Q:=EX_hard rfl
theorem EX_h_lookup (t:TypeId) (x y:Operand) (ok:Bool):EX C (.ops .t ops (⟨d,.lookup t x y ok,ty,pos,af,gd⟩::l)::k) S Q=EX C (.ops .f ops (⟨d,.lookup t x y ok,ty,pos,af,gd⟩::l)::k) S Q:=EX_hard rfl
theorem EX_h_mapUpdate (t:TypeId) (x y z:Operand):EX C (.ops .t ops (⟨d,.mapUpdate t x y z,ty,pos,af,gd⟩::l)::k) S Q=EX C (.ops .f ops (⟨d,.mapUpdate t x y z,ty,pos,af,gd⟩::l)::k) S Q:=EX_hard rfl
def ncall (hc:Option Bool) (op:Op):Bool:=match hc with
 | none=>true
 | some b=>match op with
  | .call c=>(match c.callee with | .value _=>false | _=>true)
  | .buildSlice _ _ _=>!b
  | _=>true
theorem softD_of {hc:Option Bool} (h:softB ⟨d,op,ty,pos,af,gd⟩=true) (hn:ncall hc op=true):softD hc ⟨d,op,ty,pos,af,gd⟩=true:=by
 unfold softB at h
 unfold softD
 unfold ncall at hn
 cases op <;> simp only [] at h hn ⊢ <;> try (exact h)
 case call c =>
  cases hcl:c.callee <;> simp only [hcl] at h hn ⊢
  case builtin b=>cases b <;> first | exact h | rfl
  case value f=>cases hc <;> first | rfl | cases hn
 case buildSlice t n ps =>
  cases hc with
  | none=>rfl
  | some b=>cases b <;> first | rfl | cases hn
theorem EX_gsoft {hc:Option Bool} (h:softB ⟨d,op,ty,pos,af,none⟩=true) (hn:hc=none∨ncall hc op=true):EX C (.ops (.g hc) ops (⟨d,op,ty,pos,af,none⟩::l)::k) S Q=STEP C (.g hc) ops ⟨d,op,ty,pos,af,none⟩ l k S Q:=by
 have hs:=softD_of (gd:=none) h (hn.elim (fun e=>by rw [e];rfl) id)
 simp only [EX,contQ,athen,gSeq,gStep,wantA,gCore,hs,if_true,STEP]
theorem EX_gsoftg {hc:Option Bool} (g:Nat) (w:Bool) (h:softB ⟨d,op,ty,pos,af,some (g,w)⟩=true) (hn:hc=none∨ncall hc op=true):EX C (.ops (.g hc) ops (⟨d,op,ty,pos,af,some (g,w)⟩::l)::k) S Q =
  onGuard (guardV ops S.σ g) w (STEP C (.g hc) ops ⟨d,op,ty,pos,af,some (g,w)⟩ l k S Q) (EX C (.ops (.g hc) ops l::k) (S.put d skipV) Q) .mk .mk:=by
 have hs:=softD_of (gd:=some (g,w)) h (hn.elim (fun e=>by rw [e];rfl) id)
 rw [← wantA_guard (d:=d) (op:=op) (ty:=ty) (pos:=pos) (af:=af)]
 simp only [EX,contQ,athen,gSeq,gStep,gCore,hs,if_true,STEP]
 rfl
theorem EX_g_alloc {hc:Option Bool} (t:TypeId):EX C (.ops (.g hc) ops (⟨d,.alloc t,ty,pos,af,none⟩::l)::k) S Q=allocK C.P S d t fun S'=>EX C (.ops (.g hc) ops l::k) S' Q:=by
 simp only [EX,contQ,athen,gSeq,gStep,wantA,gCore,softD,gHard,if_false,Bool.false_eq_true]
theorem EX_g_box {hc:Option Bool} (t:TypeId) (x:Operand):EX C (.ops (.g hc) ops (⟨d,.box t x,ty,pos,af,none⟩::l)::k) S Q=boxK S d (Todo (ev S.σ x)) fun S'=>EX C (.ops (.g hc) ops l::k) S' Q:=by
 simp only [EX,contQ,athen,gSeq,gStep,wantA,gCore,softD,gHard,if_false,Bool.false_eq_true];rfl
theorem EX_g_store {hc:Option Bool} (t:TypeId) (x y:Operand):EX C (.ops (.g hc) ops (⟨d,.store t x y,ty,pos,af,none⟩::l)::k) S Q=storeK C.P S d t (Todo (ev S.σ x)) (Todo (ev S.σ y)) fun S'=>EX C (.ops (.g hc) ops l::k) S' Q:=by
 simp only [EX,contQ,athen,gSeq,gStep,wantA,gCore,softD,gHard,if_false,Bool.false_eq_true];rfl
theorem EX_g_copy {hc:Option Bool} (x y:Operand) (t t':TypeId):EX C (.ops (.g hc) ops (⟨d,.call ⟨.builtin .copy,#[x,y],#[t,t']⟩,ty,pos,af,none⟩::l)::k) S Q=copyK C.P S d t t' (ev S.σ x) (ev S.σ y) fun S'=>EX C (.ops (.g hc) ops l::k) S' Q:=by
 simp only [EX,contQ,athen,gSeq,gStep,wantA,gCore,softD,gHard,if_false,Bool.false_eq_true]
theorem EX_g_append {hc:Option Bool} (x y:Operand) (t t':TypeId):EX C (.ops (.g hc) ops (⟨d,.call ⟨.builtin .append,#[x,y],#[t,t']⟩,ty,pos,af,none⟩::l)::k) S Q=And2 (Todo (t'=t)) (appendK C.P S d t (Todo (ev S.σ x)) (Todo (ev S.σ y)) fun S'=>EX C (.ops (.g hc) ops l::k) S' Q):=by
 simp only [EX,contQ,athen,gSeq,gStep,wantA,gCore,softD,gHard,if_false,Bool.false_eq_true];rfl
@[congr] theorem callR_congr {P:Program} {S:St} {d:Option Nat} {f f':V} {as as':List V} {K:St→Prop} (h:Todo f=f') (h':Todo as=as'):callR P S d (Todo f) (Todo as) K=callR P S d f' as' K:=by rw [← h,← h']
theorem EX_g_call (f:Operand) (as:List Operand) (ts:Array TypeId):EX C (.ops (.g (some false)) ops (⟨d,.call ⟨.value f,as.toArray,ts⟩,ty,pos,af,none⟩::l)::k) S Q=callR C.P S d (Todo (ev S.σ f)) (Todo (as.map (ev S.σ))) fun S'=>EX C (.ops (.g (some false)) ops l::k) S' Q:=by
 simp only [EX,contQ,athen,gSeq,gStep,wantA,gCore,softD,gHard,if_false,Bool.false_eq_true,Option.isNone_some];rfl
@[congr] theorem callX_congr {P:Program} {S:St} {d:Option Nat} {f f':V} {as as':List V} {K:St→Prop} (h:Todo f=f') (h':Todo as=as'):callX P S d (Todo f) (Todo as) K=callX P S d f' as' K:=by rw [← h,← h']
theorem EX_x_call (f:Operand) (as:List Operand) (ts:Array TypeId):EX C (.ops (.g (some true)) ops (⟨d,.call ⟨.value f,as.toArray,ts⟩,ty,pos,af,none⟩::l)::k) S Q=callX C.P S d (Todo (ev S.σ f)) (Todo (as.map (ev S.σ))) fun S'=>EX C (.ops (.g (some true)) ops l::k) S' Q:=by
 simp only [EX,contQ,athen,gSeq,gStep,wantA,gCore,softD,gHard,if_false,Bool.false_eq_true,Option.isNone_some];rfl
theorem callX_func (P:Program) (S:St) (d:Option Nat) (g:FuncId) (first cap:Array Value) (as:List V) (K:St→Prop):callX P S d (.lit (.func (.func g) first cap)) as K =
  And2 (Todo (callB P g=true)) (OkF P g (first.toList.map .lit++as++cap.toList.map .lit) S.boxes (fun v bs rs=>K (((S.setBoxes bs).setRows (rs++S.rows)).put d v)) .mk):=eqq rfl
theorem callX_yield (P:Program) (S:St) (d:Option Nat) (l:Nat) (first cap:Array Value) (as:List V) (K:St→Prop):callX P S d (.lit (.func (.yield l) first cap)) as K =
  OkYF P l (first.toList.map .lit++as) S.boxes (fun v bs rs=>K (((S.setBoxes bs).setRows (rs++S.rows)).put d v)) .mk:=eqq rfl
theorem EX_x_buildSlice (t:TypeId) (n:Nat) (ps:List (Nat × Operand)):EX C (.ops (.g (some true)) ops (⟨d,.buildSlice t n ps.toArray,ty,pos,af,none⟩::l)::k) S Q=buildSliceK C.P S d t n (ps.map fun p=>(p.1,ev S.σ p.2)) fun S'=>EX C (.ops (.g (some true)) ops l::k) S' Q:=by
 simp only [EX,contQ,athen,gSeq,gStep,wantA,gCore,softD,gHard,if_false,Bool.false_eq_true]
def OkR (P:Program) (f:FuncId) (zs:List V) (Q:V→List Row→Prop) (_:Fix Q):Prop:=Ok P f zs [] fun v bs rs=>bs=[]∧Q v rs
theorem callR_func (P:Program) (S:St) (d:Option Nat) (g:FuncId) (first cap:Array Value) (as:List V) (K:St→Prop):callR P S d (.lit (.func (.func g) first cap)) as K =
  And2 (Todo (callB P g=true)) (OkR P g (first.toList.map .lit++as++cap.toList.map .lit) (fun v rs=>K ((S.setRows (rs++S.rows)).put d v)) .mk):=eqq rfl
theorem OkR_of {P:Program} {g:FuncId} {zs:List V} {Q:V→List Row→Prop} {p:Fix Q} (v:V) (h:OkP P g zs v) (hk:Q v []):OkR P g zs Q p :=
 Ok.mono h fun v' bs rs ⟨e,e',e''⟩=>by subst e;subst e';subst e'';exact⟨rfl,hk⟩
theorem OkR_back {P:Program} {g:FuncId} {zs:List V} {Q:V→List Row→Prop} {p:Fix Q} {Q0:V→List (Nat × B)→List Row→Prop} (h:Ok P g zs [] Q0) (hk:∀ v bs rs,Q0 v bs rs→bs=[]∧Q v rs):OkR P g zs Q p :=
 Ok.mono h hk
end
theorem soft_move {d:Option Nat} {ty:TypeId} {pos:String} {af:Array Edge} {gd:Option (Nat × Bool)} (x:Operand):softB ⟨d,.move x,ty,pos,af,gd⟩=true:=eqq rfl
theorem soft_assign {d:Option Nat} {ty:TypeId} {pos:String} {af:Array Edge} {gd:Option (Nat × Bool)} (x:Operand):softB ⟨d,.assign x,ty,pos,af,gd⟩=true:=eqq rfl
theorem soft_pick {d:Option Nat} {ty:TypeId} {pos:String} {af:Array Edge} {gd:Option (Nat × Bool)} (c x y:Operand):softB ⟨d,.pick c x y,ty,pos,af,gd⟩=true:=eqq rfl
theorem soft_load {d:Option Nat} {ty:TypeId} {pos:String} {af:Array Edge} {gd:Option (Nat × Bool)} (t:TypeId) (x:Operand):softB ⟨d,.load t x,ty,pos,af,gd⟩=true:=eqq rfl
theorem soft_fieldAddr {d:Option Nat} {ty:TypeId} {pos:String} {af:Array Edge} {gd:Option (Nat × Bool)} (t:TypeId) (x:Operand) (i:Nat):softB ⟨d,.fieldAddr t x i,ty,pos,af,gd⟩=true:=eqq rfl
theorem soft_field {d:Option Nat} {ty:TypeId} {pos:String} {af:Array Edge} {gd:Option (Nat × Bool)} (t:TypeId) (x:Operand) (i:Nat):softB ⟨d,.field t x i,ty,pos,af,gd⟩=true:=eqq rfl
theorem soft_indexAddr {d:Option Nat} {ty:TypeId} {pos:String} {af:Array Edge} {gd:Option (Nat × Bool)} (t:TypeId) (x y:Operand):softB ⟨d,.indexAddr t x y,ty,pos,af,gd⟩=true:=eqq rfl
theorem soft_index {d:Option Nat} {ty:TypeId} {pos:String} {af:Array Edge} {gd:Option (Nat × Bool)} (t:TypeId) (x y:Operand):softB ⟨d,.index t x y,ty,pos,af,gd⟩=true:=eqq rfl
theorem soft_binOp {d:Option Nat} {ty:TypeId} {pos:String} {af:Array Edge} {gd:Option (Nat × Bool)} (b:BinOp) (t t2:TypeId) (x y:Operand):softB ⟨d,.binOp b t x y t2,ty,pos,af,gd⟩=true:=eqq rfl
theorem soft_unOp {d:Option Nat} {ty:TypeId} {pos:String} {af:Array Edge} {gd:Option (Nat × Bool)} (b:UnOp) (t:TypeId) (x:Operand):softB ⟨d,.unOp b t x,ty,pos,af,gd⟩=true:=eqq rfl
theorem soft_convert {d:Option Nat} {ty:TypeId} {pos:String} {af:Array Edge} {gd:Option (Nat × Bool)} (t t2:TypeId) (x:Operand):softB ⟨d,.convert t t2 x,ty,pos,af,gd⟩=true:=eqq rfl
theorem soft_extract {d:Option Nat} {ty:TypeId} {pos:String} {af:Array Edge} {gd:Option (Nat × Bool)} (x:Operand) (i:Nat):softB ⟨d,.extract x i,ty,pos,af,gd⟩=true:=eqq rfl
theorem soft_slice {d:Option Nat} {ty:TypeId} {pos:String} {af:Array Edge} {gd:Option (Nat × Bool)} (t:TypeId) (x:Operand) (a b c:Option Operand):softB ⟨d,.slice t x a b c,ty,pos,af,gd⟩=true:=eqq rfl
theorem soft_build {d:Option Nat} {ty:TypeId} {pos:String} {af:Array Edge} {gd:Option (Nat × Bool)} (t:TypeId) (ps:Array (Nat × Operand)):softB ⟨d,.build t ps,ty,pos,af,gd⟩=true:=eqq rfl
theorem soft_nil {d:Option Nat} {ty:TypeId} {pos:String} {af:Array Edge} {gd:Option (Nat × Bool)} (x:Operand):softB ⟨d,.nilCheck x,ty,pos,af,gd⟩=true:=eqq rfl
theorem soft_buildSlice {d:Option Nat} {ty:TypeId} {pos:String} {af:Array Edge} {gd:Option (Nat × Bool)} (t:TypeId) (n:Nat) (ps:Array (Nat × Operand)):softB ⟨d,.buildSlice t n ps,ty,pos,af,gd⟩=true:=eqq rfl
theorem soft_makeFunc {d:Option Nat} {ty:TypeId} {pos:String} {af:Array Edge} {gd:Option (Nat × Bool)} (fn:Fn) (a b:Array Operand):softB ⟨d,.makeFunc fn a b,ty,pos,af,gd⟩=true:=eqq rfl
theorem soft_callv {d:Option Nat} {ty:TypeId} {pos:String} {af:Array Edge} {gd:Option (Nat × Bool)} (f:Operand) (as:Array Operand) (ts:Array TypeId):softB ⟨d,.call ⟨.value f,as,ts⟩,ty,pos,af,gd⟩=true:=eqq rfl
theorem soft_len {d:Option Nat} {ty:TypeId} {pos:String} {af:Array Edge} {gd:Option (Nat × Bool)} (as:Array Operand) (ts:Array TypeId):softB ⟨d,.call ⟨.builtin .len,as,ts⟩,ty,pos,af,gd⟩=true:=eqq rfl
theorem soft_cap {d:Option Nat} {ty:TypeId} {pos:String} {af:Array Edge} {gd:Option (Nat × Bool)} (as:Array Operand) (ts:Array TypeId):softB ⟨d,.call ⟨.builtin .cap,as,ts⟩,ty,pos,af,gd⟩=true:=eqq rfl
theorem soft_max {d:Option Nat} {ty:TypeId} {pos:String} {af:Array Edge} {gd:Option (Nat × Bool)} (as:Array Operand) (ts:Array TypeId):softB ⟨d,.call ⟨.builtin .max,as,ts⟩,ty,pos,af,gd⟩=true:=eqq rfl
theorem soft_min {d:Option Nat} {ty:TypeId} {pos:String} {af:Array Edge} {gd:Option (Nat × Bool)} (as:Array Operand) (ts:Array TypeId):softB ⟨d,.call ⟨.builtin .min,as,ts⟩,ty,pos,af,gd⟩=true:=eqq rfl
theorem put_eq (S:St) (d:Nat) (v:V):(S.put (some d) v).σ d=v:=by simp [St.put,upd]
theorem put_ne (S:St) (d i:Nat) (v:V) (h:d ≠ i):(S.put (some d) v).σ i=S.σ i:=by simp [St.put,upd,h]
theorem put_none (S:St) (v:V):S.put none v=S:=eqq rfl
theorem put_boxes (S:St) (d:Option Nat) (v:V):(S.put d v).boxes=S.boxes:=eqq rfl
theorem put_rows (S:St) (d:Option Nat) (v:V):(S.put d v).rows=S.rows:=eqq rfl
theorem addBox_σ (S:St) (b:Nat) (cs:List V):(S.addBox b cs).σ=S.σ:=eqq rfl
theorem addBox_boxes (S:St) (b:Nat) (cs:List V):(S.addBox b cs).boxes=(b,.c cs)::S.boxes:=eqq rfl
theorem addBox_rows (S:St) (b:Nat) (cs:List V):(S.addBox b cs).rows=S.rows:=eqq rfl
theorem addRow_σ (S:St) (r:Row):(S.addRow r).σ=S.σ:=eqq rfl
theorem addRow_boxes (S:St) (r:Row):(S.addRow r).boxes=S.boxes:=eqq rfl
theorem addRow_rows (S:St) (r:Row):(S.addRow r).rows=r::S.rows:=eqq rfl
theorem setBoxes_σ (S:St) (bs:List (Nat × B)):(S.setBoxes bs).σ=S.σ:=eqq rfl
theorem setBoxes_boxes (S:St) (bs:List (Nat × B)):(S.setBoxes bs).boxes=bs:=eqq rfl
theorem setBoxes_rows (S:St) (bs:List (Nat × B)):(S.setBoxes bs).rows=S.rows:=eqq rfl
theorem setRows_σ (S:St) (rs:List Row):(S.setRows rs).σ=S.σ:=eqq rfl
theorem setRows_boxes (S:St) (rs:List Row):(S.setRows rs).boxes=S.boxes:=eqq rfl
theorem setRows_rows (S:St) (rs:List Row):(S.setRows rs).rows=rs:=eqq rfl
theorem S0_σ (args:List V) (bs:List (Nat × B)) (i:Nat):(S0 args bs).σ i=args.getD i .any:=eqq rfl
theorem S0_boxes (args:List V) (bs:List (Nat × B)):(S0 args bs).boxes=bs:=eqq rfl
theorem S0_rows (args:List V) (bs:List (Nat × B)):(S0 args bs).rows=[]:=eqq rfl
theorem ev_tmp (σ:Nat→V) (t:Tmp):ev σ (.tmp t)=σ t:=eqq rfl
theorem ev_const (σ:Nat→V) (v:Value):ev σ (.const v)=.lit v:=eqq rfl
theorem ev_global (σ:Nat→V) (g:Nat):ev σ (.global g)=gvL globs g:=eqq rfl
theorem gvL_nil (g:Nat):gvL [] g=.lit (.pointer (some ⟨g,0,none⟩)):=eqq rfl
theorem gvL_cons (a:Nat) (vs:List V) (r:List (Nat × List V)) (g:Nat):gvL ((a,vs)::r) g=if a=g then .ref vs else gvL r g:=eqq rfl
theorem globs_is:globs=globsV:=eqq rfl
theorem ev_func (σ:Nat→V) (f:FuncId):ev σ (.func f)=.lit (.func (.func f) #[] #[]):=eqq rfl
theorem guardV_eq (ops:List Oper) (σ:Nat→V) (g:Nat):guardV ops.toArray σ g=match (ops[g]?).bind (·.dst) with | some d=>σ d | none=>.any:=by simp [guardV]
theorem getB_same (b:Nat) (cs:List V) (r:List (Nat × B)):getB ((b,.c cs)::r) b=some cs:=by simp [getB]
theorem getB_other (b b':Nat) (x:B) (r:List (Nat × B)) (h:b' ≠ b):getB ((b,x)::r) b'=getB r b':=by cases x <;> simp [getB,h]
theorem setB_same (b:Nat) (x:B) (ds:List V) (r:List (Nat × B)):setB ((b,x)::r) b ds=(b,.c ds)::r:=by simp [setB]
theorem setB_other (b b':Nat) (x:B) (ds:List V) (r:List (Nat × B)) (h:b' ≠ b):setB ((b,x)::r) b' ds=(b,x)::setB r b' ds:=by simp [setB,h]
theorem Ok.of_exM (M:List (Nat × Nat)) {P:Program} {f:FuncId} {fn:Func} {c:Code} {args:List V} {bs:List (Nat × B)} {Q:V→List (Nat × B)→List Row→Prop} (hm:P.follows .mixedOrders=true) (hf:P.funcs[f]? = some fn) (hb:fn.body=some c)
  (hn:args.length≤fn.ntmps) (hk:okCode fn.ntmps M c=true) (h:∀ F w0 I0,EX { P:=P,N:=fn.ntmps,F:=F,w0:=w0,I0:=I0,M:=M } [.code c] (S0 args bs) (retQ P fn.results.toList Q)):Ok P f args bs Q :=
 Ok.of_body M hm hf hb hn hk h
theorem Ok.of_ex {P:Program} {f:FuncId} {fn:Func} {c:Code} {args:List V} {bs:List (Nat × B)} {Q:V→List (Nat × B)→List Row→Prop} (hm:P.follows .mixedOrders=true) (hf:P.funcs[f]? = some fn) (hb:fn.body=some c)
  (hn:args.length≤fn.ntmps) (hk:okCode fn.ntmps [] c=true) (h:∀ F w0 I0,EX { P:=P,N:=fn.ntmps,F:=F,w0:=w0,I0:=I0,M:=[] } [.code c] (S0 args bs) (retQ P fn.results.toList Q)):Ok P f args bs Q :=
 Ok.of_exM [] hm hf hb hn hk h
theorem resV_nil (P:Program) (S:St) (k:List V→Prop):resV P S [] k=k []:=eqq rfl
theorem resV_tmp (P:Program) (S:St) (t:Tmp) (r:List ResultVar) (k:List V→Prop):resV P S (.tmp t::r) k=resV P S r fun l=>k (S.σ t::l):=eqq rfl
theorem resV_cell (P:Program) (S:St) (t:Tmp) (T:TypeId) (r:List ResultVar) (k:List V→Prop):resV P S (.cell t T::r) k=atP S (Todo (S.σ t)) fun cs=>loadK P T cs fun v=>resV P S r fun l=>k (v::l):=eqq rfl
theorem retQ_ret (P:Program) (rs:List ResultVar) (Q:V→List (Nat × B)→List Row→Prop) (S:St):retQ P rs Q .ret S=retK P rs Q S:=eqq rfl
theorem retQ_normal (P:Program) (rs:List ResultVar) (Q:V→List (Nat × B)→List Row→Prop) (S:St):retQ P rs Q .normal S=retK P rs Q S:=eqq rfl
end Go.VL
