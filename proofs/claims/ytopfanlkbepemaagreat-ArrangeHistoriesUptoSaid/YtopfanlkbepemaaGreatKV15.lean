/- Merged out of my text V15. -/
import Derived.Test.YtopfanlkbepemaaGreatKV14
namespace Go.VL
open Go.RowKit
def Todo {α:Sort _} (a:α):α:=a
theorem eqq {α:Sort _} {a b:α} (h:a=b):a=b:=h
theorem Todo_eq {α:Sort _} (a:α):Todo a=a:=eqq rfl
def onVal {α:Type} (a:α) (k:α→Prop):Prop:=k a
@[congr] theorem onVal_congr {α:Type} {a a':α} {k:α→Prop} (h:Todo a=a'):onVal (Todo a) k=onVal a' k:=by rw [← h]
theorem onVal_eq {α:Type} (a:α) (k:α→Prop):onVal a k=k a:=eqq rfl
def onSome {α:Type} (o:Option α) (k:α→Prop):Prop:=match o with | some a=>k a | none=>False
@[congr] theorem onSome_congr {α:Type} {o o':Option α} {k:α→Prop} (h:Todo o=o'):onSome (Todo o) k=onSome o' k:=by rw [← h]
theorem onSome_some {α:Type} (a:α) (k:α→Prop):onSome (some a) k=k a:=eqq rfl
def onInt (v:V) (k:IntKind→Int→Prop):Prop:=match v with | .lit (.int kk j)=>k kk j | _=>False
@[congr] theorem onInt_congr {v v':V} {k:IntKind→Int→Prop} (h:Todo v=v'):onInt (Todo v) k=onInt v' k:=by rw [← h]
theorem onInt_int (kk:IntKind) (j:Int) (k:IntKind→Int→Prop):onInt (.lit (.int kk j)) k=k kk j:=eqq rfl
def onStr (v:V) (k:ByteArray→Prop):Prop:=match v with | .lit (.string s)=>k s | _=>False
@[congr] theorem onStr_congr {v v':V} {k:ByteArray→Prop} (h:Todo v=v'):onStr (Todo v) k=onStr v' k:=by rw [← h]
theorem onStr_str (s:ByteArray) (k:ByteArray→Prop):onStr (.lit (.string s)) k=k s:=eqq rfl
def onAgg (v:V) (k:List V→Prop):Prop:=match v with | .agg cs=>k cs | _=>False
@[congr] theorem onAgg_congr {v v':V} {k:List V→Prop} (h:Todo v=v'):onAgg (Todo v) k=onAgg v' k:=by rw [← h]
theorem onAgg_agg (cs:List V) (k:List V→Prop):onAgg (.agg cs) k=k cs:=eqq rfl
def onTup (v:V) (k:List V→Prop):Prop:=match v with | .tup cs=>k cs | _=>False
@[congr] theorem onTup_congr {v v':V} {k:List V→Prop} (h:Todo v=v'):onTup (Todo v) k=onTup v' k:=by rw [← h]
theorem onTup_tup (cs:List V) (k:List V→Prop):onTup (.tup cs) k=k cs:=eqq rfl
def onHead (cs:List V) (k:V→Prop):Prop:=match cs with | c::_=>k c | []=>False
@[congr] theorem onHead_congr {v v':List V} {k:V→Prop} (h:Todo v=v'):onHead (Todo v) k=onHead v' k:=by rw [← h]
theorem onHead_cons (c:V) (cs:List V) (k:V→Prop):onHead (c::cs) k=k c:=eqq rfl
def onBool (v:V) (k:Bool→Prop):Prop:=match v with | .lit (.bool b)=>k b | _=>False
@[congr] theorem onBool_congr {v v':V} {k:Bool→Prop} (h:Todo v=v'):onBool (Todo v) k=onBool v' k:=by rw [← h]
theorem onBool_bool (b:Bool) (k:Bool→Prop):onBool (.lit (.bool b)) k=k b:=eqq rfl
def onGuard (v:V) (w:Bool) (A B:Prop) (_:Fix A) (_:Fix B):Prop:=match v with | .lit x=>if isB x w=true then A else B | _=>False
theorem onGuard_tt (A B:Prop) (p:Fix A) (q:Fix B):onGuard (.lit (.bool true)) true A B p q=A:=by simp [onGuard,isB]
theorem onGuard_ft (A B:Prop) (p:Fix A) (q:Fix B):onGuard (.lit (.bool false)) true A B p q=B:=by simp [onGuard,isB]
theorem onGuard_tf (A B:Prop) (p:Fix A) (q:Fix B):onGuard (.lit (.bool true)) false A B p q=B:=by simp [onGuard,isB]
theorem onGuard_ff (A B:Prop) (p:Fix A) (q:Fix B):onGuard (.lit (.bool false)) false A B p q=A:=by simp [onGuard,isB]
theorem onGuard_skip (w:Bool) (A B:Prop) (p:Fix A) (q:Fix B):onGuard skipV w A B p q=B:=by simp [onGuard,isB,skipV,undef]
theorem onGuard_splitb {b:Bool} {A B:Prop} {p:Fix A} {q:Fix B} (h:b=true→A) (h':b=false→B):onGuard (.lit (.bool b)) true A B p q:=by
 cases b
 ·simp [onGuard,isB];exact h' rfl
 ·simp [onGuard,isB];exact h rfl
theorem onGuard_splitf {b:Bool} {A B:Prop} {p:Fix A} {q:Fix B} (h:b=false→A) (h':b=true→B):onGuard (.lit (.bool b)) false A B p q:=by
 cases b
 ·simp [onGuard,isB];exact h rfl
 ·simp [onGuard,isB];exact h' rfl
def onCond (v:V) (A B:Prop) (_:Fix A) (_:Fix B):Prop:=match v with | .lit (.bool b)=>if b=true then A else B | _=>False
theorem onCond_t (A B:Prop) (p:Fix A) (q:Fix B):onCond (.lit (.bool true)) A B p q=A:=by simp [onCond]
theorem onCond_f (A B:Prop) (p:Fix A) (q:Fix B):onCond (.lit (.bool false)) A B p q=B:=by simp [onCond]
theorem onCond_splitb {b:Bool} {A B:Prop} {p:Fix A} {q:Fix B} (h:b=true→A) (h':b=false→B):onCond (.lit (.bool b)) A B p q:=by
 cases b
 ·simp [onCond];exact h' rfl
 ·simp [onCond];exact h rfl
@[congr] theorem And2_congr {A A' B:Prop} (h:Todo A=A'):And2 (Todo A) B=And2 A' B:=by rw [← h]
theorem And2_true (B:Prop):And2 True B=B:=by simp [And2]
def Fresh (l:List Nat) (K:Nat→Prop) (_:Fix K):Prop:=∀ b,b ∉ l→K b
theorem AllV_eq (K:Value→Prop):AllV K=∀ y,K y:=eqq rfl
@[congr] theorem onL_congr {v v':V} {k:Nat} {K:List (List V)→Prop} (h:Todo v=v'):onL (Todo v) k K=onL v' k K:=by rw [← h]
theorem onL_list (a:Option Value) (k' k:Nat) (es:List (List V)) (K:List (List V)→Prop):onL (.list a k' es) k K=And2 (Todo (k'=k)) (K es):=eqq rfl
theorem onL_nil (k:Nat) (K:List (List V)→Prop):onL (.lit (.slice none 0 0)) k K=K []:=eqq rfl
@[congr] theorem onS_congr {v v':V} {k:Nat} {KL:List (List V)→Prop} {KM:Nat→Nat→Nat→Nat→Prop} (h:Todo v=v'):onS (Todo v) k KL KM=onS v' k KL KM:=by rw [← h]
theorem onS_list (a:Option Value) (k' k:Nat) (es:List (List V)) (KL:List (List V)→Prop) (KM:Nat→Nat→Nat→Nat→Prop):onS (.list a k' es) k KL KM=And2 (Todo (k'=k)) (KL es):=eqq rfl
theorem onS_nil (k:Nat) (KL:List (List V)→Prop) (KM:Nat→Nat→Nat→Nat→Prop):onS (.lit (.slice none 0 0)) k KL KM=KL []:=eqq rfl
theorem onS_box (b o n c k:Nat) (KL:List (List V)→Prop) (KM:Nat→Nat→Nat→Nat→Prop):onS (.lit (.slice (some ⟨b,o,none⟩) n c)) k KL KM=KM b o n c:=eqq rfl
@[congr] theorem bnd_congr {v v':Option V} {d:Nat} {K:Nat→Prop} (h:Todo v=v'):bnd (Todo v) d K=bnd v' d K:=by rw [← h]
theorem bnd_none (d:Nat) (K:Nat→Prop):bnd none d K=K d:=eqq rfl
theorem bnd_int (kk:IntKind) (j:Int) (d:Nat) (K:Nat→Prop):bnd (some (.lit (.int kk j))) d K=And2 (Todo (0≤j)) (K j.toNat):=eqq rfl
@[congr] theorem shiftP_congr {v v':V} {off:Nat} {k:V→Prop} (h:Todo v=v'):shiftP (Todo v) off k=shiftP v' off k:=by rw [← h]
theorem shiftP_ref (cs:List V) (off:Nat) (k:V→Prop):shiftP (.ref cs) off k=k (.ref (cs.drop off)):=eqq rfl
theorem shiftP_ptr (b o off:Nat) (k:V→Prop):shiftP (.lit (.pointer (some ⟨b,o,none⟩))) off k=k (.lit (.pointer (some ⟨b,o+off,none⟩))):=eqq rfl
@[congr] theorem atP_congr {S:St} {v v':V} {k:List V→Prop} (h:Todo v=v'):atP S (Todo v) k=atP S v' k:=by rw [← h]
theorem atP_ref (S:St) (cs:List V) (k:List V→Prop):atP S (.ref cs) k=k cs:=eqq rfl
theorem atP_ptr (S:St) (b o:Nat) (k:List V→Prop):atP S (.lit (.pointer (some ⟨b,o,none⟩))) k=onSome (Todo (getB S.boxes b)) fun cs=>k (cs.drop o):=by
 simp only [atP,onSome];cases getB S.boxes b <;> rfl
def loadD (isA:Bool) (n:Nat) (cs:List V) (k:V→Prop):Prop:=if isA then And2 (n≤cs.length) (k (.agg (cs.take n))) else onHead cs k
@[congr] theorem loadD_congr {a:Bool} {n:Nat} {cs cs':List V} {k:V→Prop} (h:Todo cs=cs'):loadD a n (Todo cs) k=loadD a n cs' k:=by rw [← h]
theorem loadD_agg (n:Nat) (cs:List V) (k:V→Prop):loadD true n cs k=And2 (Todo (n≤cs.length)) (onVal (Todo (V.agg (cs.take n))) k):=eqq rfl
theorem loadD_one (n:Nat) (cs:List V) (k:V→Prop):loadD false n cs k=onHead (Todo cs) k:=eqq rfl
@[congr] theorem loadK_congr {P:Program} {t:TypeId} {cs cs':List V} {k:V→Prop} (h:Todo cs=cs'):loadK P t (Todo cs) k=loadK P t cs' k:=by rw [← h]
theorem loadK_eq (P:Program) (t:TypeId) (cs:List V) (k:V→Prop):loadK P t cs k=onSome (Todo (tag P t)) fun a=>onSome (Todo (tsz P t)) fun n=>loadD a n cs k:=by
 simp only [Todo_eq]
 unfold loadK onSome loadD onHead
 cases tag P t with
 | none=>rfl
 | some a=>cases tsz P t with
  | none=>cases a <;> rfl
  | some n=>cases a <;> rfl
def partD (isA:Bool) (n:Nat) (cs:List V) (k:V→Prop):Prop:=if isA then k (.agg (cs.take n)) else onHead cs k
@[congr] theorem partD_congr {a:Bool} {n:Nat} {cs cs':List V} {k:V→Prop} (h:Todo cs=cs'):partD a n (Todo cs) k=partD a n cs' k:=by rw [← h]
theorem partD_agg (n:Nat) (cs:List V) (k:V→Prop):partD true n cs k=onVal (Todo (V.agg (cs.take n))) k:=eqq rfl
theorem partD_one (n:Nat) (cs:List V) (k:V→Prop):partD false n cs k=onHead (Todo cs) k:=eqq rfl
@[congr] theorem partK_congr {P:Program} {t:TypeId} {cs cs':List V} {off:Nat} {k:V→Prop} (h:Todo cs=cs'):partK P t (Todo cs) off k=partK P t cs' off k:=by rw [← h]
theorem partK_eq (P:Program) (t:TypeId) (cs:List V) (off:Nat) (k:V→Prop):partK P t cs off k=onSome (Todo (tag P t)) fun a=>onSome (Todo (tsz P t)) fun n=>partD a n (cs.drop off) k:=by
 simp only [Todo_eq]
 unfold partK onSome partD onHead
 cases tag P t with
 | none=>rfl
 | some a=>cases tsz P t with
  | none=>cases a <;> rfl
  | some n=>cases a <;> rfl
@[congr] theorem fieldAddrK_congr {P:Program} {s:TypeId} {f:Nat} {v v':V} {k:V→Prop} (h:Todo v=v'):fieldAddrK P s f (Todo v) k=fieldAddrK P s f v' k:=by rw [← h]
def posK (n:Nat) (A:Prop):Prop:=match n with | 0=>False | _+1=>A
@[congr] theorem posK_congr {n n':Nat} {A:Prop} (h:Todo n=n'):posK (Todo n) A=posK n' A:=by rw [← h]
theorem posK_succ (n:Nat) (A:Prop):posK (n+1) A=A:=eqq rfl
theorem fieldAddrK_eq (P:Program) (s:TypeId) (f:Nat) (v:V) (k:V→Prop):fieldAddrK P s f v k=onSome (Todo (fld P s f)) fun p=>onSome (Todo (tsz P p.2)) fun n=>posK (Todo n) (shiftP (Todo v) p.1 k):=by
 simp only [Todo_eq]
 unfold fieldAddrK onSome posK
 cases fld P s f with
 | none=>rfl
 | some p =>
  obtain⟨off,t⟩:=p
  simp only []
  cases tsz P t with
  | none=>rfl
  | some n=>cases n <;> rfl
@[congr] theorem fieldK_congr {P:Program} {s:TypeId} {f:Nat} {v v':V} {k:V→Prop} (h:Todo v=v'):fieldK P s f (Todo v) k=fieldK P s f v' k:=by rw [← h]
theorem fieldK_eq (P:Program) (s:TypeId) (f:Nat) (v:V) (k:V→Prop):fieldK P s f v k=onSome (Todo (fld P s f)) fun p=>onAgg (Todo v) fun cs=>partK P p.2 cs p.1 k:=by
 simp only [Todo_eq]
 unfold fieldK onSome onAgg
 cases fld P s f with
 | none=>rfl
 | some p=>cases v <;> rfl
def idxAddrD (P:Program) (d:TypeDesc) (v i:V) (k:V→Prop):Prop :=
 match d with
 | .slice e=>onSome (tsz P e) fun n=>onInt i fun _ j=>onS v n (fun es=>And2 (0≤j) (And2 (j < es.length) (k (.ref (es.getD j.toNat []))))) fun b o l _=>And2 (0≤j) (And2 (j < l) (k (.lit (.pointer (some ⟨b,o+j.toNat * n,none⟩)))))
 | .array len e=>onSome (tsz P e) fun n=>onInt i fun _ j=>And2 (0≤j) (And2 (j < len) (shiftP v (j.toNat * n) k))
 | _=>False
@[congr] theorem idxAddrD_congr {P:Program} {d:TypeDesc} {v v' i i':V} {k:V→Prop} (h:Todo v=v') (h':Todo i=i'):idxAddrD P d (Todo v) (Todo i) k=idxAddrD P d v' i' k:=by rw [← h,← h']
theorem idxAddrD_slice (P:Program) (e:TypeId) (v i:V) (k:V→Prop):idxAddrD P (.slice e) v i k=onSome (Todo (tsz P e)) fun n=>onInt (Todo i) fun _ j=>onS (Todo v) n (fun es=>And2 (Todo (0≤j)) (And2 (Todo (j < es.length)) (k (.ref (es.getD j.toNat []))))) fun b o l _=>And2 (Todo (0≤j)) (And2 (Todo (j < l)) (k (.lit (.pointer (some ⟨b,o+j.toNat * n,none⟩))))):=eqq rfl
theorem idxAddrD_array (P:Program) (len:Nat) (e:TypeId) (v i:V) (k:V→Prop):idxAddrD P (.array len e) v i k=onSome (Todo (tsz P e)) fun n=>onInt (Todo i) fun _ j=>And2 (Todo (0≤j)) (And2 (Todo (j < len)) (shiftP (Todo v) (j.toNat * n) k)):=eqq rfl
@[congr] theorem idxAddrK_congr {P:Program} {t:TypeId} {v v' i i':V} {k:V→Prop} (h:Todo v=v') (h':Todo i=i'):idxAddrK P t (Todo v) (Todo i) k=idxAddrK P t v' i' k:=by rw [← h,← h']
theorem idxAddrK_eq (P:Program) (t:TypeId) (v i:V) (k:V→Prop):idxAddrK P t v i k=onSome (Todo (P.underlying t)) fun d=>idxAddrD P d v i k:=by
 simp only [Todo_eq]
 unfold idxAddrK onSome
 cases P.underlying t with
 | none=>rfl
 | some d =>
  cases d <;> (first | rfl | skip)
  case slice e =>
   cases i with
   | lit x=>cases x <;> (simp only [idxAddrD,onInt,onSome,And2];cases tsz P e <;> rfl)
   | _=>simp only [idxAddrD,onInt,onSome];cases tsz P e <;> rfl
  case array len e =>
   cases i with
   | lit x=>cases x <;> (simp only [idxAddrD,onInt,onSome,And2];cases tsz P e <;> rfl)
   | _=>simp only [idxAddrD,onInt,onSome];cases tsz P e <;> rfl
def idxD (P:Program) (d:TypeDesc) (v i:V) (k:V→Prop):Prop :=
 match d with
 | .string=>onStr v fun s=>onInt i fun _ j=>And2 (0≤j) (And2 (j < s.size) (k (.lit (.int .u8 (s.data.toList.getD j.toNat 0).toNat))))
 | .array len e=>onAgg v fun cs=>onInt i fun _ j=>onSome (tsz P e) fun n=>And2 (0≤j) (And2 (j < len) (partK P e cs (j.toNat * n) k))
 | _=>False
@[congr] theorem idxD_congr {P:Program} {d:TypeDesc} {v v' i i':V} {k:V→Prop} (h:Todo v=v') (h':Todo i=i'):idxD P d (Todo v) (Todo i) k=idxD P d v' i' k:=by rw [← h,← h']
theorem idxD_string (P:Program) (v i:V) (k:V→Prop):idxD P .string v i k=onStr (Todo v) fun s=>onInt (Todo i) fun _ j=>And2 (Todo (0≤j)) (And2 (Todo (j < s.size)) (k (.lit (.int .u8 (s.data.toList.getD j.toNat 0).toNat)))):=eqq rfl
theorem idxD_array (P:Program) (len:Nat) (e:TypeId) (v i:V) (k:V→Prop):idxD P (.array len e) v i k=onAgg (Todo v) fun cs=>onInt (Todo i) fun _ j=>onSome (Todo (tsz P e)) fun n=>And2 (Todo (0≤j)) (And2 (Todo (j < len)) (partK P e cs (j.toNat * n) k)):=eqq rfl
@[congr] theorem idxK_congr {P:Program} {t:TypeId} {v v' i i':V} {k:V→Prop} (h:Todo v=v') (h':Todo i=i'):idxK P t (Todo v) (Todo i) k=idxK P t v' i' k:=by rw [← h,← h']
theorem idxK_eq (P:Program) (t:TypeId) (v i:V) (k:V→Prop):idxK P t v i k=onSome (Todo (P.underlying t)) fun d=>idxD P d v i k:=by
 simp only [Todo_eq]
 unfold idxK onSome
 cases P.underlying t with
 | none=>rfl
 | some d =>
  cases d <;> (first | rfl | skip)
  case string =>
   cases v with
   | lit x=>cases x <;> (first | rfl | (cases i with | lit y=>cases y <;> rfl | _=>rfl))
   | _=>rfl
  case array len e =>
   cases v with
   | agg cs=>cases i with
    | lit y=>cases y <;> (first | rfl | (simp only [idxD,onAgg,onInt,onSome,And2];cases tsz P e <;> rfl))
    | _=>rfl
   | _=>rfl
@[congr] theorem binK_congr {P:Program} {op:BinOp} {t:TypeId} {x x' y y':V} {k:V→Prop} (h:Todo x=x') (h':Todo y=y'):binK P op t (Todo x) (Todo y) k=binK P op t x' y' k:=by rw [← h,← h']
theorem binK_int (P:Program) (op:BinOp) (t:TypeId) (k k':IntKind) (a b:Int) (K:V→Prop):binK P op t (.lit (.int k a)) (.lit (.int k' b)) K=onSome (Todo (sbin op (.int k a) (.int k' b))) fun v=>K (.lit v):=by
 simp only [binK,onSome]
 rw [Todo_eq]
 cases h:sbin op (.int k a) (.int k' b) <;> simp
theorem binK_str (P:Program) (op:BinOp) (t:TypeId) (a b:ByteArray) (K:V→Prop):binK P op t (.lit (.string a)) (.lit (.string b)) K=onSome (Todo (sbin op (.string a) (.string b))) fun v=>K (.lit v):=by
 simp only [binK,onSome]
 rw [Todo_eq]
 cases h:sbin op (.string a) (.string b) <;> simp
theorem binK_nil (P:Program) (op:BinOp) (t:TypeId) (p:Option Addr) (n c:Nat) (K:V→Prop):binK P op t (.lit (.slice p n c)) (.lit (.slice none 0 0)) K=nilQ P op t p.isNone K:=eqq rfl
theorem binK_lnil (P:Program) (op:BinOp) (t:TypeId) (o:Option Value) (k:Nat) (es:List (List V)) (K:V→Prop):binK P op t (.list o k es) (.lit (.slice none 0 0)) K=And2 (Todo (es ≠ []∨notNil o=true)) (nilQ P op t false K):=eqq rfl
theorem notNil_some (p:Addr) (n c:Nat):notNil (some (.slice (some p) n c))=true:=eqq rfl
theorem notNil_none:notNil none=false:=eqq rfl
def EqK (P:Program) (op:BinOp) (t:TypeId) (xs ys:List V) (k:V→Prop):Prop:=∃ l m b,vals xs=some l∧vals ys=some m∧EqAgg P op t l m b∧k (.lit (.bool b))
@[congr] theorem EqK_congr {P:Program} {op:BinOp} {t:TypeId} {x x' y y':List V} {k:V→Prop} (h:Todo x=x') (h':Todo y=y'):EqK P op t (Todo x) (Todo y) k=EqK P op t x' y' k:=by rw [← h,← h']
theorem binK_agg (P:Program) (op:BinOp) (t:TypeId) (xs ys:List V) (k:V→Prop):binK P op t (.agg xs) (.agg ys) k=EqK P op t xs ys k:=eqq rfl
def unK (op:UnOp) (x:V) (k:V→Prop):Prop:=match x with | .lit a=>∃ v,sun op a=some v∧k (.lit v) | _=>False
@[congr] theorem unK_congr {op:UnOp} {x x':V} {k:V→Prop} (h:Todo x=x'):unK op (Todo x) k=unK op x' k:=by rw [← h]
theorem unK_lit (op:UnOp) (a:Value) (k:V→Prop):unK op (.lit a) k=onSome (Todo (sun op a)) fun v=>k (.lit v):=by
 simp only [unK,onSome]
 rw [Todo_eq]
 cases h:sun op a <;> simp
def convD (d:TypeDesc) (v:V) (k:V→Prop):Prop :=
 match d with
 | .int kk=>onInt v fun _ n=>k (.lit (.int kk (kk.wrap n)))
 | .string=>onStr v fun s=>k (.lit (.string s))
 | _=>False
@[congr] theorem convD_congr {d:TypeDesc} {v v':V} {k:V→Prop} (h:Todo v=v'):convD d (Todo v) k=convD d v' k:=by rw [← h]
theorem convD_int (kk:IntKind) (v:V) (k:V→Prop):convD (.int kk) v k=onInt (Todo v) fun _ n=>k (.lit (.int kk (kk.wrap n))):=eqq rfl
theorem convD_string (v:V) (k:V→Prop):convD .string v k=onStr (Todo v) fun s=>k (.lit (.string s)):=eqq rfl
@[congr] theorem convK_congr {P:Program} {s d:TypeId} {v v':V} {k:V→Prop} (h:Todo v=v'):convK P s d (Todo v) k=convK P s d v' k:=by rw [← h]
theorem convK_eq (P:Program) (src dst:TypeId) (v:V) (k:V→Prop):convK P src dst v k=onSome (Todo (P.underlying src)) fun _=>onSome (Todo (P.underlying dst)) fun d=>convD d v k:=by
 simp only [Todo_eq]
 unfold convK onSome
 cases P.underlying src with
 | none=>rfl
 | some d'=>cases P.underlying dst with
  | none=>rfl
  | some d=>cases d <;> (first | rfl | (cases v with | lit x=>cases x <;> rfl | _=>rfl))
def convE (P:Program) (S:St) (ds d:TypeDesc) (v:V) (k:V→Prop):Prop :=
 match ds,d with
 | .slice e,.string=>bytesD P S e v k
 | .string,.slice e=>strB P e v k
 | _,d=>convD d v k
@[congr] theorem convE_congr {P:Program} {S:St} {ds d:TypeDesc} {v v':V} {k:V→Prop} (h:Todo v=v'):convE P S ds d (Todo v) k=convE P S ds d v' k:=by rw [← h]
theorem convE_int (P:Program) (S:St) (ds:TypeDesc) (kk:IntKind) (v:V) (k:V→Prop):convE P S ds (.int kk) v k=onInt (Todo v) fun _ n=>k (.lit (.int kk (kk.wrap n))):=eqq (by cases ds <;> rfl)
theorem convE_string (P:Program) (S:St) (v:V) (k:V→Prop):convE P S .string .string v k=onStr (Todo v) fun s=>k (.lit (.string s)):=eqq rfl
@[congr] theorem strB_congr {P:Program} {e:TypeId} {v v':V} {k:V→Prop} (h:Todo v=v'):strB P e (Todo v) k=strB P e v' k:=by rw [← h]
theorem strB_lit (P:Program) (e:TypeId) (s:ByteArray) (k:V→Prop):strB P e (.lit (.string s)) k=And2 (Todo (P.underlying e=some (.int .u8))) (k (.list none 1 (byteRows s))):=eqq rfl
theorem convE_str (P:Program) (S:St) (e:TypeId) (v:V) (k:V→Prop):convE P S .string (.slice e) v k=strB P e (Todo v) k:=eqq rfl
theorem convE_bytes (P:Program) (S:St) (e:TypeId) (v:V) (k:V→Prop):convE P S (.slice e) .string v k=bytesD P S e (Todo v) k:=eqq rfl
@[congr] theorem bytesD_congr {P:Program} {S:St} {e:TypeId} {v v':V} {k:V→Prop} (h:Todo v=v'):bytesD P S e (Todo v) k=bytesD P S e v' k:=by rw [← h]
@[congr] theorem BytesF_congr {cs cs':List V} {k:ByteArray→Prop} {f:Fix k} (h:Todo cs=cs'):BytesF (Todo cs) k f=BytesF cs' k f:=by rw [← h]
theorem bytesD_nil (P:Program) (S:St) (e:TypeId) (n c:Nat) (k:V→Prop):bytesD P S e (.lit (.slice none n c)) k=And2 (Todo (P.underlying e=some (.int .u8))) (k (.lit (.string ⟨#[]⟩))):=eqq rfl
theorem bytesD_box (P:Program) (S:St) (e:TypeId) (b o n c:Nat) (k:V→Prop):bytesD P S e (.lit (.slice (some ⟨b,o,none⟩) n c)) k=And2 (Todo (P.underlying e=some (.int .u8))) (onSome (Todo (getB S.boxes b)) fun cs=>And2 (Todo (o+n≤cs.length)) (BytesF (Todo ((cs.drop o).take n)) (fun x=>k (.lit (.string x))) .mk)):=by
 simp only [bytesD,onSome,Todo_eq,And2]
 cases getB S.boxes b <;> rfl
theorem bytesD_list (P:Program) (S:St) (e:TypeId) (own:Option Value) (es:List (List V)) (k:V→Prop):bytesD P S e (.list own 1 es) k=And2 (Todo (P.underlying e=some (.int .u8))) (And2 (∀ e ∈ es,e.length=1) (BytesF (Todo es.flatten) (fun x=>k (.lit (.string x))) .mk)):=by
 simp only [bytesD,Todo_eq,And2,true_and]
@[congr] theorem convB_congr {P:Program} {S:St} {s d:TypeId} {v v':V} {k:V→Prop} (h:Todo v=v'):convB P S s d (Todo v) k=convB P S s d v' k:=by rw [← h]
theorem convB_eq (P:Program) (S:St) (src dst:TypeId) (v:V) (k:V→Prop):convB P S src dst v k=onSome (Todo (P.underlying src)) fun ds=>onSome (Todo (P.underlying dst)) fun d=>convE P S ds d v k:=by
 unfold convB
 rw [convK_eq]
 simp only [Todo_eq]
 unfold onSome
 cases h:P.underlying src with
 | none=>rfl
 | some ds=>cases h':P.underlying dst with
  | none=>cases ds <;> rfl
  | some d=>cases ds <;> cases d <;> rfl
def lenD (P:Program) (d:TypeDesc) (v:V) (k:V→Prop):Prop :=
 match d with
 | .string=>onStr v fun s=>k (.lit (.int .i64 s.size))
 | .slice e=>onSome (tsz P e) fun n=>onS v n (fun es=>k (.lit (.int .i64 es.length))) fun _ _ l _=>k (.lit (.int .i64 l))
 | _=>False
@[congr] theorem lenD_congr {P:Program} {d:TypeDesc} {v v':V} {k:V→Prop} (h:Todo v=v'):lenD P d (Todo v) k=lenD P d v' k:=by rw [← h]
theorem lenD_string (P:Program) (v:V) (k:V→Prop):lenD P .string v k=onStr (Todo v) fun s=>k (.lit (.int .i64 s.size)):=eqq rfl
theorem lenD_slice (P:Program) (e:TypeId) (v:V) (k:V→Prop):lenD P (.slice e) v k=onSome (Todo (tsz P e)) fun n=>onS (Todo v) n (fun es=>k (.lit (.int .i64 es.length))) fun _ _ l _=>k (.lit (.int .i64 l)):=eqq rfl
@[congr] theorem lenK_congr {P:Program} {t:TypeId} {v v':V} {k:V→Prop} (h:Todo v=v'):lenK P t (Todo v) k=lenK P t v' k:=by rw [← h]
theorem lenK_eq (P:Program) (t:TypeId) (v:V) (k:V→Prop):lenK P t v k=onSome (Todo (P.underlying t)) fun d=>lenD P d v k:=by
 simp only [Todo_eq]
 unfold lenK onSome
 cases P.underlying t with
 | none=>rfl
 | some d =>
  cases d <;> (first | rfl | skip)
  case string=>cases v with
   | lit x=>cases x <;> rfl
   | _=>rfl
  case slice e=>simp only [lenD,onSome];cases tsz P e <;> rfl
def capD (d:TypeDesc) (v:V) (k:V→Prop):Prop:=match d,v with | .slice _,.lit (.slice _ _ c)=>k (.lit (.int .i64 c)) | _,_=>False
@[congr] theorem capD_congr {d:TypeDesc} {v v':V} {k:V→Prop} (h:Todo v=v'):capD d (Todo v) k=capD d v' k:=by rw [← h]
theorem capD_slice (e:TypeId) (a:Option Addr) (n c:Nat) (k:V→Prop):capD (.slice e) (.lit (.slice a n c)) k=k (.lit (.int .i64 c)):=eqq rfl
@[congr] theorem capK_congr {P:Program} {t:TypeId} {v v':V} {k:V→Prop} (h:Todo v=v'):capK P t (Todo v) k=capK P t v' k:=by rw [← h]
theorem capK_eq (P:Program) (t:TypeId) (v:V) (k:V→Prop):capK P t v k=onSome (Todo (P.underlying t)) fun d=>capD d v k:=by
 simp only [Todo_eq]
 unfold capK onSome
 cases P.underlying t with
 | none=>rfl
 | some d=>cases d <;> (first | rfl | (cases v with | lit x=>cases x <;> rfl | _=>rfl))
def sliceD (P:Program) (d:TypeDesc) (v:V) (lo hi mx:Option V) (k:V→Prop):Prop :=
 match d with
 | .string=>onStr v fun s=>And2 (mx=none) (bnd hi s.size fun h=>bnd lo 0 fun l=>And2 (l≤h) (And2 (h≤s.size) (k (.lit (.string (s.extract l h))))))
 | .slice e=>onSome (tsz P e) fun n=>onS v n (fun es=>bnd hi es.length fun h=>bnd lo 0 fun l=>And2 (l≤h) (And2 (h≤es.length) (And2 (∀ x,mx=some x→hi.isSome∧bnd mx 0 fun m=>h≤m∧m≤es.length) (k (.list none n ((es.drop l).take (h - l)))))))
   fun b o ln c=>bnd mx c fun m=>bnd hi ln fun h=>bnd lo 0 fun l=>And2 (l≤h) (And2 (h≤m) (And2 (m≤c) (And2 (mx.isSome=true→hi.isSome=true) (k (.lit (.slice (some ⟨b,if m=l then o else o+l * n,none⟩) (h - l) (m - l)))))))
 | _=>False
@[congr] theorem sliceD_congr {P:Program} {d:TypeDesc} {v v':V} {lo lo' hi hi' mx mx':Option V} {k:V→Prop} (h:Todo v=v') (h1:Todo lo=lo') (h2:Todo hi=hi') (h3:Todo mx=mx'):sliceD P d (Todo v) (Todo lo) (Todo hi) (Todo mx) k=sliceD P d v' lo' hi' mx' k:=by rw [← h,← h1,← h2,← h3]
theorem sliceD_string (P:Program) (v:V) (lo hi mx:Option V) (k:V→Prop):sliceD P .string v lo hi mx k=onStr (Todo v) fun s=>And2 (Todo (mx=none)) (bnd (Todo hi) s.size fun h=>bnd (Todo lo) 0 fun l=>And2 (Todo (l≤h)) (And2 (Todo (h≤s.size)) (k (.lit (.string (s.extract l h)))))):=eqq rfl
theorem sliceD_slice (P:Program) (e:TypeId) (v:V) (lo hi:Option V) (k:V→Prop):sliceD P (.slice e) v lo hi none k=onSome (Todo (tsz P e)) fun n=>onS (Todo v) n (fun es=>bnd (Todo hi) es.length fun h=>bnd (Todo lo) 0 fun l=>And2 (Todo (l≤h)) (And2 (Todo (h≤es.length)) (k (.list none n ((es.drop l).take (h - l)))))) fun b o ln c=>bnd (Todo none) c fun m=>bnd (Todo hi) ln fun h=>bnd (Todo lo) 0 fun l=>And2 (Todo (l≤h)) (And2 (Todo (h≤m)) (And2 (Todo (m≤c)) (k (.lit (.slice (some ⟨b,if m=l then o else o+l * n,none⟩) (h - l) (m - l)))))):=by
 simp only [sliceD,And2,Todo_eq];simp
theorem sliceD_slice3 (P:Program) (e:TypeId) (v:V) (lo:Option V) (hi mx:V) (k:V→Prop):sliceD P (.slice e) v lo (some hi) (some mx) k=onSome (Todo (tsz P e)) fun n=>onS (Todo v) n (fun es=>bnd (Todo (some hi)) es.length fun h=>bnd (Todo lo) 0 fun l=>And2 (Todo (l≤h)) (And2 (Todo (h≤es.length)) (And2 (Todo (bnd (Todo (some mx)) 0 fun m=>h≤m∧m≤es.length)) (k (.list none n ((es.drop l).take (h - l))))))) fun b o ln c=>bnd (Todo (some mx)) c fun m=>bnd (Todo (some hi)) ln fun h=>bnd (Todo lo) 0 fun l=>And2 (Todo (l≤h)) (And2 (Todo (h≤m)) (And2 (Todo (m≤c)) (k (.lit (.slice (some ⟨b,if m=l then o else o+l * n,none⟩) (h - l) (m - l)))))):=by
 simp only [sliceD,And2,Todo_eq];simp
@[congr] theorem sliceK_congr {P:Program} {t:TypeId} {v v':V} {lo lo' hi hi' mx mx':Option V} {k:V→Prop} (h:Todo v=v') (h1:Todo lo=lo') (h2:Todo hi=hi') (h3:Todo mx=mx'):sliceK P t (Todo v) (Todo lo) (Todo hi) (Todo mx) k=sliceK P t v' lo' hi' mx' k:=by rw [← h,← h1,← h2,← h3]
theorem sliceK_eq (P:Program) (t:TypeId) (v:V) (lo hi mx:Option V) (k:V→Prop):sliceK P t v lo hi mx k=onSome (Todo (P.underlying t)) fun d=>sliceD P d v lo hi mx k:=by
 simp only [Todo_eq]
 unfold sliceK onSome
 cases P.underlying t with
 | none=>rfl
 | some d =>
  cases d <;> (first | rfl | skip)
  case string=>cases v with
   | lit x=>cases x <;> rfl
   | _=>rfl
  case slice e=>simp only [sliceD,onSome];cases tsz P e <;> rfl
@[congr] theorem buildK_congr {P:Program} {t:TypeId} {ps ps':List (Nat × V)} {k:V→Prop} (h:Todo ps=ps'):buildK P t (Todo ps) k=buildK P t ps' k:=by rw [← h]
theorem buildK_eq (P:Program) (t:TypeId) (ps:List (Nat × V)) (k:V→Prop):buildK P t ps k=onSome (Todo (tzr P t)) fun z=>onSome (Todo (fillV P t (z.map .lit) ps)) fun cs=>k (.agg cs):=by
 simp only [Todo_eq]
 unfold buildK onSome
 cases tzr P t with
 | none=>rfl
 | some z=>simp only [];cases fillV P t (z.map .lit) ps <;> simp
@[congr] theorem nilK_congr {v v':V} {k:V→Prop} (h:Todo v=v'):nilK (Todo v) k=nilK v' k:=by rw [← h]
theorem nilK_ptr (a:Addr) (k:V→Prop):nilK (.lit (.pointer (some a))) k=k (.lit (.pointer (some a))):=eqq rfl
theorem nilK_ref (cs:List V) (k:V→Prop):nilK (.ref cs) k=k (.ref cs):=eqq rfl
theorem nilK_func (g:FuncId) (a b:Array Value) (k:V→Prop):nilK (.lit (.func (.func g) a b)) k=k (.lit (.func (.func g) a b)):=eqq rfl
theorem allocK_eq (P:Program) (S:St) (d:Option Nat) (t:TypeId) (K:St→Prop):allocK P S d t K=onSome (Todo (tzr P t)) fun z=>And2 (Todo (okC (z.map .lit)=true)) (Fresh ((blks S.boxes S.rows)) (fun b=>K ((S.addBox b (z.map .lit)).put d (.lit (.pointer (some ⟨b,0,none⟩))))) .mk):=by
 simp only [Todo_eq]
 unfold allocK onSome And2 Fresh
 cases tzr P t <;> rfl
@[congr] theorem boxK_congr {S:St} {d:Option Nat} {v v':V} {K:St→Prop} (h:Todo v=v'):boxK S d (Todo v) K=boxK S d v' K:=by rw [← h]
theorem boxK_eq (S:St) (d:Option Nat) (v:V) (K:St→Prop):boxK S d v K=onSome (Todo (cellsV v)) fun cs=>And2 (Todo (okC cs=true)) (Fresh ((blks S.boxes S.rows)) (fun b=>K ((S.addBox b cs).put d (.lit (.pointer (some ⟨b,0,none⟩))))) .mk):=by
 simp only [Todo_eq]
 unfold boxK onSome And2 Fresh
 cases cellsV v <;> rfl
def onPtr (v:V) (k:Nat→Nat→Prop):Prop:=match v with | .lit (.pointer (some ⟨b,o,none⟩))=>k b o | _=>False
@[congr] theorem onPtr_congr {v v':V} {k:Nat→Nat→Prop} (h:Todo v=v'):onPtr (Todo v) k=onPtr v' k:=by rw [← h]
theorem onPtr_ptr (b o:Nat) (k:Nat→Nat→Prop):onPtr (.lit (.pointer (some ⟨b,o,none⟩))) k=k b o:=eqq rfl
@[congr] theorem storeK_congr {P:Program} {S:St} {d:Option Nat} {t:TypeId} {p p' v v':V} {K:St→Prop} (h:Todo p=p') (h':Todo v=v'):storeK P S d t (Todo p) (Todo v) K=storeK P S d t p' v' K:=by rw [← h,← h']
theorem storeK_eq (P:Program) (S:St) (d:Option Nat) (t:TypeId) (p v:V) (K:St→Prop):storeK P S d t p v K=onPtr (Todo p) fun b o=>onSome (Todo (getB S.boxes b)) fun cs=>onSome (Todo (cellsV v)) fun vs=>onSome (Todo (tsz P t)) fun n =>
  And2 (Todo (vs.length=n∧okC vs=true∧o+n≤cs.length)) (onVal (Todo (setB S.boxes b (cs.take o++vs++cs.drop (o+n)))) fun bs=>K ((S.setBoxes bs).put d .any)):=by
 have key:∀ b o,storeK P S d t (.lit (.pointer (some ⟨b,o,none⟩))) v K=onSome (getB S.boxes b) fun cs=>onSome (cellsV v) fun vs=>onSome (tsz P t) fun n =>
   And2 (vs.length=n∧okC vs=true∧o+n≤cs.length) (onVal (setB S.boxes b (cs.take o++vs++cs.drop (o+n))) fun bs=>K ((S.setBoxes bs).put d .any)):=fun b o=>by
  simp only [storeK,onSome,And2,St.setBoxes,onVal]
  cases getB S.boxes b with
  | none=>rfl
  | some cs=>cases cellsV v with
   | none=>rfl
   | some vs=>cases tsz P t with
    | none=>rfl
    | some n=>simp only [and_assoc]
 cases p with
 | lit x=>cases x with
  | pointer a=>cases a with
   | none=>rfl
   | some a =>
    obtain⟨b,o,sp⟩:=a
    cases sp with
    | none=>exact key b o
    | some _=>rfl
  | _=>rfl
 | _=>rfl
@[congr] theorem buildSliceK_congr {P:Program} {S:St} {d:Option Nat} {t:TypeId} {n:Nat} {ps ps':List (Nat × V)} {K:St→Prop} (h:Todo ps=ps'):buildSliceK P S d t n (Todo ps) K=buildSliceK P S d t n ps' K:=by rw [← h]
def sliceOf (d:TypeDesc) (k:TypeId→Prop):Prop:=match d with | .slice e=>k e | _=>False
@[congr] theorem sliceOf_congr {d d':TypeDesc} {k:TypeId→Prop} (h:Todo d=d'):sliceOf (Todo d) k=sliceOf d' k:=by rw [← h]
theorem sliceOf_slice (e:TypeId) (k:TypeId→Prop):sliceOf (.slice e) k=k e:=eqq rfl
theorem nilQ_eq (P:Program) (op:BinOp) (t:TypeId) (b:Bool) (K:V→Prop):nilQ P op t b K=onSome (Todo (P.underlying t)) fun u=>sliceOf u fun _=>onSome (Todo (nilB op b)) fun v=>K (.lit (.bool v)):=by
 simp only [Todo_eq]
 unfold nilQ onSome sliceOf
 cases P.underlying t with
 | none=>simp
 | some u=>cases u <;> (first | (cases nilB op b <;> simp;done) | simp)
def boolOf (u:TypeDesc) (A:Prop) (_:Fix A):Prop:=match u with | .bool=>A | _=>False
theorem boolOf_bool (A:Prop) (p:Fix A):boolOf .bool A p=A:=eqq rfl
theorem binK_bool (P:Program) (op:BinOp) (t:TypeId) (a b:Bool) (K:V→Prop):binK P op t (.lit (.bool a)) (.lit (.bool b)) K=onSome (Todo (P.underlying t)) fun u=>boolOf u (onSome (Todo (nilB op (decide (a=b)))) fun v=>K (.lit (.bool v))) .mk:=by
 show boolK P op t a b K=_
 simp only [Todo_eq]
 unfold boolK onSome boolOf
 cases P.underlying t with
 | none=>simp
 | some u =>
  cases h:nilB op (decide (a=b)) with
  | none=>cases u <;> simp [Todo_eq]
  | some v=>cases u <;> simp [Todo_eq]
theorem buildSliceK_eq (P:Program) (S:St) (d:Option Nat) (t:TypeId) (n:Nat) (ps:List (Nat × V)) (K:St→Prop):buildSliceK P S d t n ps K =
  onSome (Todo (P.underlying t)) fun u=>sliceOf u fun e=>onSome (Todo (tsz P e)) fun k=>onSome (Todo (tzr P e)) fun z=>And2 (Todo (0 < k∧z.length=k∧n * k≤16777216)) (onSome (Todo (partsE k 0 ps)) fun es=>And2 (Todo (es.length=n)) (AllV fun y=>K ((S.addRow ⟨y,k,e⟩).put d (.list (some y) k es)))):=by
 simp only [Todo_eq]
 unfold buildSliceK onSome And2 AllV sliceOf
 cases P.underlying t with
 | none=>rfl
 | some u =>
   cases u <;> (first | rfl | skip)
   case slice e=>simp only [];cases tsz P e with
    | none=>rfl
    | some k=>cases tzr P e with
     | none=>rfl
     | some z=>simp only [];cases partsE k 0 ps <;> simp [and_assoc]
@[congr] theorem buildSliceD_congr {P:Program} {t:TypeId} {n:Nat} {ps ps':List (Nat × V)} {k:V→Prop} (h:Todo ps=ps'):buildSliceD P t n (Todo ps) k=buildSliceD P t n ps' k:=by rw [← h]
theorem buildSliceD_eq (P:Program) (t:TypeId) (n:Nat) (ps:List (Nat × V)) (k:V→Prop):buildSliceD P t n ps k =
  onSome (Todo (P.underlying t)) fun u=>sliceOf u fun e=>onSome (Todo (tsz P e)) fun c=>onSome (Todo (tzr P e)) fun z=>And2 (Todo (0 < c∧z.length=c∧n * c≤16777216)) (onSome (Todo (partsE c 0 ps)) fun es=>And2 (Todo (es.length=n)) (k (.list none c es))):=by
 simp only [Todo_eq]
 unfold buildSliceD onSome And2 sliceOf
 cases P.underlying t with
 | none=>rfl
 | some u =>
   cases u <;> (first | rfl | skip)
   case slice e=>simp only [];cases tsz P e with
    | none=>rfl
    | some k=>cases tzr P e with
     | none=>rfl
     | some z=>simp only [];cases partsE k 0 ps <;> simp [and_assoc]
@[congr] theorem appendK_congr {P:Program} {S:St} {d:Option Nat} {t:TypeId} {s s' x x':V} {K:St→Prop} (h:Todo s=s') (h':Todo x=x'):appendK P S d t (Todo s) (Todo x) K=appendK P S d t s' x' K:=by rw [← h,← h']
@[congr] theorem appD_congr {S:St} {d:Option Nat} {k by_:Nat} {e:TypeId} {s s':V} {fs fs':List (List V)} {K:St→Prop} (h:Todo s=s') (h':Todo fs=fs'):appD S d k by_ e (Todo s) (Todo fs) K=appD S d k by_ e s' fs' K:=by rw [← h,← h']
theorem appD_nil (S:St) (d:Option Nat) (k by_:Nat) (e:TypeId) (fs:List (List V)) (K:St→Prop):appD S d k by_ e (.lit (.slice none 0 0)) fs K=And2 (Todo (fs.length * by_≤140737488355328)) (AllV fun y=>K ((S.addRow ⟨y,k,e⟩).put d (.list (some y) k fs))):=eqq rfl
theorem takeR_single (x:Value) (k:Nat) (e:TypeId) (K:Row→List Row→Prop):takeR [⟨x,k,e⟩] x K=K ⟨x,k,e⟩ []:=by simp [takeR]
def takeRF (l:List Row) (y:Value) (K:Row→List Row→Prop) (_:Fix K):Prop:=takeR l y K
theorem takeRF_single (x:Value) (k:Nat) (e:TypeId) (K:Row→List Row→Prop) (p:Fix K):takeRF [⟨x,k,e⟩] x K p=K ⟨x,k,e⟩ []:=takeR_single x k e K
theorem takeRF_1 {x:Value} {k:Nat} {e:TypeId} {rs:List Row} {K:Row→List Row→Prop} {p:Fix K} (h:K ⟨x,k,e⟩ rs):takeRF (⟨x,k,e⟩::rs) x K p:=.inl ⟨rfl,h⟩
theorem takeRF_2 {x:Value} {k:Nat} {e:TypeId} {r:Row} {rs:List Row} {K:Row→List Row→Prop} {p:Fix K} (h:K ⟨x,k,e⟩ (r::rs)):takeRF (r::⟨x,k,e⟩::rs) x K p:=.inr (.inl ⟨rfl,h⟩)
theorem Le.nil (k:Nat):Le (.lit (.slice none 0 0)) (.list none k []):=fun w I x h=>by
 simp only [V.rep] at h
 subst h
 simp only [V.rep]
 exact⟨fun y hy=>by simp at hy,none,0,rfl,Nat.le_refl _,.inl trivial⟩
theorem appD_own (S:St) (d:Option Nat) (k k' by_:Nat) (e:TypeId) (y:Value) (es fs:List (List V)) (K:St→Prop):appD S d k by_ e (.list (some y) k' es) fs K =
  And2 (Todo (k'=k)) (takeRF S.rows y (fun r rs=>And2 (Todo (r.k=k∧r.e=e∧(es.length+fs.length) * by_≤140737488355328)) (AllV fun y'=>K ((S.setRows (⟨y',k,e⟩::rs)).put d (.list (some y') k (es++fs))))) .mk):=eqq rfl
theorem appendK_eq (P:Program) (S:St) (d:Option Nat) (t:TypeId) (sv xv:V) (K:St→Prop):appendK P S d t sv xv K =
  onSome (Todo (P.underlying t)) fun u=>sliceOf u fun e=>onSome (Todo (tsz P e)) fun k=>onSome (Todo (tby P e)) fun by_=>onSome (Todo (tzr P e)) fun z=>And2 (Todo (0 < k∧0 < by_∧z.length=k)) (onL (Todo xv) k fun fs=>appD S d k by_ e (Todo sv) (Todo fs) K):=by
 simp only [Todo_eq]
 unfold appendK onSome And2 sliceOf
 cases P.underlying t with
 | none=>rfl
 | some u =>
   cases u <;> (first | rfl | skip)
   case slice e=>simp only [];cases tsz P e with
    | none=>rfl
    | some k=>cases tby P e with
     | none=>rfl
     | some by_=>cases tzr P e with
      | none=>rfl
      | some z=>rfl
@[congr] theorem takeR_congr {l l':List Row} {y:Value} {K:Row→List Row→Prop} (h:Todo l=l'):takeR (Todo l) y K=takeR l' y K:=by rw [← h]
@[congr] theorem callE_congr {P:Program} {S:St} {d:Option Nat} {f f':V} {as as':List V} {K:St→Prop} (h:Todo f=f') (h':Todo as=as'):callE P S d (Todo f) (Todo as) K=callE P S d f' as' K:=by rw [← h,← h']
@[congr] theorem callK_congr {P:Program} {f f':V} {as as':List V} {k:V→Prop} (h:Todo f=f') (h':Todo as=as'):callK P (Todo f) (Todo as) k=callK P f' as' k:=by rw [← h,← h']
def OkF (P:Program) (f:FuncId) (zs:List V) (bx:List (Nat × B)) (Q:V→List (Nat × B)→List Row→Prop) (_:Fix Q):Prop :=
 ∃ bs lf,bx.Perm (bs++lf)∧Ok P f zs bs fun v bs' rs=>((bs'++lf).map (·.1)).Nodup→Q v (bs'++lf) rs
def onB (b:Bool) (A B:Prop) (_:Fix A) (_:Fix B):Prop:=match b with | true=>A | false=>B
theorem onB_t (A B:Prop) (p:Fix A) (q:Fix B):onB true A B p q=A:=eqq rfl
theorem onB_f (A B:Prop) (p:Fix A) (q:Fix B):onB false A B p q=B:=eqq rfl
def ExtF (P:Program) (S:St) (g:FuncId) (zs:List V) (K:V→Prop) (_:Fix K):Prop:=∃ v,ExtV P S g zs v∧K v
theorem ExtF_of {P:Program} {S:St} {g:FuncId} {zs:List V} {K:V→Prop} {p:Fix K} (v:V) (h:ExtV P S g zs v) (hk:K v):ExtF P S g zs K p:=⟨v,h,hk⟩
theorem callE_func (P:Program) (S:St) (d:Option Nat) (g:FuncId) (first cap:Array Value) (as:List V) (K:St→Prop):callE P S d (.lit (.func (.func g) first cap)) as K =
  onB (callB P g) (OkF P g (first.toList.map .lit++as++cap.toList.map .lit) S.boxes (fun v bs rs=>K (((S.setBoxes bs).setRows (rs++S.rows)).put d v)) .mk) (ExtF P S g (first.toList.map .lit++as++cap.toList.map .lit) (fun v=>K (S.put d v)) .mk) .mk .mk:=by
 simp only [callE]
 cases callB P g <;> rfl
def Clr (n:Nat) (A B:Prop) (_:Fix A) (_:Fix B):Prop:=(n=0→A)∧(0 < n→B)
def clrD (P:Program) (S:St) (d:Option Nat) (e:TypeId) (s:V) (K:St→Prop):Prop:=match s with
 | .lit (.slice none _ _)=>K (S.put d (.lit (.tuple #[])))
 | .lit (.slice (some ⟨b,o,none⟩) n _)=>(n=0→K (S.put d (.lit (.tuple #[]))))∧(0 < n→match tsz P e,tzr P e,getB S.boxes b with
  | some k,some z,some cs=>z.length=k∧okC (z.map .lit)=true∧o+n * k≤cs.length∧K ((S.setBoxes (setB S.boxes b (cs.take o++anys (n * k)++cs.drop (o+n * k)))).put d (.lit (.tuple #[])))
  | _,_,_=>False)
 | _=>False
@[congr] theorem clrD_congr {P:Program} {S:St} {d:Option Nat} {e:TypeId} {s s':V} {K:St→Prop} (h:Todo s=s'):clrD P S d e (Todo s) K=clrD P S d e s' K:=by rw [← h]
theorem clearK_eq (P:Program) (S:St) (d:Option Nat) (t:TypeId) (s:V) (K:St→Prop):clearK P S d t s K=onSome (Todo (P.underlying t)) fun u=>sliceOf u fun e=>clrD P S d e (Todo s) K:=by
 simp only [Todo_eq]
 unfold clearK onSome sliceOf
 cases P.underlying t with
 | none=>rfl
 | some u=>cases u <;> rfl
theorem clrD_nil (P:Program) (S:St) (d:Option Nat) (e:TypeId) (n c:Nat) (K:St→Prop):clrD P S d e (.lit (.slice none n c)) K=K (S.put d (.lit (.tuple #[]))):=eqq rfl
theorem clrD_box (P:Program) (S:St) (d:Option Nat) (e:TypeId) (b o n c:Nat) (K:St→Prop):clrD P S d e (.lit (.slice (some ⟨b,o,none⟩) n c)) K =
  Clr n (K (S.put d (.lit (.tuple #[])))) (onSome (Todo (tsz P e)) fun k=>onSome (Todo (tzr P e)) fun z=>onSome (Todo (getB S.boxes b)) fun cs =>
   And2 (Todo (z.length=k∧okC (z.map .lit)=true∧o+n * k≤cs.length)) (K ((S.setBoxes (setB S.boxes b (cs.take o++anys (n * k)++cs.drop (o+n * k)))).put d (.lit (.tuple #[]))))) .mk .mk:=by
 unfold clrD Clr onSome And2
 simp only [Todo_eq]
 cases tsz P e with
 | none=>rfl
 | some k=>cases tzr P e with
  | none=>rfl
  | some z=>cases getB S.boxes b with
   | none=>rfl
   | some cs=>simp only [and_assoc]
def OkYF (P:Program) (l:Nat) (zs:List V) (bx:List (Nat × B)) (Q:V→List (Nat × B)→List Row→Prop) (_:Fix Q):Prop :=
 ∃ bs lf,bx.Perm (bs++lf)∧OkY P l zs bs fun v bs' rs=>((bs'++lf).map (·.1)).Nodup→Q v (bs'++lf) rs
theorem OkY.mono {P:Program} {l:Nat} {zs:List V} {bs:List (Nat × B)} {Q Q':V→List (Nat × B)→List Row→Prop} (h:OkY P l zs bs Q) (hq:∀ v bs rs,Q v bs rs→Q' v bs rs):OkY P l zs bs Q' :=
 fun w I xs hr hH=>(h w I xs hr hH).mono fun _ _ ⟨x,v,bs',rs',I',h1,h2,h3,h4,h5,h6⟩=>⟨x,v,bs',rs',I',h1,h2,h3,h4,h5,hq _ _ _ h6⟩
theorem OkYF_with {P:Program} {l:Nat} {zs:List V} {bx:List (Nat × B)} {Q:V→List (Nat × B)→List Row→Prop} {p:Fix Q} (bs lf:List (Nat × B)) (hp:bx.Perm (bs++lf)) {Q0:V→List (Nat × B)→List Row→Prop} (h:OkY P l zs bs Q0) (hk:∀ v bs' rs,Q0 v bs' rs→((bs'++lf).map (·.1)).Nodup→Q v (bs'++lf) rs):OkYF P l zs bx Q p :=
 ⟨bs,lf,hp,h.mono hk⟩
theorem callE_yield (P:Program) (S:St) (d:Option Nat) (l:Nat) (first cap:Array Value) (as:List V) (K:St→Prop):callE P S d (.lit (.func (.yield l) first cap)) as K =
  OkYF P l (first.toList.map .lit++as) S.boxes (fun v bs rs=>K (((S.setBoxes bs).setRows (rs++S.rows)).put d v)) .mk:=eqq rfl
def CallV (P:Program) (g:FuncId) (as:List V) (k:V→Prop) (_:Fix k):Prop:=∃ v,OkV P g as v∧k v
theorem callK_func (P:Program) (g:FuncId) (first cap:Array Value) (as:List V) (k:V→Prop):callK P (.lit (.func (.func g) first cap)) as k=And2 (Todo (callB P g=true)) (CallV P g (first.toList.map .lit++as++cap.toList.map .lit) k .mk):=eqq rfl
theorem CallV_of {P:Program} {g:FuncId} {as:List V} {k:V→Prop} {p:Fix k} (v:V) (h:OkV P g as v) (hk:k v):CallV P g as k p:=⟨v,h,hk⟩
theorem OkF_of {P:Program} {g:FuncId} {zs:List V} {bx:List (Nat × B)} {Q:V→List (Nat × B)→List Row→Prop} {p:Fix Q} (v:V) (h:OkP P g zs v) (hk:Q v bx []):OkF P g zs bx Q p :=
 ⟨[],bx,List.Perm.refl _,Ok.mono h fun v' bs rs ⟨e,e',e''⟩=>by subst e;subst e';subst e'';exact fun _=>hk⟩
theorem OkF_with {P:Program} {g:FuncId} {zs:List V} {bx:List (Nat × B)} {Q:V→List (Nat × B)→List Row→Prop} {p:Fix Q} (bs lf:List (Nat × B)) (hp:bx.Perm (bs++lf)) {Q0:V→List (Nat × B)→List Row→Prop} (h:Ok P g zs bs Q0) (hk:∀ v bs' rs,Q0 v bs' rs→Q v (bs'++lf) rs):OkF P g zs bx Q p :=
 ⟨bs,lf,hp,Ok.mono h fun v bs' rs hq _=>hk v bs' rs hq⟩
theorem OkF_withN {P:Program} {g:FuncId} {zs:List V} {bx:List (Nat × B)} {Q:V→List (Nat × B)→List Row→Prop} {p:Fix Q} (bs lf:List (Nat × B)) (hp:bx.Perm (bs++lf)) {Q0:V→List (Nat × B)→List Row→Prop} (h:Ok P g zs bs Q0) (hk:∀ v bs' rs,Q0 v bs' rs→((bs'++lf).map (·.1)).Nodup→Q v (bs'++lf) rs):OkF P g zs bx Q p :=
 ⟨bs,lf,hp,Ok.mono h hk⟩
theorem OkF_back {P:Program} {g:FuncId} {zs:List V} {bx:List (Nat × B)} {Q:V→List (Nat × B)→List Row→Prop} {p:Fix Q} {Q0:V→List (Nat × B)→List Row→Prop} (h:Ok P g zs [] Q0) (hk:∀ v bs' rs,Q0 v bs' rs→Q v (bs'++bx) rs):OkF P g zs bx Q p :=
 ⟨[],bx,List.Perm.refl _,Ok.mono h fun v bs' rs hq _=>hk v bs' rs hq⟩
def Or2 (A B:Prop) (_:Fix A) (_:Fix B):Prop:=A∨B
theorem Or2.l {A B:Prop} {p:Fix A} {q:Fix B} (h:A):Or2 A B p q:=.inl h
theorem Or2.r {A B:Prop} {p:Fix A} {q:Fix B} (h:B):Or2 A B p q:=.inr h
def If2 (c:Prop) [Decidable c] (A B:Prop) (_:Fix A) (_:Fix B):Prop:=if c then A else B
theorem If2_t (A B:Prop) (p:Fix A) (q:Fix B) (i:Decidable True):@If2 True i A B p q=A:=by simp [If2]
theorem If2_f (A B:Prop) (p:Fix A) (q:Fix B) (i:Decidable False):@If2 False i A B p q=B:=by simp [If2]
def Fresh2 (l:List Nat) (n:Nat) (K:Nat→Nat→Prop) (_:Fix K):Prop:=∀ b c,b ∉ l→n≤c→K b c
def srcD (S:St) (u:TypeDesc) (k:Nat) (x:V) (K:Nat→List V→Prop):Prop :=
 match u,x with
 | .slice _,.list _ k' es=>k'=k∧K es.length es.flatten
 | .slice _,.lit (.slice none 0 0)=>K 0 []
 | .slice _,.lit (.slice (some ⟨b,o,none⟩) n _)=>match getB S.boxes b with
  | some cs=>o+n * k≤cs.length∧K n ((cs.drop o).take (n * k))
  | none=>False
 | .string,.lit (.string s)=>k=1∧K s.size (bytesV s)
 | _,_=>False
@[congr] theorem srcD_congr {S:St} {u:TypeDesc} {k:Nat} {x x':V} {K:Nat→List V→Prop} (h:Todo x=x'):srcD S u k (Todo x) K=srcD S u k x' K:=by rw [← h]
@[congr] theorem srcK_congr {P:Program} {S:St} {tx:TypeId} {k:Nat} {x x':V} {K:Nat→List V→Prop} (h:Todo x=x'):srcK P S tx k (Todo x) K=srcK P S tx k x' K:=by rw [← h]
theorem srcD_list (S:St) (e:TypeId) (k:Nat) (a:Option Value) (k':Nat) (es:List (List V)) (K:Nat→List V→Prop):srcD S (.slice e) k (.list a k' es) K=And2 (Todo (k'=k)) (K es.length es.flatten):=eqq rfl
theorem srcD_nil (S:St) (e:TypeId) (k:Nat) (K:Nat→List V→Prop):srcD S (.slice e) k (.lit (.slice none 0 0)) K=K 0 []:=eqq rfl
theorem srcD_box (S:St) (e:TypeId) (k b o n c:Nat) (K:Nat→List V→Prop):srcD S (.slice e) k (.lit (.slice (some ⟨b,o,none⟩) n c)) K=onSome (Todo (getB S.boxes b)) fun cs=>And2 (Todo (o+n * k≤cs.length)) (K n ((cs.drop o).take (n * k))):=by
 simp only [srcD,onSome,Todo_eq];cases getB S.boxes b <;> rfl
theorem srcD_str (S:St) (k:Nat) (s:ByteArray) (K:Nat→List V→Prop):srcD S .string k (.lit (.string s)) K=And2 (Todo (k=1)) (K s.size (bytesV s)):=eqq rfl
theorem srcK_eq (P:Program) (S:St) (tx:TypeId) (k:Nat) (x:V) (K:Nat→List V→Prop):srcK P S tx k x K=onSome (Todo (P.underlying tx)) fun u=>srcD S u k x K:=by
 simp only [Todo_eq]
 unfold srcK onSome
 cases P.underlying tx with
 | none=>rfl
 | some u=>cases u <;> first | rfl | (cases x with
  | lit y=>cases y with
   | slice a n c=>cases a with
    | none=>cases n <;> cases c <;> rfl
    | some a=>obtain⟨b,o,sp⟩:=a;cases sp <;> rfl
   | _=>rfl
  | _=>rfl)
def appAD (S:St) (d:Option Nat) (k by_:Nat) (s:V) (m:Nat) (fs:List V) (K:St→Prop):Prop :=
 match s with
 | .lit (.slice none 0 0)=>0 < m∧m * by_≤140737488355328∧∀ b c,b ∉ blks S.boxes S.rows→m≤c→K ((S.addBox b (fs++anys ((c - m) * k))).put d (.lit (.slice (some ⟨b,0,none⟩) m c)))
 | .lit (.slice (some ⟨b,0,none⟩) n c)=>match getB S.boxes b with
  | some cs=>cs.length=c * k∧n≤c∧(n+m) * by_≤140737488355328∧∀ b' c',b' ∉ blks (remB S.boxes b) S.rows→n+m≤c' →
    K ((S.setBoxes ((b',.c (cs.take (n * k)++fs++anys ((c' - (n+m)) * k)))::remB S.boxes b)).put d (.lit (.slice (some ⟨b',0,none⟩) (n+m) c')))
  | none=>False
 | _=>False
@[congr] theorem appMD_congr {S:St} {d:Option Nat} {k by_ m:Nat} {s s':V} {fs fs':List V} {K:St→Prop} (h:Todo s=s') (h':Todo fs=fs'):appMD S d k by_ (Todo s) m (Todo fs) K=appMD S d k by_ s' m fs' K:=by rw [← h,← h']
@[congr] theorem appAD_congr {S:St} {d:Option Nat} {k by_ m:Nat} {s s':V} {fs fs':List V} {K:St→Prop} (h:Todo s=s') (h':Todo fs=fs'):appAD S d k by_ (Todo s) m (Todo fs) K=appAD S d k by_ s' m fs' K:=by rw [← h,← h']
theorem appMD_box (S:St) (d:Option Nat) (k by_ b o n c m:Nat) (fs:List V) (K:St→Prop):appMD S d k by_ (.lit (.slice (some ⟨b,o,none⟩) n c)) m fs K=onSome (Todo (getB S.boxes b)) fun cs=>And2 (Todo (o+c * k≤cs.length∧n≤c))
  (If2 (n+m≤c) (K ((S.setBoxes (setB S.boxes b (cs.take (o+n * k)++fs++cs.drop (o+n * k+m * k)))).put d (.lit (.slice (some ⟨b,o,none⟩) (n+m) c))))
   (And2 (Todo ((n+m) * by_≤140737488355328)) (Fresh2 (blks S.boxes S.rows) (n+m) (fun b' c'=>K ((S.addBox b' ((cs.drop o).take (n * k)++fs++anys ((c' - (n+m)) * k))).put d (.lit (.slice (some ⟨b',0,none⟩) (n+m) c')))) .mk)) .mk .mk):=by
 simp only [appMD,onSome,Todo_eq]
 cases getB S.boxes b with
 | none=>rfl
 | some cs=>simp only [And2,If2,onIf,Fresh2,and_assoc,Todo_eq]
theorem appAD_nil (S:St) (d:Option Nat) (k by_ m:Nat) (fs:List V) (K:St→Prop):appAD S d k by_ (.lit (.slice none 0 0)) m fs K =
  And2 (Todo (0 < m∧m * by_≤140737488355328)) (Fresh2 (blks S.boxes S.rows) m (fun b c=>K ((S.addBox b (fs++anys ((c - m) * k))).put d (.lit (.slice (some ⟨b,0,none⟩) m c)))) .mk):=by
 simp only [appAD,And2,Fresh2,Todo_eq,and_assoc]
theorem appAD_box (S:St) (d:Option Nat) (k by_ b n c m:Nat) (fs:List V) (K:St→Prop):appAD S d k by_ (.lit (.slice (some ⟨b,0,none⟩) n c)) m fs K=onSome (Todo (getB S.boxes b)) fun cs =>
  And2 (Todo (cs.length=c * k∧n≤c∧(n+m) * by_≤140737488355328)) (Fresh2 (blks (remB S.boxes b) S.rows) (n+m) (fun b' c' =>
    K ((S.setBoxes ((b',.c (cs.take (n * k)++fs++anys ((c' - (n+m)) * k)))::remB S.boxes b)).put d (.lit (.slice (some ⟨b',0,none⟩) (n+m) c')))) .mk):=by
 simp only [appAD,onSome,Todo_eq]
 cases getB S.boxes b with
 | none=>rfl
 | some cs=>simp only [And2,Fresh2,and_assoc]
theorem appMK_eq (P:Program) (S:St) (d:Option Nat) (t tx:TypeId) (s x:V) (K:St→Prop):appMK P S d t tx s x K =
  onSome (Todo (P.underlying t)) fun u=>sliceOf u fun e=>onSome (Todo (tsz P e)) fun k=>onSome (Todo (tby P e)) fun by_=>onSome (Todo (tzr P e)) fun z=>And2 (Todo (0 < by_∧z.length=k∧okC (z.map .lit)=true)) (srcK P S tx k (Todo x) fun m fs=>appMD S d k by_ (Todo s) m (Todo fs) K):=by
 simp only [Todo_eq]
 unfold appMK onSome And2 sliceOf
 cases P.underlying t with
 | none=>rfl
 | some u =>
   cases u <;> (first | rfl | skip)
   case slice e=>simp only [];cases tsz P e with
    | none=>rfl
    | some k=>cases tby P e with
     | none=>rfl
     | some by_=>cases tzr P e with
      | none=>rfl
      | some z=>simp only [and_assoc]
theorem appAK_eq (P:Program) (S:St) (d:Option Nat) (t tx:TypeId) (s x:V) (K:St→Prop):appAK P S d t tx s x K =
  onSome (Todo (P.underlying t)) fun u=>sliceOf u fun e=>onSome (Todo (tsz P e)) fun k=>onSome (Todo (tby P e)) fun by_=>onSome (Todo (tzr P e)) fun z=>And2 (Todo (0 < by_∧z.length=k∧okC (z.map .lit)=true)) (srcK P S tx k (Todo x) fun m fs=>appAD S d k by_ (Todo s) m (Todo fs) K):=by
 simp only [Todo_eq]
 unfold appAK onSome And2 sliceOf
 cases P.underlying t with
 | none=>rfl
 | some u =>
   cases u <;> (first | rfl | skip)
   case slice e=>simp only [];cases tsz P e with
    | none=>rfl
    | some k=>cases tby P e with
     | none=>rfl
     | some by_=>cases tzr P e with
      | none=>rfl
      | some z=>simp only [and_assoc];rfl
@[congr] theorem appendAny_congr {P:Program} {S:St} {d:Option Nat} {t tx:TypeId} {s s' x x':V} {K:St→Prop} (h:Todo s=s') (h':Todo x=x'):appendAny P S d t tx (Todo s) (Todo x) K=appendAny P S d t tx s' x' K:=by rw [← h,← h']
theorem appendAny_own (P:Program) (S:St) (d:Option Nat) (t tx:TypeId) (a a':Option Value) (k k':Nat) (es es':List (List V)) (K:St→Prop):appendAny P S d t tx (.list a k es) (.list a' k' es') K=And2 (Todo (tx=t)) (appendK P S d t (.list a k es) (.list a' k' es') K):=eqq rfl
theorem appendAny_ownN (P:Program) (S:St) (d:Option Nat) (t tx:TypeId) (a:Option Value) (k:Nat) (es:List (List V)) (x:Option Addr) (n c:Nat) (K:St→Prop):appendAny P S d t tx (.list a k es) (.lit (.slice x n c)) K=And2 (Todo (tx=t)) (appendK P S d t (.list a k es) (.lit (.slice x n c)) K):=eqq rfl
theorem appendAny_ownS (P:Program) (S:St) (d:Option Nat) (t tx:TypeId) (a:Option Value) (k:Nat) (es:List (List V)) (b:ByteArray) (K:St→Prop):appendAny P S d t tx (.list a k es) (.lit (.string b)) K=appSK P S d t tx (.list a k es) b K:=eqq rfl
theorem appSK_eq (P:Program) (S:St) (d:Option Nat) (t tx:TypeId) (sv:V) (b:ByteArray) (K:St→Prop):appSK P S d t tx sv b K =
  onSome (Todo (P.underlying t)) fun u=>sliceOf u fun e=>onSome (Todo (tsz P e)) fun k=>onSome (Todo (tby P e)) fun by_=>onSome (Todo (tzr P e)) fun z=>And2 (Todo (P.underlying tx=some .string∧k=1∧0 < by_∧z.length=k)) (appD S d k by_ e (Todo sv) (strE b) K):=by
 simp only [Todo_eq]
 unfold appSK onSome And2 sliceOf
 cases P.underlying t with
 | none=>rfl
 | some u =>
   cases u <;> (first | rfl | skip)
   case slice e=>simp only [];cases tsz P e with
    | none=>rfl
    | some k=>cases tby P e with
     | none=>rfl
     | some by_=>cases tzr P e with
      | none=>rfl
      | some z=>rfl
@[congr] theorem buildAny_congr {P:Program} {S:St} {d:Option Nat} {t:TypeId} {n:Nat} {ps ps':List (Nat × V)} {K:St→Prop} (h:Todo ps=ps'):buildAny P S d t n (Todo ps) K=buildAny P S d t n ps' K:=by rw [← h]
theorem buildAny_zero (P:Program) (S:St) (d:Option Nat) (t:TypeId) (K:St→Prop):buildAny P S d t 0 [] K=Or2 (buildSliceK P S d t 0 [] K) (makeSliceK P S d t (.lit (.int .i64 0)) (.lit (.int .i64 0)) K) .mk .mk:=eqq rfl
theorem buildAny_cons (P:Program) (S:St) (d:Option Nat) (t:TypeId) (n:Nat) (p:Nat × V) (ps:List (Nat × V)) (K:St→Prop):buildAny P S d t n (p::ps) K=buildSliceK P S d t n (p::ps) K:=eqq (by unfold buildAny;cases n <;> rfl)
theorem appendAny_nil (P:Program) (S:St) (d:Option Nat) (t tx:TypeId) (n c:Nat) (x:V) (K:St→Prop):appendAny P S d t tx (.lit (.slice none n c)) x K=Or2 (And2 (Todo (tx=t)) (appendK P S d t (.lit (.slice none n c)) x K)) (appAK P S d t tx (.lit (.slice none n c)) x K) .mk .mk:=eqq rfl
theorem appendAny_zeros (P:Program) (S:St) (d:Option Nat) (t tx:TypeId) (a:Addr) (n c:Nat) (kk:IntKind) (j:Int) (K:St→Prop):appendAny P S d t tx (.lit (.slice (some a) n c)) (.lit (.int kk j)) K=appZK P S d t tx (.lit (.slice (some a) n c)) (.lit (.int kk j)) K:=eqq rfl
theorem appendAny_list (P:Program) (S:St) (d:Option Nat) (t tx:TypeId) (a:Addr) (n c:Nat) (o:Option Value) (k:Nat) (es:List (List V)) (K:St→Prop):appendAny P S d t tx (.lit (.slice (some a) n c)) (.list o k es) K=Or2 (appMK P S d t tx (.lit (.slice (some a) n c)) (.list o k es) K) (appAK P S d t tx (.lit (.slice (some a) n c)) (.list o k es) K) .mk .mk:=eqq rfl
theorem appendAny_slice (P:Program) (S:St) (d:Option Nat) (t tx:TypeId) (a:Addr) (n c:Nat) (a':Option Addr) (n' c':Nat) (K:St→Prop):appendAny P S d t tx (.lit (.slice (some a) n c)) (.lit (.slice a' n' c')) K=Or2 (appMK P S d t tx (.lit (.slice (some a) n c)) (.lit (.slice a' n' c')) K) (appAK P S d t tx (.lit (.slice (some a) n c)) (.lit (.slice a' n' c')) K) .mk .mk:=eqq rfl
theorem appendAny_str (P:Program) (S:St) (d:Option Nat) (t tx:TypeId) (a:Addr) (n c:Nat) (b:ByteArray) (K:St→Prop):appendAny P S d t tx (.lit (.slice (some a) n c)) (.lit (.string b)) K=Or2 (appMK P S d t tx (.lit (.slice (some a) n c)) (.lit (.string b)) K) (appAK P S d t tx (.lit (.slice (some a) n c)) (.lit (.string b)) K) .mk .mk:=eqq rfl
def copyD (S:St) (d:Option Nat) (k:Nat) (s:V) (m:Nat) (fs:List V) (K:St→Prop):Prop :=
 match s with
 | .lit (.slice none 0 0)=>K (S.put d (.lit (.int .i64 0)))
 | .lit (.slice (some ⟨b,o,none⟩) n _)=>match getB S.boxes b with
  | some cs=>o+n * k≤cs.length∧K ((S.setBoxes (setB S.boxes b (cs.take o++fs.take (min m n * k)++cs.drop (o+min m n * k)))).put d (.lit (.int .i64 (min m n:Nat))))
  | none=>False
 | _=>False
@[congr] theorem copyD_congr {S:St} {d:Option Nat} {k m:Nat} {s s':V} {fs fs':List V} {K:St→Prop} (h:Todo s=s') (h':Todo fs=fs'):copyD S d k (Todo s) m (Todo fs) K=copyD S d k s' m fs' K:=by rw [← h,← h']
theorem copyD_nil (S:St) (d:Option Nat) (k m:Nat) (fs:List V) (K:St→Prop):copyD S d k (.lit (.slice none 0 0)) m fs K=K (S.put d (.lit (.int .i64 0))):=eqq rfl
theorem copyD_box (S:St) (d:Option Nat) (k b o n c m:Nat) (fs:List V) (K:St→Prop):copyD S d k (.lit (.slice (some ⟨b,o,none⟩) n c)) m fs K=onSome (Todo (getB S.boxes b)) fun cs=>And2 (Todo (o+n * k≤cs.length))
  (K ((S.setBoxes (setB S.boxes b (cs.take o++fs.take (min m n * k)++cs.drop (o+min m n * k)))).put d (.lit (.int .i64 (min m n:Nat))))):=by
 simp only [copyD,onSome,Todo_eq]
 cases getB S.boxes b <;> rfl
theorem copyK_eq (P:Program) (S:St) (d:Option Nat) (t tx:TypeId) (s x:V) (K:St→Prop):copyK P S d t tx s x K =
  onSome (Todo (P.underlying t)) fun u=>sliceOf u fun e=>onSome (Todo (tsz P e)) fun k=>srcK P S tx k (Todo x) fun m fs=>copyD S d k (Todo s) m (Todo fs) K:=by
 simp only [Todo_eq]
 unfold copyK onSome sliceOf
 cases P.underlying t with
 | none=>rfl
 | some u =>
   cases u <;> (first | rfl | skip)
   case slice e=>simp only [];cases tsz P e <;> rfl
@[congr] theorem makeSliceK_congr {P:Program} {S:St} {d:Option Nat} {t:TypeId} {l l' c c':V} {K:St→Prop} (h:Todo l=l') (h':Todo c=c'):makeSliceK P S d t (Todo l) (Todo c) K=makeSliceK P S d t l' c' K:=by rw [← h,← h']
theorem makeSliceK_int (P:Program) (S:St) (d:Option Nat) (t:TypeId) (kl kc:IntKind) (l c:Int) (K:St→Prop):makeSliceK P S d t (.lit (.int kl l)) (.lit (.int kc c)) K =
  onSome (Todo (P.underlying t)) fun u=>sliceOf u fun e=>onSome (Todo (tsz P e)) fun k=>onSome (Todo (tby P e)) fun by_=>onSome (Todo (tzr P e)) fun z =>
   And2 (Todo (z.length=k∧0 < k∧okC (z.map .lit)=true)) (And2 (Todo (0≤l∧l≤c∧c.toNat * by_≤140737488355328∧c≤140737488355328)) (Fresh (blks S.boxes S.rows) (fun b=>K ((S.addBox b ((List.replicate c.toNat (z.map V.lit)).flatten)).put d (.lit (.slice (some ⟨b,0,none⟩) l.toNat c.toNat)))) .mk)):=by
 simp only [Todo_eq]
 unfold makeSliceK onSome sliceOf And2 Fresh
 cases P.underlying t with
 | none=>rfl
 | some u =>
   cases u <;> (first | rfl | skip)
   case slice e=>simp only [];cases tsz P e with
    | none=>rfl
    | some k=>cases tby P e with
     | none=>rfl
     | some by_=>cases tzr P e with
      | none=>rfl
      | some z=>simp only [and_assoc]
theorem appZK_int (P:Program) (S:St) (d:Option Nat) (t tx:TypeId) (b o n c:Nat) (kk:IntKind) (j:Int) (K:St→Prop)
  (h:onSome (P.underlying t) fun u=>sliceOf u fun e=>onSome (P.underlying tx) fun ux=>(∃ q,ux=.int q)∧onSome (tsz P e) fun k=>onSome (tby P e) fun by_=>onSome (tzr P e) fun z=>onSome (getB S.boxes b) fun cs =>
   (0 < by_∧0 < k∧z.length=k∧okC (z.map .lit)=true)∧0 < j∧o+n * k≤cs.length∧c < n+j.toNat∧(n+j.toNat) * by_≤140737488355328 ∧
    ∀ b' c',b' ∉ blks S.boxes S.rows→n+j.toNat≤c'→K ((S.addBox b' ((cs.drop o).take (n * k)++anys ((c' - n) * k))).put d (.lit (.slice (some ⟨b',0,none⟩) (n+j.toNat) c')))) :
  appZK P S d t tx (.lit (.slice (some ⟨b,o,none⟩) n c)) (.lit (.int kk j)) K:=by
 unfold onSome at h
 unfold appZK
 cases hu:P.underlying t with
 | none=>simp only [hu] at h
 | some u =>
  simp only [hu] at h
  cases u <;> simp only [sliceOf] at h
  case slice e =>
   cases hx:P.underlying tx with
   | none=>simp only [hx] at h
   | some ux =>
    simp only [hx] at h
    obtain⟨⟨q,rfl⟩,h⟩:=h
    simp only []
    cases hk:tsz P e with
    | none=>simp only [hk] at h
    | some k=>cases hby:tby P e with
     | none=>simp only [hk,hby] at h
     | some by_=>cases hz:tzr P e with
      | none=>simp only [hk,hby,hz] at h
      | some z=>cases hb:getB S.boxes b with
       | none=>simp only [hk,hby,hz,hb] at h
       | some cs =>
        simp only [hk,hby,hz,hb] at h
        obtain⟨⟨g1,g2,g3,g4⟩,h⟩:=h
        exact⟨g1,g2,g3,g4,h⟩
end Go.VL
