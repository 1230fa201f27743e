/- Merged out of my text V15. -/
import Derived.Test.YtohdpcjaoiebkaaGreatDoorKV14
set_option linter.unusedSimpArgs false
set_option linter.unusedVariables false
namespace Go.VL
open Go.RowKit
def qc {α:Sort _} (a:α):α:=a
theorem qh {α:Sort _} {a b:α} (h:a=b):a=b:=h
theorem qs {α:Sort _} (a:α):qc a=a:=qh rfl
def QE {α:Type} (a:α) (k:α→Prop):Prop:=k a
@[congr] theorem qx6 {α:Type} {a a':α} {k:α→Prop} (h:qc a=a'):QE (qc a) k=QE a' k:=by rw [← h]
theorem xy {α:Type} (a:α) (k:α→Prop):QE a k=k a:=qh rfl
def qj {α:Type} (o:Option α) (k:α→Prop):Prop:=match o with | some a=>k a | none=>False
@[congr] theorem qus {α:Type} {o o':Option α} {k:α→Prop} (h:qc o=o'):qj (qc o) k=qj o' k:=by rw [← h]
theorem xW {α:Type} (a:α) (k:α→Prop):qj (some a) k=k a:=qh rfl
def xB (v:V) (k:IntKind→Int→Prop):Prop:=match v with | .lit (.int kk j)=>k kk j | _=>False
@[congr] theorem qya {v v':V} {k:IntKind→Int→Prop} (h:qc v=v'):xB (qc v) k=xB v' k:=by rw [← h]
theorem qkl (kk:IntKind) (j:Int) (k:IntKind→Int→Prop):xB (.lit (.int kk j)) k=k kk j:=qh rfl
def jr (v:V) (k:ByteArray→Prop):Prop:=match v with | .lit (.string s)=>k s | _=>False
@[congr] theorem qx8 {v v':V} {k:ByteArray→Prop} (h:qc v=v'):jr (qc v) k=jr v' k:=by rw [← h]
theorem qkk (s:ByteArray) (k:ByteArray→Prop):jr (.lit (.string s)) k=k s:=qh rfl
def uC (v:V) (k:List V→Prop):Prop:=match v with | .agg cs=>k cs | _=>False
@[congr] theorem qyb {v v':V} {k:List V→Prop} (h:qc v=v'):uC (qc v) k=uC v' k:=by rw [← h]
theorem qkm (cs:List V) (k:List V→Prop):uC (.agg cs) k=k cs:=qh rfl
def YY (v:V) (k:List V→Prop):Prop:=match v with | .tup cs=>k cs | _=>False
@[congr] theorem qx7 {v v':V} {k:List V→Prop} (h:qc v=v'):YY (qc v) k=YY v' k:=by rw [← h]
theorem qkj (cs:List V) (k:List V→Prop):YY (.tup cs) k=k cs:=qh rfl
def ji (cs:List V) (k:V→Prop):Prop:=match cs with | c::_=>k c | []=>False
@[congr] theorem qux {v v':List V} {k:V→Prop} (h:qc v=v'):ji (qc v) k=ji v' k:=by rw [← h]
theorem yc (c:V) (cs:List V) (k:V→Prop):ji (c::cs) k=k c:=qh rfl
def qfd (v:V) (k:Bool→Prop):Prop:=match v with | .lit (.bool b)=>k b | _=>False
@[congr] theorem quy {v v':V} {k:Bool→Prop} (h:qc v=v'):qfd (qc v) k=qfd v' k:=by rw [← h]
theorem qbb (b:Bool) (k:Bool→Prop):qfd (.lit (.bool b)) k=k b:=qh rfl
def zP (v:V) (w:Bool) (A B:Prop) (_:zH A) (_:zH B):Prop:=match v with | .lit x=>if isB x w=true then A else B | _=>False
theorem qe6 (A B:Prop) (p:zH A) (q:zH B):zP (.lit (.bool true)) true A B p q=A:=by simp [zP,isB]
theorem qe8 (A B:Prop) (p:zH A) (q:zH B):zP (.lit (.bool false)) true A B p q=B:=by simp [zP,isB]
theorem qe7 (A B:Prop) (p:zH A) (q:zH B):zP (.lit (.bool true)) false A B p q=B:=by simp [zP,isB]
theorem qe9 (A B:Prop) (p:zH A) (q:zH B):zP (.lit (.bool false)) false A B p q=A:=by simp [zP,isB]
theorem VW (w:Bool) (A B:Prop) (p:zH A) (q:zH B):zP wA w A B p q=B:=by simp [zP,isB,wA,undef]
theorem qr {b:Bool} {A B:Prop} {p:zH A} {q:zH B} (h:b=true→A) (h':b=false→B):zP (.lit (.bool b)) true A B p q:=by
 cases b
 ·simp [zP,isB];exact h' rfl
 ·simp [zP,isB];exact h rfl
theorem qq {b:Bool} {A B:Prop} {p:zH A} {q:zH B} (h:b=false→A) (h':b=true→B):zP (.lit (.bool b)) false A B p q:=by
 cases b
 ·simp [zP,isB];exact h rfl
 ·simp [zP,isB];exact h' rfl
def jj (v:V) (A B:Prop) (_:zH A) (_:zH B):Prop:=match v with | .lit (.bool b)=>if b=true then A else B | _=>False
theorem qp9 (A B:Prop) (p:zH A) (q:zH B):jj (.lit (.bool true)) A B p q=A:=by simp [jj]
theorem qba (A B:Prop) (p:zH A) (q:zH B):jj (.lit (.bool false)) A B p q=B:=by simp [jj]
theorem qe {b:Bool} {A B:Prop} {p:zH A} {q:zH B} (h:b=true→A) (h':b=false→B):jj (.lit (.bool b)) A B p q:=by
 cases b
 ·simp [jj];exact h' rfl
 ·simp [jj];exact h rfl
@[congr] theorem qBm {A A' B:Prop} (h:qc A=A'):qy (qc A) B=qy A' B:=by rw [← h]
theorem vi (B:Prop):qy True B=B:=by simp [qy]
def ub (l:List Nat) (K:Nat→Prop) (_:zH K):Prop:=∀ b,b ∉ l→K b
theorem qxd (K:Value→Prop):qho K=∀ y,K y:=qh rfl
@[congr] theorem qBr {v v':V} {k:Nat} {K:List (List V)→Prop} (h:qc v=v'):onL (qc v) k K=onL v' k K:=by rw [← h]
theorem qp7 (a:Option Value) (k' k:Nat) (es:List (List V)) (K:List (List V)→Prop):onL (.list a k' es) k K=qy (qc (k'=k)) (K es):=qh rfl
theorem quw (k:Nat) (K:List (List V)→Prop):onL (.lit (.slice none 0 0)) k K=K []:=qh rfl
@[congr] theorem qBp {v v':V} {k:Nat} {KL:List (List V)→Prop} {KM:Nat→Nat→Nat→Nat→Prop} (h:qc v=v'):onS (qc v) k KL KM=onS v' k KL KM:=by rw [← h]
theorem qp0 (a:Option Value) (k' k:Nat) (es:List (List V)) (KL:List (List V)→Prop) (KM:Nat→Nat→Nat→Nat→Prop):onS (.list a k' es) k KL KM=qy (qc (k'=k)) (KL es):=qh rfl
theorem qut (k:Nat) (KL:List (List V)→Prop) (KM:Nat→Nat→Nat→Nat→Prop):onS (.lit (.slice none 0 0)) k KL KM=KL []:=qh rfl
theorem quu (b o n c k:Nat) (KL:List (List V)→Prop) (KM:Nat→Nat→Nat→Nat→Prop):onS (.lit (.slice (some ⟨b,o,none⟩) n c)) k KL KM=KM b o n c:=qh rfl
@[congr] theorem qBt {v v':Option V} {d:Nat} {K:Nat→Prop} (h:qc v=v'):bnd (qc v) d K=bnd v' d K:=by rw [← h]
theorem qsl (d:Nat) (K:Nat→Prop):bnd none d K=K d:=qh rfl
theorem qwi (kk:IntKind) (j:Int) (d:Nat) (K:Nat→Prop):bnd (some (.lit (.int kk j))) d K=qy (qc (0≤j)) (K j.toNat):=qh rfl
@[congr] theorem qui {v v':V} {off:Nat} {k:V→Prop} (h:qc v=v'):shiftP (qc v) off k=shiftP v' off k:=by rw [← h]
theorem qel (cs:List V) (off:Nat) (k:V→Prop):shiftP (.ref cs) off k=k (.ref (cs.drop off)):=qh rfl
theorem vm (b o off:Nat) (k:V→Prop):shiftP (.lit (.pointer (some ⟨b,o,none⟩))) off k=k (.lit (.pointer (some ⟨b,o+off,none⟩))):=qh rfl
@[congr] theorem qBu {S:St} {v v':V} {k:List V→Prop} (h:qc v=v'):atP S (qc v) k=atP S v' k:=by rw [← h]
theorem qwj (S:St) (cs:List V) (k:List V→Prop):atP S (.ref cs) k=k cs:=qh rfl
theorem KF (S:St) (b o:Nat) (k:List V→Prop):atP S (.lit (.pointer (some ⟨b,o,none⟩))) k=qj (qc (zu S.boxes b)) fun cs=>k (cs.drop o):=by
 simp only [atP,qj];cases zu S.boxes b <;> rfl
def X5 (isA:Bool) (n:Nat) (cs:List V) (k:V→Prop):Prop:=if isA then qy (n≤cs.length) (k (.agg (cs.take n))) else ji cs k
@[congr] theorem qyh {a:Bool} {n:Nat} {cs cs':List V} {k:V→Prop} (h:qc cs=cs'):X5 a n (qc cs) k=X5 a n cs' k:=by rw [← h]
theorem qk0 (n:Nat) (cs:List V) (k:V→Prop):X5 true n cs k=qy (qc (n≤cs.length)) (QE (qc (V.agg (cs.take n))) k):=qh rfl
theorem u3 (n:Nat) (cs:List V) (k:V→Prop):X5 false n cs k=ji (qc cs) k:=qh rfl
@[congr] theorem qyg {P:Program} {t:TypeId} {cs cs':List V} {k:V→Prop} (h:qc cs=cs'):loadK P t (qc cs) k=loadK P t cs' k:=by rw [← h]
theorem yT (P:Program) (t:TypeId) (cs:List V) (k:V→Prop):loadK P t cs k=qj (qc (zN P t)) fun a=>qj (qc (qV P t)) fun n=>X5 a n cs k:=by
 simp only [qs]
 unfold loadK qj X5 ji
 cases zN P t with
 | none=>rfl
 | some a=>cases qV P t with
  | none=>cases a <;> rfl
  | some n=>cases a <;> rfl
def XY (isA:Bool) (n:Nat) (cs:List V) (k:V→Prop):Prop:=if isA then k (.agg (cs.take n)) else ji cs k
@[congr] theorem qx5 {a:Bool} {n:Nat} {cs cs':List V} {k:V→Prop} (h:qc cs=cs'):XY a n (qc cs) k=XY a n cs' k:=by rw [← h]
theorem qki (n:Nat) (cs:List V) (k:V→Prop):XY true n cs k=QE (qc (V.agg (cs.take n))) k:=qh rfl
theorem qkh (n:Nat) (cs:List V) (k:V→Prop):XY false n cs k=ji (qc cs) k:=qh rfl
@[congr] theorem qx4 {P:Program} {t:TypeId} {cs cs':List V} {off:Nat} {k:V→Prop} (h:qc cs=cs'):partK P t (qc cs) off k=partK P t cs' off k:=by rw [← h]
theorem Wt (P:Program) (t:TypeId) (cs:List V) (off:Nat) (k:V→Prop):partK P t cs off k=qj (qc (zN P t)) fun a=>qj (qc (qV P t)) fun n=>XY a n (cs.drop off) k:=by
 simp only [qs]
 unfold partK qj XY ji
 cases zN P t with
 | none=>rfl
 | some a=>cases qV P t with
  | none=>cases a <;> rfl
  | some n=>cases a <;> rfl
@[congr] theorem qlz {P:Program} {bx:List (Nat × B)} {s:TypeId} {f:Nat} {v v':V} {k:V→Prop} (h:qc v=v'):fieldAddrK P bx s f (qc v) k=fieldAddrK P bx s f v' k:=by rw [← h]
def qa0 (n:Nat) (A Z:Prop):Prop:=match n with | 0=>Z | _+1=>A
@[congr] theorem qzz {n n':Nat} {A Z:Prop} (h:qc n=n'):qa0 (qc n) A Z=qa0 n' A Z:=by rw [← h]
theorem uZ (n:Nat) (A Z:Prop):qa0 (n+1) A Z=A:=qh rfl
theorem qkf (A Z:Prop):qa0 0 A Z=Z:=qh rfl
@[congr] theorem qxe {P:Program} {bx bx':List (Nat × B)} {s:TypeId} {f:Nat} {v v':V} {k:V→Prop} (h:qc v=v') (h':qc bx=bx'):zeroP P (qc bx) s f (qc v) k=zeroP P bx' s f v' k:=by rw [← h,← h']
theorem qjg (P:Program) (bx:List (Nat × B)) (s:TypeId) (f:Nat) (b o:Nat) (k:V→Prop):zeroP P bx s f (.lit (.pointer (some ⟨b,o,none⟩))) k=qj (qc (zu bx b)) fun _=>qy (qc (qid P=true∧fz P s f=true)) (k (.lit (.pointer (some ⟨b,o,none⟩)))):=by
 simp only [zeroP,qj,qy,qs]
 cases zu bx b <;> rfl
theorem xN (P:Program) (bx:List (Nat × B)) (s:TypeId) (f:Nat) (v:V) (k:V→Prop):fieldAddrK P bx s f v k=qj (qc (fld P s f)) fun p=>qj (qc (qV P p.2)) fun n=>qa0 (qc n) (shiftP (qc v) p.1 k) (zeroP P (qc bx) s f (qc v) k):=by
 simp only [qs]
 unfold fieldAddrK qj qa0
 cases fld P s f with
 | none=>rfl
 | some p =>
  obtain⟨off,t⟩:=p
  simp only []
  cases qV P t with
  | none=>rfl
  | some n=>cases n <;> rfl
@[congr] theorem qvv {P:Program} {s:TypeId} {f:Nat} {v v':V} {k:V→Prop} (h:qc v=v'):fieldK P s f (qc v) k=fieldK P s f v' k:=by rw [← h]
theorem Xm (P:Program) (s:TypeId) (f:Nat) (v:V) (k:V→Prop):fieldK P s f v k=qj (qc (fld P s f)) fun p=>uC (qc v) fun cs=>partK P p.2 cs p.1 k:=by
 simp only [qs]
 unfold fieldK qj uC
 cases fld P s f with
 | none=>rfl
 | some p=>cases v <;> rfl
def xK (P:Program) (d:TypeDesc) (v i:V) (k:V→Prop):Prop :=
 match d with
 | .slice e=>qj (qV P e) fun n=>xB i fun _ j=>onS v n (fun es=>qy (0≤j) (qy (j < es.length) (k (.ref (es.getD j.toNat []))))) fun b o l _=>qy (0≤j) (qy (j < l) (k (.lit (.pointer (some ⟨b,o+j.toNat * n,none⟩)))))
 | .array len e=>qj (qV P e) fun n=>xB i fun _ j=>qy (0≤j) (qy (j < len) (shiftP v (j.toNat * n) k))
 | _=>False
@[congr] theorem qre {P:Program} {d:TypeDesc} {v v' i i':V} {k:V→Prop} (h:qc v=v') (h':qc i=i'):xK P d (qc v) (qc i) k=xK P d v' i' k:=by rw [← h,← h']
theorem WV (P:Program) (e:TypeId) (v i:V) (k:V→Prop):xK P (.slice e) v i k=qj (qc (qV P e)) fun n=>xB (qc i) fun _ j=>onS (qc v) n (fun es=>qy (qc (0≤j)) (qy (qc (j < es.length)) (k (.ref (es.getD j.toNat []))))) fun b o l _=>qy (qc (0≤j)) (qy (qc (j < l)) (k (.lit (.pointer (some ⟨b,o+j.toNat * n,none⟩))))):=qh rfl
theorem WW (P:Program) (len:Nat) (e:TypeId) (v i:V) (k:V→Prop):xK P (.array len e) v i k=qj (qc (qV P e)) fun n=>xB (qc i) fun _ j=>qy (qc (0≤j)) (qy (qc (j < len)) (shiftP (qc v) (j.toNat * n) k)):=qh rfl
@[congr] theorem qrd {P:Program} {t:TypeId} {v v' i i':V} {k:V→Prop} (h:qc v=v') (h':qc i=i'):idxAddrK P t (qc v) (qc i) k=idxAddrK P t v' i' k:=by rw [← h,← h']
theorem uJ (P:Program) (t:TypeId) (v i:V) (k:V→Prop):idxAddrK P t v i k=qj (qc (P.underlying t)) fun d=>xK P d v i k:=by
 simp only [qs]
 unfold idxAddrK qj
 cases P.underlying t with
 | none=>rfl
 | some d =>
  cases d <;> (first | rfl | skip)
  case slice e =>
   cases i with
   | lit x=>cases x <;> (simp only [xK,xB,qj,qy];cases qV P e <;> rfl)
   | _=>simp only [xK,xB,qj];cases qV P e <;> rfl
  case array len e =>
   cases i with
   | lit x=>cases x <;> (simp only [xK,xB,qj,qy];cases qV P e <;> rfl)
   | _=>simp only [xK,xB,qj];cases qV P e <;> rfl
def V5 (P:Program) (d:TypeDesc) (v i:V) (k:V→Prop):Prop :=
 match d with
 | .string=>jr v fun s=>xB i fun _ j=>qy (0≤j) (qy (j < s.size) (k (.lit (.int .u8 (s.data.toList.getD j.toNat 0).toNat))))
 | .array len e=>uC v fun cs=>xB i fun _ j=>qj (qV P e) fun n=>qy (0≤j) (qy (j < len) (partK P e cs (j.toNat * n) k))
 | _=>False
@[congr] theorem qAq {P:Program} {d:TypeDesc} {v v' i i':V} {k:V→Prop} (h:qc v=v') (h':qc i=i'):V5 P d (qc v) (qc i) k=V5 P d v' i' k:=by rw [← h,← h']
theorem qb2 (P:Program) (v i:V) (k:V→Prop):V5 P .string v i k=jr (qc v) fun s=>xB (qc i) fun _ j=>qy (qc (0≤j)) (qy (qc (j < s.size)) (k (.lit (.int .u8 (s.data.toList.getD j.toNat 0).toNat)))):=qh rfl
theorem qf6 (P:Program) (len:Nat) (e:TypeId) (v i:V) (k:V→Prop):V5 P (.array len e) v i k=uC (qc v) fun cs=>xB (qc i) fun _ j=>qj (qc (qV P e)) fun n=>qy (qc (0≤j)) (qy (qc (j < len)) (partK P e cs (j.toNat * n) k)):=qh rfl
@[congr] theorem qAp {P:Program} {t:TypeId} {v v' i i':V} {k:V→Prop} (h:qc v=v') (h':qc i=i'):idxK P t (qc v) (qc i) k=idxK P t v' i' k:=by rw [← h,← h']
theorem V4 (P:Program) (t:TypeId) (v i:V) (k:V→Prop):idxK P t v i k=qj (qc (P.underlying t)) fun d=>V5 P d v i k:=by
 simp only [qs]
 unfold idxK qj
 cases P.underlying t with
 | none=>rfl
 | some d =>
  cases d <;> (first | rfl | skip)
  case string =>
   cases v with
   | lit x=>cases x <;> (first | rfl | (cases i with | lit y=>cases y <;> rfl | _=>rfl))
   | _=>rfl
  case array len e =>
   cases v with
   | agg cs=>cases i with
    | lit y=>cases y <;> (first | rfl | (simp only [V5,uC,xB,qj,qy];cases qV P e <;> rfl))
    | _=>rfl
   | _=>rfl
@[congr] theorem qA4 {P:Program} {op:BinOp} {t:TypeId} {x x' y y':V} {k:V→Prop} (h:qc x=x') (h':qc y=y'):binK P op t (qc x) (qc y) k=binK P op t x' y' k:=by rw [← h,← h']
theorem qdc (P:Program) (op:BinOp) (t:TypeId) (k k':IntKind) (a b:Int) (K:V→Prop):binK P op t (.lit (.int k a)) (.lit (.int k' b)) K=qj (qc (kD op (.int k a) (.int k' b))) fun v=>K (.lit v):=by
 simp only [binK,qj]
 rw [qs]
 cases h:kD op (.int k a) (.int k' b) <;> simp
theorem qsm (P:Program) (op:BinOp) (t:TypeId) (a b:ByteArray) (K:V→Prop):binK P op t (.lit (.string a)) (.lit (.string b)) K=qj (qc (kD op (.string a) (.string b))) fun v=>K (.lit v):=by
 simp only [binK,qj]
 rw [qs]
 cases h:kD op (.string a) (.string b) <;> simp
theorem qsn (P:Program) (op:BinOp) (t:TypeId) (p:Option Addr) (n c:Nat) (K:V→Prop):binK P op t (.lit (.slice p n c)) (.lit (.slice none 0 0)) K=qkp P op t p.isNone K:=qh rfl
theorem qmz (P:Program) (op:BinOp) (t:TypeId) (o:Option Value) (k:Nat) (es:List (List V)) (K:V→Prop):binK P op t (.list o k es) (.lit (.slice none 0 0)) K=qy (qc (es ≠ []∨WF o=true)) (qkp P op t false K):=qh rfl
theorem qbc (p:Addr) (n c:Nat):WF (some (.slice (some p) n c))=true:=qh rfl
theorem qbd:WF none=false:=qh rfl
def EqK (P:Program) (op:BinOp) (t:TypeId) (xs ys:List V) (k:V→Prop):Prop:=∃ l m b,vals xs=some l∧vals ys=some m∧JC P op t l m b∧k (.lit (.bool b))
@[congr] theorem qBy {P:Program} {op:BinOp} {t:TypeId} {x x' y y':List V} {k:V→Prop} (h:qc x=x') (h':qc y=y'):EqK P op t (qc x) (qc y) k=EqK P op t x' y' k:=by rw [← h,← h']
theorem qso (P:Program) (op:BinOp) (t:TypeId) (xs ys:List V) (k:V→Prop):binK P op t (.agg xs) (.agg ys) k=EqK P op t xs ys k:=qh rfl
def unK (op:UnOp) (x:V) (k:V→Prop):Prop:=match x with | .lit a=>∃ v,sun op a=some v∧k (.lit v) | _=>False
@[congr] theorem qBn {op:UnOp} {x x':V} {k:V→Prop} (h:qc x=x'):unK op (qc x) k=unK op x' k:=by rw [← h]
theorem qt8 (op:UnOp) (a:Value) (k:V→Prop):unK op (.lit a) k=qj (qc (sun op a)) fun v=>k (.lit v):=by
 simp only [unK,qj]
 rw [qs]
 cases h:sun op a <;> simp
def ZR (d:TypeDesc) (v:V) (k:V→Prop):Prop :=
 match d with
 | .int kk=>xB v fun _ n=>k (.lit (.int kk (kk.wrap n)))
 | .string=>jr v fun s=>k (.lit (.string s))
 | _=>False
@[congr] theorem qyy {d:TypeDesc} {v v':V} {k:V→Prop} (h:qc v=v'):ZR d (qc v) k=ZR d v' k:=by rw [← h]
theorem qmi (kk:IntKind) (v:V) (k:V→Prop):ZR (.int kk) v k=xB (qc v) fun _ n=>k (.lit (.int kk (kk.wrap n))):=qh rfl
theorem Uh (v:V) (k:V→Prop):ZR .string v k=jr (qc v) fun s=>k (.lit (.string s)):=qh rfl
@[congr] theorem qyw {P:Program} {s d:TypeId} {v v':V} {k:V→Prop} (h:qc v=v'):convK P s d (qc v) k=convK P s d v' k:=by rw [← h]
theorem ZQ (P:Program) (src dst:TypeId) (v:V) (k:V→Prop):convK P src dst v k=qj (qc (P.underlying src)) fun _=>qj (qc (P.underlying dst)) fun d=>ZR d v k:=by
 simp only [qs]
 unfold convK qj
 cases P.underlying src with
 | none=>rfl
 | some d'=>cases P.underlying dst with
  | none=>rfl
  | some d=>cases d <;> (first | rfl | (cases v with | lit x=>cases x <;> rfl | _=>rfl))
def Jf (P:Program) (S:St) (ds d:TypeDesc) (v:V) (k:V→Prop):Prop :=
 match ds,d with
 | .slice e,.string=>wr P S e v k
 | .string,.slice e=>UZ P e v k
 | _,d=>ZR d v k
@[congr] theorem qyx {P:Program} {S:St} {ds d:TypeDesc} {v v':V} {k:V→Prop} (h:qc v=v'):Jf P S ds d (qc v) k=Jf P S ds d v' k:=by rw [← h]
theorem qmh (P:Program) (S:St) (ds:TypeDesc) (kk:IntKind) (v:V) (k:V→Prop):Jf P S ds (.int kk) v k=xB (qc v) fun _ n=>k (.lit (.int kk (kk.wrap n))):=qh (by cases ds <;> rfl)
theorem Ug (P:Program) (S:St) (v:V) (k:V→Prop):Jf P S .string .string v k=jr (qc v) fun s=>k (.lit (.string s)):=qh rfl
@[congr] theorem qzj {P:Program} {e:TypeId} {v v':V} {k:V→Prop} (h:qc v=v'):UZ P e (qc v) k=UZ P e v' k:=by rw [← h]
theorem qo3 (P:Program) (e:TypeId) (s:ByteArray) (k:V→Prop):UZ P e (.lit (.string s)) k=qy (qc (P.underlying e=some (.int .u8))) (k (.list none 1 (j0 s))):=qh rfl
theorem qmg (P:Program) (S:St) (e:TypeId) (v:V) (k:V→Prop):Jf P S .string (.slice e) v k=UZ P e (qc v) k:=qh rfl
theorem qc0 (P:Program) (S:St) (e:TypeId) (v:V) (k:V→Prop):Jf P S (.slice e) .string v k=wr P S e (qc v) k:=qh rfl
@[congr] theorem qwf {P:Program} {S:St} {e:TypeId} {v v':V} {k:V→Prop} (h:qc v=v'):wr P S e (qc v) k=wr P S e v' k:=by rw [← h]
@[congr] theorem qxc {cs cs':List V} {k:ByteArray→Prop} {f:zH k} (h:qc cs=cs'):XF (qc cs) k f=XF cs' k f:=by rw [← h]
theorem qgx (P:Program) (S:St) (e:TypeId) (n c:Nat) (k:V→Prop):wr P S e (.lit (.slice none n c)) k=qy (qc (P.underlying e=some (.int .u8))) (k (.lit (.string ⟨#[]⟩))):=qh rfl
theorem qgy (P:Program) (S:St) (e:TypeId) (b o n c:Nat) (k:V→Prop):wr P S e (.lit (.slice (some ⟨b,o,none⟩) n c)) k=qy (qc (P.underlying e=some (.int .u8))) (qj (qc (zu S.boxes b)) fun cs=>qy (qc (o+n≤cs.length)) (XF (qc ((cs.drop o).take n)) (fun x=>k (.lit (.string x))) .mk)):=by
 simp only [wr,qj,qs,qy]
 cases zu S.boxes b <;> rfl
theorem qc8 (P:Program) (S:St) (e:TypeId) (own:Option Value) (es:List (List V)) (k:V→Prop):wr P S e (.list own 1 es) k=qy (qc (P.underlying e=some (.int .u8))) (qy (∀ e ∈ es,e.length=1) (XF (qc es.flatten) (fun x=>k (.lit (.string x))) .mk)):=by
 simp only [wr,qs,qy,true_and]
@[congr] theorem qyz {P:Program} {S:St} {s d:TypeId} {v v':V} {k:V→Prop} (h:qc v=v'):uL P S s d (qc v) k=uL P S s d v' k:=by rw [← h]
theorem qsa (P:Program) (S:St) (src dst:TypeId) (v:V) (k:V→Prop):uL P S src dst v k=qj (qc (P.underlying src)) fun ds=>qj (qc (P.underlying dst)) fun d=>Jf P S ds d v k:=by
 unfold uL
 rw [ZQ]
 simp only [qs]
 unfold qj
 cases h:P.underlying src with
 | none=>rfl
 | some ds=>cases h':P.underlying dst with
  | none=>cases ds <;> rfl
  | some d=>cases ds <;> cases d <;> rfl
def J5 (P:Program) (d:TypeDesc) (v:V) (k:V→Prop):Prop :=
 match d with
 | .string=>jr v fun s=>k (.lit (.int .i64 s.size))
 | .slice e=>qj (qV P e) fun n=>onS v n (fun es=>k (.lit (.int .i64 es.length))) fun _ _ l _=>k (.lit (.int .i64 l))
 | _=>False
@[congr] theorem qAf {P:Program} {d:TypeDesc} {v v':V} {k:V→Prop} (h:qc v=v'):J5 P d (qc v) k=J5 P d v' k:=by rw [← h]
theorem qbr (P:Program) (v:V) (k:V→Prop):J5 P .string v k=jr (qc v) fun s=>k (.lit (.int .i64 s.size)):=qh rfl
theorem qfx (P:Program) (e:TypeId) (v:V) (k:V→Prop):J5 P (.slice e) v k=qj (qc (qV P e)) fun n=>onS (qc v) n (fun es=>k (.lit (.int .i64 es.length))) fun _ _ l _=>k (.lit (.int .i64 l)):=qh rfl
@[congr] theorem qAd {P:Program} {t:TypeId} {v v':V} {k:V→Prop} (h:qc v=v'):lenK P t (qc v) k=lenK P t v' k:=by rw [← h]
theorem KC (P:Program) (t:TypeId) (v:V) (k:V→Prop):lenK P t v k=qj (qc (P.underlying t)) fun d=>J5 P d v k:=by
 simp only [qs]
 unfold lenK qj
 cases P.underlying t with
 | none=>rfl
 | some d =>
  cases d <;> (first | rfl | skip)
  case string=>cases v with
   | lit x=>cases x <;> rfl
   | _=>rfl
  case slice e=>simp only [J5,qj];cases qV P e <;> rfl
@[congr] theorem qAc {S:St} {v v':V} {k:V→Prop} (h:qc v=v'):Kn S (qc v) k=Kn S v' k:=by rw [← h]
theorem qqu (S:St) (b:Nat) (k:V→Prop):Kn S (.lit (.map (some b))) k=qj (qc (Ko S.boxes b)) fun n=>k (.lit (.int .i64 n)):=by
 simp only [qs]
 rw [show Kn S (.lit (.map (some b))) k=(match Ko S.boxes b with | some n=>k (.lit (.int .i64 n)) | none=>False) from rfl]
 generalize Ko S.boxes b=o
 cases o <;> rfl
theorem qll (b:Nat) (ks:List Sh × Bool) (es:List Ent) (cl:Nat) (r:List (Nat × B)):Ko ((b,.m ks es cl)::r) b=some es.length:=by simp [Ko]
theorem qga (b b':Nat) (x:B) (r:List (Nat × B)) (h:b' ≠ b):Ko ((b,x)::r) b'=Ko r b':=by simp [Ko,h]
def qfw (P:Program) (S:St) (d:TypeDesc) (v:V) (k:V→Prop):Prop :=
 match d with
 | .map _ _=>Kn S v k
 | d=>J5 P d v k
@[congr] theorem qAe {P:Program} {S:St} {d:TypeDesc} {v v':V} {k:V→Prop} (h:qc v=v'):qfw P S d (qc v) k=qfw P S d v' k:=by rw [← h]
theorem qqv (P:Program) (S:St) (a b:TypeId) (v:V) (k:V→Prop):qfw P S (.map a b) v k=Kn S (qc v) k:=qh rfl
theorem qbq (P:Program) (S:St) (v:V) (k:V→Prop):qfw P S .string v k=jr (qc v) fun s=>k (.lit (.int .i64 s.size)):=qh rfl
theorem qfv (P:Program) (S:St) (e:TypeId) (v:V) (k:V→Prop):qfw P S (.slice e) v k=qj (qc (qV P e)) fun n=>onS (qc v) n (fun es=>k (.lit (.int .i64 es.length))) fun _ _ l _=>k (.lit (.int .i64 l)):=qh rfl
@[congr] theorem qAb {P:Program} {S:St} {t:TypeId} {v v':V} {k:V→Prop} (h:qc v=v'):J4 P S t (qc v) k=J4 P S t v' k:=by rw [← h]
theorem qu5 (P:Program) (S:St) (t:TypeId) (v:V) (k:V→Prop):J4 P S t v k=qj (qc (P.underlying t)) fun d=>qfw P S d v k:=by
 unfold J4
 rw [KC]
 simp only [qs]
 unfold qu1 qj
 cases P.underlying t with
 | none=>simp
 | some d=>cases d <;> simp [qfw]
def qwc (d:TypeDesc) (v:V) (k:V→Prop):Prop:=match d,v with | .slice _,.lit (.slice _ _ c)=>k (.lit (.int .i64 c)) | _,_=>False
@[congr] theorem qA0 {d:TypeDesc} {v v':V} {k:V→Prop} (h:qc v=v'):qwc d (qc v) k=qwc d v' k:=by rw [← h]
theorem qgq (e:TypeId) (a:Option Addr) (n c:Nat) (k:V→Prop):qwc (.slice e) (.lit (.slice a n c)) k=k (.lit (.int .i64 c)):=qh rfl
@[congr] theorem qAz {P:Program} {t:TypeId} {v v':V} {k:V→Prop} (h:qc v=v'):capK P t (qc v) k=capK P t v' k:=by rw [← h]
theorem qwb (P:Program) (t:TypeId) (v:V) (k:V→Prop):capK P t v k=qj (qc (P.underlying t)) fun d=>qwc d v k:=by
 simp only [qs]
 unfold capK qj
 cases P.underlying t with
 | none=>rfl
 | some d=>cases d <;> (first | rfl | (cases v with | lit x=>cases x <;> rfl | _=>rfl))
def QF (v:V) (k:Nat→Nat→Prop):Prop:=match v with | .lit (.pointer (some ⟨b,o,none⟩))=>k b o | _=>False
@[congr] theorem qx9 {v v':V} {k:Nat→Nat→Prop} (h:qc v=v'):QF (qc v) k=QF v' k:=by rw [← h]
theorem yO (b o:Nat) (k:Nat→Nat→Prop):QF (.lit (.pointer (some ⟨b,o,none⟩))) k=k b o:=qh rfl
def wb (P:Program) (d:TypeDesc) (v:V) (lo hi mx:Option V) (k:V→Prop):Prop :=
 match d with
 | .string=>jr v fun s=>qy (mx=none) (bnd hi s.size fun h=>bnd lo 0 fun l=>qy (l≤h) (qy (h≤s.size) (k (.lit (.string (s.extract l h))))))
 | .slice e=>qj (qV P e) fun n=>onS v n (fun es=>bnd hi es.length fun h=>bnd lo 0 fun l=>qy (l≤h) (qy (h≤es.length) (qy (∀ x,mx=some x→hi.isSome∧bnd mx 0 fun m=>h≤m∧m≤es.length) (k (.list none n ((es.drop l).take (h - l)))))))
   fun b o ln c=>bnd mx c fun m=>bnd hi ln fun h=>bnd lo 0 fun l=>qy (l≤h) (qy (h≤m) (qy (m≤c) (qy (mx.isSome=true→hi.isSome=true) (k (.lit (.slice (some ⟨b,if m=l then o else o+l * n,none⟩) (h - l) (m - l)))))))
 | .array N e=>qj (qV P e) fun n=>QF v fun b o=>bnd mx N fun m=>bnd hi N fun h=>bnd lo 0 fun l=>qy (l≤h) (qy (h≤m) (qy (m≤N) (qy (mx.isSome=true→hi.isSome=true) (k (.lit (.slice (some ⟨b,if m=l then o else o+l * n,none⟩) (h - l) (m - l)))))))
 | _=>False
@[congr] theorem qug {P:Program} {d:TypeDesc} {v v':V} {lo lo' hi hi' mx mx':Option V} {k:V→Prop} (h:qc v=v') (h1:qc lo=lo') (h2:qc hi=hi') (h3:qc mx=mx'):wb P d (qc v) (qc lo) (qc hi) (qc mx) k=wb P d v' lo' hi' mx' k:=by rw [← h,← h1,← h2,← h3]
theorem JP (P:Program) (v:V) (lo hi mx:Option V) (k:V→Prop):wb P .string v lo hi mx k=jr (qc v) fun s=>qy (qc (mx=none)) (bnd (qc hi) s.size fun h=>bnd (qc lo) 0 fun l=>qy (qc (l≤h)) (qy (qc (h≤s.size)) (k (.lit (.string (s.extract l h)))))):=qh rfl
theorem VK (P:Program) (e:TypeId) (v:V) (lo hi:Option V) (k:V→Prop):wb P (.slice e) v lo hi none k=qj (qc (qV P e)) fun n=>onS (qc v) n (fun es=>bnd (qc hi) es.length fun h=>bnd (qc lo) 0 fun l=>qy (qc (l≤h)) (qy (qc (h≤es.length)) (k (.list none n ((es.drop l).take (h - l)))))) fun b o ln c=>bnd (qc none) c fun m=>bnd (qc hi) ln fun h=>bnd (qc lo) 0 fun l=>qy (qc (l≤h)) (qy (qc (h≤m)) (qy (qc (m≤c)) (k (.lit (.slice (some ⟨b,if m=l then o else o+l * n,none⟩) (h - l) (m - l)))))):=by
 simp only [wb,qy,qs];simp
theorem VM (P:Program) (N:Nat) (e:TypeId) (v:V) (lo hi mx:Option V) (k:V→Prop):wb P (.array N e) v lo hi mx k=qj (qc (qV P e)) fun n=>QF (qc v) fun b o=>bnd (qc mx) N fun m=>bnd (qc hi) N fun h=>bnd (qc lo) 0 fun l=>qy (qc (l≤h)) (qy (qc (h≤m)) (qy (qc (m≤N)) (qy (qc (mx.isSome=true→hi.isSome=true)) (k (.lit (.slice (some ⟨b,if m=l then o else o+l * n,none⟩) (h - l) (m - l))))))):=qh rfl
theorem JQ (P:Program) (e:TypeId) (v:V) (lo:Option V) (hi mx:V) (k:V→Prop):wb P (.slice e) v lo (some hi) (some mx) k=qj (qc (qV P e)) fun n=>onS (qc v) n (fun es=>bnd (qc (some hi)) es.length fun h=>bnd (qc lo) 0 fun l=>qy (qc (l≤h)) (qy (qc (h≤es.length)) (qy (qc (bnd (qc (some mx)) 0 fun m=>h≤m∧m≤es.length)) (k (.list none n ((es.drop l).take (h - l))))))) fun b o ln c=>bnd (qc (some mx)) c fun m=>bnd (qc (some hi)) ln fun h=>bnd (qc lo) 0 fun l=>qy (qc (l≤h)) (qy (qc (h≤m)) (qy (qc (m≤c)) (k (.lit (.slice (some ⟨b,if m=l then o else o+l * n,none⟩) (h - l) (m - l)))))):=by
 simp only [wb,qy,qs];simp
@[congr] theorem quf {P:Program} {t:TypeId} {v v':V} {lo lo' hi hi' mx mx':Option V} {k:V→Prop} (h:qc v=v') (h1:qc lo=lo') (h2:qc hi=hi') (h3:qc mx=mx'):sliceK P t (qc v) (qc lo) (qc hi) (qc mx) k=sliceK P t v' lo' hi' mx' k:=by rw [← h,← h1,← h2,← h3]
theorem Z5 (P:Program) (t:TypeId) (v:V) (lo hi mx:Option V) (k:V→Prop):sliceK P t v lo hi mx k=qj (qc (P.underlying t)) fun d=>wb P d v lo hi mx k:=by
 simp only [qs]
 unfold sliceK qj
 cases P.underlying t with
 | none=>rfl
 | some d =>
  cases d <;> (first | rfl | skip)
  case string=>cases v with
   | lit x=>cases x <;> rfl
   | _=>rfl
  case slice e=>simp only [wb,qj];cases qV P e <;> rfl
  case array N e =>
   simp only [wb,qj]
   cases v with
   | lit x=>cases x with
    | pointer a=>cases a with
     | none=>cases qV P e <;> rfl
     | some a=>obtain⟨b,o,r⟩:=a;cases r <;> dsimp only <;> cases qV P e <;> rfl
    | _=>cases qV P e <;> rfl
   | _=>cases qV P e <;> rfl
@[congr] theorem qwg {P:Program} {t:TypeId} {ps ps':List (Nat × V)} {k:V→Prop} (h:qc ps=ps'):buildK P t (qc ps) k=buildK P t ps' k:=by rw [← h]
theorem Xw (P:Program) (t:TypeId) (ps:List (Nat × V)) (k:V→Prop):buildK P t ps k=qj (qc (z7 P t)) fun z=>qj (qc (QH P t (z.map .lit) ps)) fun cs=>k (.agg cs):=by
 simp only [qs]
 unfold buildK qj
 cases z7 P t with
 | none=>rfl
 | some z=>simp only [];cases QH P t (z.map .lit) ps <;> simp
@[congr] theorem qz4 {v v':V} {k:V→Prop} (h:qc v=v'):nilK (qc v) k=nilK v' k:=by rw [← h]
theorem qqd (a:Addr) (k:V→Prop):nilK (.lit (.pointer (some a))) k=k (.lit (.pointer (some a))):=qh rfl
theorem qqc (cs:List V) (k:V→Prop):nilK (.ref cs) k=k (.ref cs):=qh rfl
theorem qkr (g:FuncId) (a b:Array Value) (k:V→Prop):nilK (.lit (.func (.func g) a b)) k=k (.lit (.func (.func g) a b)):=qh rfl
theorem qm8 (P:Program) (S:St) (d:Option Nat) (t:TypeId) (K:St→Prop):ky P S d t K=qj (qc (z7 P t)) fun z=>qy (qc (yP (z.map .lit)=true)) (ub ((qA S.boxes S.rows)) (fun b=>K ((S.addBox b (z.map .lit)).put d (.lit (.pointer (some ⟨b,0,none⟩))))) .mk):=by
 simp only [qs]
 unfold ky qj qy ub
 cases z7 P t <;> rfl
@[congr] theorem qA3 {S:St} {d:Option Nat} {t:TypeId} {v v':V} {K:St→Prop} (h:qc v=v'):ue S d t (qc v) K=ue S d t v' K:=by rw [← h]
theorem qwh (S:St) (d:Option Nat) (t:TypeId) (v:V) (K:St→Prop):ue S d t v K=qj (qc (zR v)) fun cs=>qy (qc (yP cs=true∧t < ntypes)) (ub ((qA S.boxes S.rows)) (fun b=>K ((S.addBox b cs).put d (.lit (.pointer (some ⟨b,0,none⟩))))) .mk):=by
 simp only [qs]
 unfold ue qj qy ub
 cases zR v <;> rfl
@[congr] theorem qub {P:Program} {S:St} {d:Option Nat} {t:TypeId} {p p' v v':V} {K:St→Prop} (h:qc p=p') (h':qc v=v'):xO P S d t (qc p) (qc v) K=xO P S d t p' v' K:=by rw [← h,← h']
theorem wF (P:Program) (S:St) (d:Option Nat) (t:TypeId) (p v:V) (K:St→Prop):xO P S d t p v K=QF (qc p) fun b o=>qj (qc (zu S.boxes b)) fun cs=>qj (qc (zR v)) fun vs=>qj (qc (qV P t)) fun n =>
  qy (qc (vs.length=n∧yP vs=true∧o+n≤cs.length)) (QE (qc (xV S.boxes b (cs.take o++vs++cs.drop (o+n)))) fun bs=>K ((S.setBoxes bs).put d .any)):=by
 have key:∀ b o,xO P S d t (.lit (.pointer (some ⟨b,o,none⟩))) v K=qj (zu S.boxes b) fun cs=>qj (zR v) fun vs=>qj (qV P t) fun n =>
   qy (vs.length=n∧yP vs=true∧o+n≤cs.length) (QE (xV S.boxes b (cs.take o++vs++cs.drop (o+n))) fun bs=>K ((S.setBoxes bs).put d .any)):=fun b o=>by
  simp only [xO,qj,qy,St.setBoxes,QE]
  cases zu S.boxes b with
  | none=>rfl
  | some cs=>cases zR v with
   | none=>rfl
   | some vs=>cases qV P t with
    | none=>rfl
    | some n=>simp only [and_assoc]
 cases p with
 | lit x=>cases x with
  | pointer a=>cases a with
   | none=>rfl
   | some a =>
    obtain⟨b,o,sp⟩:=a
    cases sp with
    | none=>exact key b o
    | some _=>rfl
  | _=>rfl
 | _=>rfl
@[congr] theorem qi1 {P:Program} {S:St} {d:Option Nat} {t:TypeId} {n:Nat} {ps ps':List (Nat × V)} {K:St→Prop} (h:qc ps=ps'):qI P S d t n (qc ps) K=qI P S d t n ps' K:=by rw [← h]
def zw (d:TypeDesc) (k:TypeId→Prop):Prop:=match d with | .slice e=>k e | _=>False
@[congr] theorem qtv {d d':TypeDesc} {k:TypeId→Prop} (h:qc d=d'):zw (qc d) k=zw d' k:=by rw [← h]
theorem JO (e:TypeId) (k:TypeId→Prop):zw (.slice e) k=k e:=qh rfl
theorem quz (P:Program) (op:BinOp) (t:TypeId) (b:Bool) (K:V→Prop):qkp P op t b K=qj (qc (P.underlying t)) fun u=>zw u fun _=>qj (qc (nilB op b)) fun v=>K (.lit (.bool v)):=by
 simp only [qs]
 unfold qkp qj zw
 cases P.underlying t with
 | none=>simp
 | some u=>cases u <;> (first | (cases nilB op b <;> simp;done) | simp)
def qg1 (u:TypeDesc) (A:Prop) (_:zH A):Prop:=match u with | .bool=>A | _=>False
theorem qdb (A:Prop) (p:zH A):qg1 .bool A p=A:=qh rfl
theorem qm0 (P:Program) (op:BinOp) (t:TypeId) (a b:Bool) (K:V→Prop):binK P op t (.lit (.bool a)) (.lit (.bool b)) K=qj (qc (P.underlying t)) fun u=>qg1 u (qj (qc (nilB op (decide (a=b)))) fun v=>K (.lit (.bool v))) .mk:=by
 show qsj P op t a b K=_
 simp only [qs]
 unfold qsj qj qg1
 cases P.underlying t with
 | none=>simp
 | some u =>
  cases h:nilB op (decide (a=b)) with
  | none=>cases u <;> simp [qs]
  | some v=>cases u <;> simp [qs]
theorem j1 (P:Program) (S:St) (d:Option Nat) (t:TypeId) (n:Nat) (ps:List (Nat × V)) (K:St→Prop):qI P S d t n ps K =
  qj (qc (P.underlying t)) fun u=>zw u fun e=>qj (qc (qV P e)) fun k=>qj (qc (z7 P e)) fun z=>qy (qc (0 < k∧z.length=k∧n * k≤16777216)) (qj (qc (jh k 0 ps)) fun es=>qy (qc (es.length=n)) (qho fun y=>K ((S.addRow ⟨y,k,e⟩).put d (.list (some y) k es)))):=by
 simp only [qs]
 unfold qI qj qy qho zw
 cases P.underlying t with
 | none=>rfl
 | some u =>
   cases u <;> (first | rfl | skip)
   case slice e=>simp only [];cases qV P e with
    | none=>rfl
    | some k=>cases z7 P e with
     | none=>rfl
     | some z=>simp only [];cases jh k 0 ps <;> simp [and_assoc]
@[congr] theorem qi2 {P:Program} {t:TypeId} {n:Nat} {ps ps':List (Nat × V)} {k:V→Prop} (h:qc ps=ps'):buildSliceD P t n (qc ps) k=buildSliceD P t n ps' k:=by rw [← h]
theorem j2 (P:Program) (t:TypeId) (n:Nat) (ps:List (Nat × V)) (k:V→Prop):buildSliceD P t n ps k =
  qj (qc (P.underlying t)) fun u=>zw u fun e=>qj (qc (qV P e)) fun c=>qj (qc (z7 P e)) fun z=>qy (qc (0 < c∧z.length=c∧n * c≤16777216)) (qj (qc (jh c 0 ps)) fun es=>qy (qc (es.length=n)) (k (.list none c es))):=by
 simp only [qs]
 unfold buildSliceD qj qy zw
 cases P.underlying t with
 | none=>rfl
 | some u =>
   cases u <;> (first | rfl | skip)
   case slice e=>simp only [];cases qV P e with
    | none=>rfl
    | some k=>cases z7 P e with
     | none=>rfl
     | some z=>simp only [];cases jh k 0 ps <;> simp [and_assoc]
@[congr] theorem qtw {P:Program} {S:St} {d:Option Nat} {t:TypeId} {s s' x x':V} {K:St→Prop} (h:qc s=s') (h':qc x=x'):zh P S d t (qc s) (qc x) K=zh P S d t s' x' K:=by rw [← h,← h']
@[congr] theorem qA6 {S:St} {d:Option Nat} {k by_:Nat} {e:TypeId} {s s':V} {fs fs':List (List V)} {K:St→Prop} (h:qc s=s') (h':qc fs=fs'):jl S d k by_ e (qc s) (qc fs) K=jl S d k by_ e s' fs' K:=by rw [← h,← h']
theorem qsy (S:St) (d:Option Nat) (k by_:Nat) (e:TypeId) (fs:List (List V)) (K:St→Prop):jl S d k by_ e (.lit (.slice none 0 0)) fs K=qy (qc (fs.length * by_≤140737488355328)) (qho fun y=>K ((S.addRow ⟨y,k,e⟩).put d (.list (some y) k fs))):=qh rfl
theorem VE (x:Value) (k:Nat) (e:TypeId) (K:Row→List Row→Prop):j8 [⟨x,k,e⟩] x K=K ⟨x,k,e⟩ []:=by simp [j8]
def Wa (l:List Row) (y:Value) (K:Row→List Row→Prop) (_:zH K):Prop:=j8 l y K
theorem JK (x:Value) (k:Nat) (e:TypeId) (K:Row→List Row→Prop) (p:zH K):Wa [⟨x,k,e⟩] x K p=K ⟨x,k,e⟩ []:=VE x k e K
theorem Zq {x:Value} {k:Nat} {e:TypeId} {rs:List Row} {K:Row→List Row→Prop} {p:zH K} (h:K ⟨x,k,e⟩ rs):Wa (⟨x,k,e⟩::rs) x K p:=.inl ⟨rfl,h⟩
theorem xd {x:Value} {k:Nat} {e:TypeId} {r:Row} {rs:List Row} {K:Row→List Row→Prop} {p:zH K} (h:K ⟨x,k,e⟩ (r::rs)):Wa (r::⟨x,k,e⟩::rs) x K p:=.inr (.inl ⟨rfl,h⟩)
theorem Le.nil (k:Nat):Le (.lit (.slice none 0 0)) (.list none k []):=fun w I x h=>by
 simp only [V.rep] at h
 subst h
 simp only [V.rep]
 exact⟨fun y hy=>by simp at hy,none,0,rfl,Nat.le_refl _,.inl trivial⟩
theorem qsx (S:St) (d:Option Nat) (k k' by_:Nat) (e:TypeId) (y:Value) (es fs:List (List V)) (K:St→Prop):jl S d k by_ e (.list (some y) k' es) fs K =
  qy (qc (k'=k)) (Wa S.rows y (fun r rs=>qy (qc (r.k=k∧r.e=e∧(es.length+fs.length) * by_≤140737488355328)) (qho fun y'=>K ((S.setRows (⟨y',k,e⟩::rs)).put d (.list (some y') k (es++fs))))) .mk):=qh rfl
theorem QY (P:Program) (S:St) (d:Option Nat) (t:TypeId) (sv xv:V) (K:St→Prop):zh P S d t sv xv K =
  qj (qc (P.underlying t)) fun u=>zw u fun e=>qj (qc (qV P e)) fun k=>qj (qc (xk P e)) fun by_=>qj (qc (z7 P e)) fun z=>qy (qc (0 < k∧0 < by_∧z.length=k)) (onL (qc xv) k fun fs=>jl S d k by_ e (qc sv) (qc fs) K):=by
 simp only [qs]
 unfold zh qj qy zw
 cases P.underlying t with
 | none=>rfl
 | some u =>
   cases u <;> (first | rfl | skip)
   case slice e=>simp only [];cases qV P e with
    | none=>rfl
    | some k=>cases xk P e with
     | none=>rfl
     | some by_=>cases z7 P e with
      | none=>rfl
      | some z=>rfl
@[congr] theorem qx2 {l l':List Row} {y:Value} {K:Row→List Row→Prop} (h:qc l=l'):j8 (qc l) y K=j8 l' y K:=by rw [← h]
@[congr] theorem qy3 {P:Program} {S:St} {d:Option Nat} {f f':V} {as as':List V} {K:St→Prop} (h:qc f=f') (h':qc as=as'):ja P S d (qc f) (qc as) K=ja P S d f' as' K:=by rw [← h,← h']
@[congr] theorem qy2 {P:Program} {f f':V} {as as':List V} {k:V→Prop} (h:qc f=f') (h':qc as=as'):callK P (qc f) (qc as) k=callK P f' as' k:=by rw [← h,← h']
def OkF (P:Program) (f:FuncId) (zs:List V) (bx:List (Nat × B)) (Q:V→List (Nat × B)→List Row→Prop) (_:zH Q):Prop :=
 ∃ bs lf,bx.Perm (bs++lf)∧Ok P f zs bs fun v bs' rs=>((bs'++lf).map (·.1)).Nodup→Q v (bs'++lf) rs
def onB (b:Bool) (A B:Prop) (_:zH A) (_:zH B):Prop:=match b with | true=>A | false=>B
theorem qCz (A B:Prop) (p:zH A) (q:zH B):onB true A B p q=A:=qh rfl
theorem qC0 (A B:Prop) (p:zH A) (q:zH B):onB false A B p q=B:=qh rfl
def qEr (P:Program) (S:St) (g:FuncId) (zs:List V) (K:V→Prop) (_:zH K):Prop:=∃ v,qDw P S g zs v∧K v
theorem qgv (P:Program) (S:St) (d:Option Nat) (g:FuncId) (first cap:Array Value) (as:List V) (K:St→Prop):ja P S d (.lit (.func (.func g) first cap)) as K =
  onB (ql P g) (OkF P g (first.toList.map .lit++as++cap.toList.map .lit) S.boxes (fun v bs rs=>K (((S.setBoxes bs).setRows (rs++S.rows)).put d v)) .mk) (qEr P S g (first.toList.map .lit++as++cap.toList.map .lit) (fun v=>K (S.put d v)) .mk) .mk .mk:=by
 simp only [ja]
 cases ql P g <;> rfl
def Clr (n:Nat) (A B:Prop) (_:zH A) (_:zH B):Prop:=(n=0→A)∧(0 < n→B)
def qmk (P:Program) (S:St) (d:Option Nat) (e:TypeId) (s:V) (K:St→Prop):Prop:=match s with
 | .lit (.slice none _ _)=>K (S.put d (.lit (.tuple #[])))
 | .lit (.slice (some ⟨b,o,none⟩) n _)=>(n=0→K (S.put d (.lit (.tuple #[]))))∧(0 < n→match qV P e,z7 P e,zu S.boxes b with
  | some k,some z,some cs=>z.length=k∧yP (z.map .lit)=true∧o+n * k≤cs.length∧K ((S.setBoxes (xV S.boxes b (cs.take o++xf (n * k)++cs.drop (o+n * k)))).put d (.lit (.tuple #[])))
  | _,_,_=>False)
 | _=>False
@[congr] theorem qAy {P:Program} {S:St} {d:Option Nat} {e:TypeId} {s s':V} {K:St→Prop} (h:qc s=s'):qmk P S d e (qc s) K=qmk P S d e s' K:=by rw [← h]
theorem qml (P:Program) (S:St) (d:Option Nat) (t:TypeId) (s:V) (K:St→Prop):vJ P S d t s K=qj (qc (P.underlying t)) fun u=>zw u fun e=>qmk P S d e (qc s) K:=by
 simp only [qs]
 unfold vJ qj zw
 cases P.underlying t with
 | none=>rfl
 | some u=>cases u <;> rfl
theorem qsd (P:Program) (S:St) (d:Option Nat) (e:TypeId) (n c:Nat) (K:St→Prop):qmk P S d e (.lit (.slice none n c)) K=K (S.put d (.lit (.tuple #[]))):=qh rfl
theorem qse (P:Program) (S:St) (d:Option Nat) (e:TypeId) (b o n c:Nat) (K:St→Prop):qmk P S d e (.lit (.slice (some ⟨b,o,none⟩) n c)) K =
  Clr n (K (S.put d (.lit (.tuple #[])))) (qj (qc (qV P e)) fun k=>qj (qc (z7 P e)) fun z=>qj (qc (zu S.boxes b)) fun cs =>
   qy (qc (z.length=k∧yP (z.map .lit)=true∧o+n * k≤cs.length)) (K ((S.setBoxes (xV S.boxes b (cs.take o++xf (n * k)++cs.drop (o+n * k)))).put d (.lit (.tuple #[]))))) .mk .mk:=by
 unfold qmk Clr qj qy
 simp only [qs]
 cases qV P e with
 | none=>rfl
 | some k=>cases z7 P e with
  | none=>rfl
  | some z=>cases zu S.boxes b with
   | none=>rfl
   | some cs=>simp only [and_assoc]
def qBh (P:Program) (l:Nat) (zs:List V) (bx:List (Nat × B)) (Q:V→List (Nat × B)→List Row→Prop) (_:zH Q):Prop :=
 ∃ bs lf,bx.Perm (bs++lf)∧OkY P l zs bs fun v bs' rs=>((bs'++lf).map (·.1)).Nodup→Q v (bs'++lf) rs
theorem OkY.mono {P:Program} {l:Nat} {zs:List V} {bs:List (Nat × B)} {Q Q':V→List (Nat × B)→List Row→Prop} (h:OkY P l zs bs Q) (hq:∀ v bs rs,Q v bs rs→Q' v bs rs):OkY P l zs bs Q' :=
 fun w I xs hr hH=>(h w I xs hr hH).mono fun _ _ ⟨x,v,bs',rs',I',h1,h2,h3,h4,h5,h6⟩=>⟨x,v,bs',rs',I',h1,h2,h3,h4,h5,hq _ _ _ h6⟩
theorem qng {P:Program} {l:Nat} {zs:List V} {bx:List (Nat × B)} {Q:V→List (Nat × B)→List Row→Prop} {p:zH Q} (bs lf:List (Nat × B)) (hp:bx.Perm (bs++lf)) {Q0:V→List (Nat × B)→List Row→Prop} (h:OkY P l zs bs Q0) (hk:∀ v bs' rs,Q0 v bs' rs→((bs'++lf).map (·.1)).Nodup→Q v (bs'++lf) rs):qBh P l zs bx Q p :=
 ⟨bs,lf,hp,h.mono hk⟩
theorem qc4 (P:Program) (S:St) (d:Option Nat) (l:Nat) (first cap:Array Value) (as:List V) (K:St→Prop):ja P S d (.lit (.func (.yield l) first cap)) as K =
  qBh P l (first.toList.map .lit++as) S.boxes (fun v bs rs=>K (((S.setBoxes bs).setRows (rs++S.rows)).put d v)) .mk:=qh rfl
def qtq (P:Program) (g:FuncId) (as:List V) (k:V→Prop) (_:zH k):Prop:=∃ v,OkV P g as v∧k v
theorem qgu (P:Program) (g:FuncId) (first cap:Array Value) (as:List V) (k:V→Prop):callK P (.lit (.func (.func g) first cap)) as k=qy (qc (ql P g=true)) (qtq P g (first.toList.map .lit++as++cap.toList.map .lit) k .mk):=qh rfl
theorem qF {P:Program} {g:FuncId} {as:List V} {k:V→Prop} {p:zH k} (v:V) (h:OkV P g as v) (hk:k v):qtq P g as k p:=⟨v,h,hk⟩
theorem qg {P:Program} {g:FuncId} {zs:List V} {bx:List (Nat × B)} {Q:V→List (Nat × B)→List Row→Prop} {p:zH Q} (v:V) (h:zc P g zs v) (hk:Q v bx []):OkF P g zs bx Q p :=
 ⟨[],bx,List.Perm.refl _,Ok.mono h fun v' bs rs ⟨e,e',e''⟩=>by subst e;subst e';subst e'';exact fun _=>hk⟩
theorem qi {P:Program} {g:FuncId} {zs:List V} {bx:List (Nat × B)} {Q:V→List (Nat × B)→List Row→Prop} {p:zH Q} (bs lf:List (Nat × B)) (hp:bx.Perm (bs++lf)) {Q0:V→List (Nat × B)→List Row→Prop} (h:Ok P g zs bs Q0) (hk:∀ v bs' rs,Q0 v bs' rs→Q v (bs'++lf) rs):OkF P g zs bx Q p :=
 ⟨bs,lf,hp,Ok.mono h fun v bs' rs hq _=>hk v bs' rs hq⟩
theorem XC {P:Program} {g:FuncId} {zs:List V} {bx:List (Nat × B)} {Q:V→List (Nat × B)→List Row→Prop} {p:zH Q} (bs lf:List (Nat × B)) (hp:bx.Perm (bs++lf)) {Q0:V→List (Nat × B)→List Row→Prop} (h:Ok P g zs bs Q0) (hk:∀ v bs' rs,Q0 v bs' rs→((bs'++lf).map (·.1)).Nodup→Q v (bs'++lf) rs):OkF P g zs bx Q p :=
 ⟨bs,lf,hp,Ok.mono h hk⟩
def XB (A B:Prop) (_:zH A) (_:zH B):Prop:=A∨B
theorem XB.l {A B:Prop} {p:zH A} {q:zH B} (h:A):XB A B p q:=.inl h
theorem XB.r {A B:Prop} {p:zH A} {q:zH B} (h:B):XB A B p q:=.inr h
def If2 (c:Prop) [Decidable c] (A B:Prop) (_:zH A) (_:zH B):Prop:=if c then A else B
theorem qDu (A B:Prop) (p:zH A) (q:zH B) (i:Decidable True):@If2 True i A B p q=A:=by simp [If2]
theorem qDv (A B:Prop) (p:zH A) (q:zH B) (i:Decidable False):@If2 False i A B p q=B:=by simp [If2]
def XD (l:List Nat) (n:Nat) (K:Nat→Nat→Prop) (_:zH K):Prop:=∀ b c,b ∉ l→n≤c→K b c
def U8 (S:St) (u:TypeDesc) (k:Nat) (x:V) (K:Nat→List V→Prop):Prop :=
 match u,x with
 | .slice _,.list _ k' es=>k'=k∧K es.length es.flatten
 | .slice _,.lit (.slice none 0 0)=>K 0 []
 | .slice _,.lit (.slice (some ⟨b,o,none⟩) n _)=>match zu S.boxes b with
  | some cs=>o+n * k≤cs.length∧K n ((cs.drop o).take (n * k))
  | none=>False
 | .string,.lit (.string s)=>k=1∧K s.size (vL s)
 | _,_=>False
@[congr] theorem qzl {S:St} {u:TypeDesc} {k:Nat} {x x':V} {K:Nat→List V→Prop} (h:qc x=x'):U8 S u k (qc x) K=U8 S u k x' K:=by rw [← h]
@[congr] theorem qzk {P:Program} {S:St} {tx:TypeId} {k:Nat} {x x':V} {K:Nat→List V→Prop} (h:qc x=x'):QM P S tx k (qc x) K=QM P S tx k x' K:=by rw [← h]
theorem qjv (S:St) (e:TypeId) (k:Nat) (a:Option Value) (k':Nat) (es:List (List V)) (K:Nat→List V→Prop):U8 S (.slice e) k (.list a k' es) K=qy (qc (k'=k)) (K es.length es.flatten):=qh rfl
theorem qo7 (S:St) (e:TypeId) (k:Nat) (K:Nat→List V→Prop):U8 S (.slice e) k (.lit (.slice none 0 0)) K=K 0 []:=qh rfl
theorem qo8 (S:St) (e:TypeId) (k b o n c:Nat) (K:Nat→List V→Prop):U8 S (.slice e) k (.lit (.slice (some ⟨b,o,none⟩) n c)) K=qj (qc (zu S.boxes b)) fun cs=>qy (qc (o+n * k≤cs.length)) (K n ((cs.drop o).take (n * k))):=by
 simp only [U8,qj,qs];cases zu S.boxes b <;> rfl
theorem qo6 (S:St) (k:Nat) (s:ByteArray) (K:Nat→List V→Prop):U8 S .string k (.lit (.string s)) K=qy (qc (k=1)) (K s.size (vL s)):=qh rfl
theorem quc (P:Program) (S:St) (tx:TypeId) (k:Nat) (x:V) (K:Nat→List V→Prop):QM P S tx k x K=qj (qc (P.underlying tx)) fun u=>U8 S u k x K:=by
 simp only [qs]
 unfold QM qj
 cases P.underlying tx with
 | none=>rfl
 | some u=>cases u <;> first | rfl | (cases x with
  | lit y=>cases y with
   | slice a n c=>cases a with
    | none=>cases n <;> cases c <;> rfl
    | some a=>obtain⟨b,o,sp⟩:=a;cases sp <;> rfl
   | _=>rfl
  | _=>rfl)
def QK (S:St) (d:Option Nat) (k by_:Nat) (s:V) (m:Nat) (fs:List V) (K:St→Prop):Prop :=
 match s with
 | .lit (.slice none 0 0)=>0 < m∧m * by_≤140737488355328∧∀ b c,b ∉ qA S.boxes S.rows→m≤c→K ((S.addBox b (fs++xf ((c - m) * k))).put d (.lit (.slice (some ⟨b,0,none⟩) m c)))
 | .lit (.slice (some ⟨b,0,none⟩) n c)=>match zu S.boxes b with
  | some cs=>cs.length=c * k∧n≤c∧(n+m) * by_≤140737488355328∧∀ b' c',b' ∉ qA (kJ S.boxes b) S.rows→n+m≤c' →
    K ((S.setBoxes ((b',.c (cs.take (n * k)++fs++xf ((c' - (n+m)) * k)))::kJ S.boxes b)).put d (.lit (.slice (some ⟨b',0,none⟩) (n+m) c')))
  | none=>False
 | _=>False
@[congr] theorem qy4 {S:St} {d:Option Nat} {k by_ m:Nat} {s s':V} {fs fs':List V} {K:St→Prop} (h:qc s=s') (h':qc fs=fs'):uO S d k by_ (qc s) m (qc fs) K=uO S d k by_ s' m fs' K:=by rw [← h,← h']
@[congr] theorem qy5 {S:St} {d:Option Nat} {k by_ m:Nat} {s s':V} {fs fs':List V} {K:St→Prop} (h:qc s=s') (h':qc fs=fs'):QK S d k by_ (qc s) m (qc fs) K=QK S d k by_ s' m fs' K:=by rw [← h,← h']
theorem qm4 (S:St) (d:Option Nat) (k by_ b o n c m:Nat) (fs:List V) (K:St→Prop):uO S d k by_ (.lit (.slice (some ⟨b,o,none⟩) n c)) m fs K=qj (qc (zu S.boxes b)) fun cs=>qy (qc (o+c * k≤cs.length∧n≤c))
  (If2 (n+m≤c) (K ((S.setBoxes (xV S.boxes b (cs.take (o+n * k)++fs++cs.drop (o+n * k+m * k)))).put d (.lit (.slice (some ⟨b,o,none⟩) (n+m) c))))
   (qy (qc ((n+m) * by_≤140737488355328)) (XD (qA S.boxes S.rows) (n+m) (fun b' c'=>K ((S.addBox b' ((cs.drop o).take (n * k)++fs++xf ((c' - (n+m)) * k))).put d (.lit (.slice (some ⟨b',0,none⟩) (n+m) c')))) .mk)) .mk .mk):=by
 simp only [uO,qj,qs]
 cases zu S.boxes b with
 | none=>rfl
 | some cs=>simp only [qy,If2,JY,XD,and_assoc,qs]
theorem qm5 (S:St) (d:Option Nat) (k by_ m:Nat) (fs:List V) (K:St→Prop):QK S d k by_ (.lit (.slice none 0 0)) m fs K =
  qy (qc (0 < m∧m * by_≤140737488355328)) (XD (qA S.boxes S.rows) m (fun b c=>K ((S.addBox b (fs++xf ((c - m) * k))).put d (.lit (.slice (some ⟨b,0,none⟩) m c)))) .mk):=by
 simp only [QK,qy,XD,qs,and_assoc]
theorem qm6 (S:St) (d:Option Nat) (k by_ b n c m:Nat) (fs:List V) (K:St→Prop):QK S d k by_ (.lit (.slice (some ⟨b,0,none⟩) n c)) m fs K=qj (qc (zu S.boxes b)) fun cs =>
  qy (qc (cs.length=c * k∧n≤c∧(n+m) * by_≤140737488355328)) (XD (qA (kJ S.boxes b) S.rows) (n+m) (fun b' c' =>
    K ((S.setBoxes ((b',.c (cs.take (n * k)++fs++xf ((c' - (n+m)) * k)))::kJ S.boxes b)).put d (.lit (.slice (some ⟨b',0,none⟩) (n+m) c')))) .mk):=by
 simp only [QK,qj,qs]
 cases zu S.boxes b with
 | none=>rfl
 | some cs=>simp only [qy,XD,and_assoc]
theorem qsw (P:Program) (S:St) (d:Option Nat) (t tx:TypeId) (s x:V) (K:St→Prop):v6 P S d t tx s x K =
  qj (qc (P.underlying t)) fun u=>zw u fun e=>qj (qc (qV P e)) fun k=>qj (qc (xk P e)) fun by_=>qj (qc (z7 P e)) fun z=>qy (qc (0 < by_∧z.length=k∧yP (z.map .lit)=true)) (QM P S tx k (qc x) fun m fs=>uO S d k by_ (qc s) m (qc fs) K):=by
 simp only [qs]
 unfold v6 qj qy zw
 cases P.underlying t with
 | none=>rfl
 | some u =>
   cases u <;> (first | rfl | skip)
   case slice e=>simp only [];cases qV P e with
    | none=>rfl
    | some k=>cases xk P e with
     | none=>rfl
     | some by_=>cases z7 P e with
      | none=>rfl
      | some z=>simp only [and_assoc]
theorem Ju (P:Program) (S:St) (d:Option Nat) (t tx:TypeId) (s x:V) (K:St→Prop):ua P S d t tx s x K =
  qj (qc (P.underlying t)) fun u=>zw u fun e=>qj (qc (qV P e)) fun k=>qj (qc (xk P e)) fun by_=>qj (qc (z7 P e)) fun z=>qy (qc (0 < by_∧z.length=k∧yP (z.map .lit)=true)) (QM P S tx k (qc x) fun m fs=>QK S d k by_ (qc s) m (qc fs) K):=by
 simp only [qs]
 unfold ua qj qy zw
 cases P.underlying t with
 | none=>rfl
 | some u =>
   cases u <;> (first | rfl | skip)
   case slice e=>simp only [];cases qV P e with
    | none=>rfl
    | some k=>cases xk P e with
     | none=>rfl
     | some by_=>cases z7 P e with
      | none=>rfl
      | some z=>simp only [and_assoc];rfl
@[congr] theorem qnr {P:Program} {S:St} {d:Option Nat} {t tx:TypeId} {s s' x x':V} {K:St→Prop} (h:qc s=s') (h':qc x=x'):zi P S d t tx (qc s) (qc x) K=zi P S d t tx s' x' K:=by rw [← h,← h']
theorem Yd (P:Program) (S:St) (d:Option Nat) (t tx:TypeId) (a a':Option Value) (k k':Nat) (es es':List (List V)) (K:St→Prop):zi P S d t tx (.list a k es) (.list a' k' es') K=qy (qc (tx=t)) (zh P S d t (.list a k es) (.list a' k' es') K):=qh rfl
theorem Jo (P:Program) (S:St) (d:Option Nat) (t tx:TypeId) (a:Option Value) (k:Nat) (es:List (List V)) (x:Option Addr) (n c:Nat) (K:St→Prop):zi P S d t tx (.list a k es) (.lit (.slice x n c)) K=qy (qc (tx=t)) (zh P S d t (.list a k es) (.lit (.slice x n c)) K):=qh rfl
theorem Jm (P:Program) (S:St) (d:Option Nat) (t tx:TypeId) (a:Option Value) (k:Nat) (es:List (List V)) (b:ByteArray) (K:St→Prop):zi P S d t tx (.list a k es) (.lit (.string b)) K=Kf P S d t tx (.list a k es) b K:=qh rfl
theorem Js (P:Program) (S:St) (d:Option Nat) (t tx:TypeId) (sv:V) (b:ByteArray) (K:St→Prop):Kf P S d t tx sv b K =
  qj (qc (P.underlying t)) fun u=>zw u fun e=>qj (qc (qV P e)) fun k=>qj (qc (xk P e)) fun by_=>qj (qc (z7 P e)) fun z=>qy (qc (P.underlying tx=some .string∧k=1∧0 < by_∧z.length=k)) (jl S d k by_ e (qc sv) (VF b) K):=by
 simp only [qs]
 unfold Kf qj qy zw
 cases P.underlying t with
 | none=>rfl
 | some u =>
   cases u <;> (first | rfl | skip)
   case slice e=>simp only [];cases qV P e with
    | none=>rfl
    | some k=>cases xk P e with
     | none=>rfl
     | some by_=>cases z7 P e with
      | none=>rfl
      | some z=>rfl
@[congr] theorem qsg {P:Program} {S:St} {d:Option Nat} {t:TypeId} {n:Nat} {ps ps':List (Nat × V)} {K:St→Prop} (h:qc ps=ps'):ka P S d t n (qc ps) K=ka P S d t n ps' K:=by rw [← h]
theorem Ya (P:Program) (S:St) (d:Option Nat) (t:TypeId) (K:St→Prop):ka P S d t 0 [] K=XB (qI P S d t 0 [] K) (zo P S d t (.lit (.int .i64 0)) (.lit (.int .i64 0)) K) .mk .mk:=qh rfl
theorem Yb (P:Program) (S:St) (d:Option Nat) (t:TypeId) (n:Nat) (p:Nat × V) (ps:List (Nat × V)) (K:St→Prop):ka P S d t n (p::ps) K=qI P S d t n (p::ps) K:=qh (by unfold ka;cases n <;> rfl)
theorem Ye (P:Program) (S:St) (d:Option Nat) (t tx:TypeId) (n c:Nat) (x:V) (K:St→Prop):zi P S d t tx (.lit (.slice none n c)) x K=XB (qy (qc (tx=t)) (zh P S d t (.lit (.slice none n c)) x K)) (ua P S d t tx (.lit (.slice none n c)) x K) .mk .mk:=qh rfl
theorem Kq (P:Program) (S:St) (d:Option Nat) (t tx:TypeId) (a:Addr) (n c:Nat) (kk:IntKind) (j:Int) (K:St→Prop):zi P S d t tx (.lit (.slice (some a) n c)) (.lit (.int kk j)) K=Jr P S d t tx (.lit (.slice (some a) n c)) (.lit (.int kk j)) K:=qh rfl
theorem Jq (P:Program) (S:St) (d:Option Nat) (t tx:TypeId) (a:Addr) (n c:Nat) (o:Option Value) (k:Nat) (es:List (List V)) (K:St→Prop):zi P S d t tx (.lit (.slice (some a) n c)) (.list o k es) K=XB (v6 P S d t tx (.lit (.slice (some a) n c)) (.list o k es) K) (ua P S d t tx (.lit (.slice (some a) n c)) (.list o k es) K) .mk .mk:=qh rfl
theorem Kr (P:Program) (S:St) (d:Option Nat) (t tx:TypeId) (a:Addr) (n c:Nat) (a':Option Addr) (n' c':Nat) (K:St→Prop):zi P S d t tx (.lit (.slice (some a) n c)) (.lit (.slice a' n' c')) K=XB (v6 P S d t tx (.lit (.slice (some a) n c)) (.lit (.slice a' n' c')) K) (ua P S d t tx (.lit (.slice (some a) n c)) (.lit (.slice a' n' c')) K) .mk .mk:=qh rfl
theorem Yc (P:Program) (S:St) (d:Option Nat) (t tx:TypeId) (a:Addr) (n c:Nat) (b:ByteArray) (K:St→Prop):zi P S d t tx (.lit (.slice (some a) n c)) (.lit (.string b)) K=XB (v6 P S d t tx (.lit (.slice (some a) n c)) (.lit (.string b)) K) (ua P S d t tx (.lit (.slice (some a) n c)) (.lit (.string b)) K) .mk .mk:=qh rfl
def Vo (S:St) (d:Option Nat) (k:Nat) (s:V) (m:Nat) (fs:List V) (K:St→Prop):Prop :=
 match s with
 | .lit (.slice none 0 0)=>K (S.put d (.lit (.int .i64 0)))
 | .lit (.slice (some ⟨b,o,none⟩) n _)=>match zu S.boxes b with
  | some cs=>o+n * k≤cs.length∧K ((S.setBoxes (xV S.boxes b (cs.take o++fs.take (min m n * k)++cs.drop (o+min m n * k)))).put d (.lit (.int .i64 (min m n:Nat))))
  | none=>False
 | _=>False
@[congr] theorem qyv {S:St} {d:Option Nat} {k m:Nat} {s s':V} {fs fs':List V} {K:St→Prop} (h:qc s=s') (h':qc fs=fs'):Vo S d k (qc s) m (qc fs) K=Vo S d k s' m fs' K:=by rw [← h,← h']
theorem qme (S:St) (d:Option Nat) (k m:Nat) (fs:List V) (K:St→Prop):Vo S d k (.lit (.slice none 0 0)) m fs K=K (S.put d (.lit (.int .i64 0))):=qh rfl
theorem qmf (S:St) (d:Option Nat) (k b o n c m:Nat) (fs:List V) (K:St→Prop):Vo S d k (.lit (.slice (some ⟨b,o,none⟩) n c)) m fs K=qj (qc (zu S.boxes b)) fun cs=>qy (qc (o+n * k≤cs.length))
  (K ((S.setBoxes (xV S.boxes b (cs.take o++fs.take (min m n * k)++cs.drop (o+min m n * k)))).put d (.lit (.int .i64 (min m n:Nat))))):=by
 simp only [Vo,qj,qs]
 cases zu S.boxes b <;> rfl
theorem qr9 (P:Program) (S:St) (d:Option Nat) (t tx:TypeId) (s x:V) (K:St→Prop):js P S d t tx s x K =
  qj (qc (P.underlying t)) fun u=>zw u fun e=>qj (qc (qV P e)) fun k=>QM P S tx k (qc x) fun m fs=>Vo S d k (qc s) m (qc fs) K:=by
 simp only [qs]
 unfold js qj zw
 cases P.underlying t with
 | none=>rfl
 | some u =>
   cases u <;> (first | rfl | skip)
   case slice e=>simp only [];cases qV P e <;> rfl
@[congr] theorem qkx {P:Program} {S:St} {d:Option Nat} {t:TypeId} {l l' c c':V} {K:St→Prop} (h:qc l=l') (h':qc c=c'):zo P S d t (qc l) (qc c) K=zo P S d t l' c' K:=by rw [← h,← h']
theorem WK (P:Program) (S:St) (d:Option Nat) (t:TypeId) (kl kc:IntKind) (l c:Int) (K:St→Prop):zo P S d t (.lit (.int kl l)) (.lit (.int kc c)) K =
  qj (qc (P.underlying t)) fun u=>zw u fun e=>qj (qc (qV P e)) fun k=>qj (qc (xk P e)) fun by_=>qj (qc (z7 P e)) fun z =>
   qy (qc (z.length=k∧0 < k∧yP (z.map .lit)=true)) (qy (qc (0≤l∧l≤c∧c.toNat * by_≤140737488355328∧c≤140737488355328)) (ub (qA S.boxes S.rows) (fun b=>K ((S.addBox b ((List.replicate c.toNat (z.map V.lit)).flatten)).put d (.lit (.slice (some ⟨b,0,none⟩) l.toNat c.toNat)))) .mk)):=by
 simp only [qs]
 unfold zo qj zw qy ub
 cases P.underlying t with
 | none=>rfl
 | some u =>
   cases u <;> (first | rfl | skip)
   case slice e=>simp only [];cases qV P e with
    | none=>rfl
    | some k=>cases xk P e with
     | none=>rfl
     | some by_=>cases z7 P e with
      | none=>rfl
      | some z=>simp only [and_assoc]
end Go.VL
