/- Merged out of my texts V15 VN V16 V17 VK VL VE VS VT VR Ty VZM VPm VFn VWp VRp VQa VTw VDy VH VHp VFr. -/
import Derived.Test.YtkdgbjhbpbgdeaaGreatDoorKA
import Derived.Test.YtkdgbjhbpbgdeaaGreatDoorKVb
import Derived.KernelRfl
import Derived.Test.YtkdgbjhbpbgdeaaGreatDoorKVa
import Derived.Test.YtkdgbjhbpbgdeaaGreatDoorProg
set_option linter.defProp false
set_option maxRecDepth 100000
set_option linter.unusedSimpArgs false
set_option linter.unusedVariables false
open Go.Proofs.Tryz
namespace Go.VL
open Go.RowKit
def qh {α:Sort _} (a:α):α:=a
theorem zd {α:Sort _} {a b:α} (h:a=b):a=b:=h
theorem qy {α:Sort _} {a b:α} (h:a=b:=by kernel_rfl):a=b:=h
theorem qu {α:Sort _} (a:α):qh a=a:=zd rfl
variable {α:Type}
def Xh (a:α) (k:α->Prop):Prop:=k a
@[congr] theorem qGm {a d:α} {k:α->Prop} (h:qh a=d):Xh (qh a) k=Xh d k:=by rw [<-h]
theorem zw {α:Type} (a:α) (k:α->Prop):Xh a k=k a:=zd rfl
def qk (o:Option α) (k:α->Prop):Prop:=match o with | some a=>k a | none=>False
@[congr] theorem qCc {o o':Option α} {k:α->Prop} (h:qh o=o'):qk (qh o) k=qk o' k:=by rw [<-h]
theorem zP (a:α) (k:α->Prop):qk (some a) k=k a:=zd rfl
def wb (v:V) (k:IntKind->Int->Prop):Prop:=match v with | .lit (.int kk j)=>k kk j | _=>False
@[congr] theorem qGq {v a:V} {k:IntKind->Int->Prop} (h:qh v=a):wb (qh v) k=wb a k:=by rw [<-h]
theorem qaa (a:IntKind) (j:Int) (k:IntKind->Int->Prop):wb (.lit (.int a j)) k=k a j:=zd rfl
def QR (v:V) (k:ByteArray->Prop):Prop:=match v with | .lit (.string s)=>k s | _=>False
@[congr] theorem qGo {v a:V} {k:ByteArray->Prop} (h:qh v=a):QR (qh v) k=QR a k:=by rw [<-h]
theorem qqm (s:ByteArray) (k:ByteArray->Prop):QR (.lit (.string s)) k=k s:=zd rfl
def Zi (v:V) (k:List V->Prop):Prop:=match v with | .agg cs=>k cs | _=>False
@[congr] theorem qGr {v a:V} {k:List V->Prop} (h:qh v=a):Zi (qh v) k=Zi a k:=by rw [<-h]
variable {cs:List V}
theorem qac (k:List V->Prop):Zi (.agg cs) k=k cs:=zd rfl
def U9 (v:V) (k:List V->Prop):Prop:=match v with | .tup cs=>k cs | _=>False
@[congr] theorem qGn {v a:V} {k:List V->Prop} (h:qh v=a):U9 (qh v) k=U9 a k:=by rw [<-h]
theorem Wh (k:List V->Prop):U9 (.tup cs) k=k cs:=zd rfl
def yO (cs:List V) (k:V->Prop):Prop:=match cs with | c::_=>k c | []=>False
variable {a:List V} {k:V->Prop}
@[congr] theorem qCg {v:List V} (h:qh v=a):yO (qh v) k=yO a k:=by rw [<-h]
theorem uo (c:V) :yO (c::cs) k=k c:=zd rfl
def kU (v:V) (w:Bool) (A B:Prop) (_:xp A) (_:xp B):Prop:=match v with | .lit x=>if isB x w=true then A else B | _=>False
variable {A:Prop}
theorem qjv (B:Prop) (p:xp A) (q:xp B):kU (.lit (.bool true)) true A B p q=A:=by rfl
theorem qjx (B:Prop) (p:xp A) (q:xp B):kU (.lit (.bool false)) true A B p q=B:=by rfl
theorem qjw (B:Prop) (p:xp A) (q:xp B):kU (.lit (.bool true)) false A B p q=B:=by rfl
theorem qjy (B:Prop) (p:xp A) (q:xp B):kU (.lit (.bool false)) false A B p q=A:=by rfl
theorem qcf (w:Bool) (B:Prop) (p:xp A) (q:xp B):kU QP w A B p q=B:=by rfl
theorem qE {b:Bool} {B:Prop} {p:xp A} {q:xp B} (h:b=true->A) (a:b=false->B):kU (.lit (.bool b)) true A B p q:=by
 cases b
 ·simp [kU,isB];simp_all
 ·simp [kU,isB];simp_all
theorem zm {b:Bool} {B:Prop} {p:xp A} {q:xp B} (h:b=false->A) (a:b=true->B):kU (.lit (.bool b)) false A B p q:=by
 cases b
 ·simp [kU,isB];simp_all
 ·simp [kU,isB];simp_all
def uE (v:V) (A B:Prop) (_:xp A) (_:xp B):Prop:=match v with | .lit (.bool b)=>if b=true then A else B | _=>False
theorem qwh (B:Prop) (p:xp A) (q:xp B):uE (.lit (.bool true)) A B p q=A:=by rfl
theorem YG (A B:Prop) (p:xp A) (q:xp B):uE (.lit (.bool false)) A B p q=B:=by rfl
theorem qf {b:Bool} {B:Prop} {p:xp A} {q:xp B} (h:b=true->A) (a:b=false->B):uE (.lit (.bool b)) A B p q:=by
 cases b
 ·simp [uE];simp_all
 ·simp [uE];simp_all
@[congr] theorem qKm {a B:Prop} (h:qh A=a):qK (qh A) B=qK a B:=by rw [<-h]
theorem yh (B:Prop):qK True B=B:=by simp [qK]
def KU (l:List Nat) (K:Nat->Prop) (_:xp K):Prop:=∀ b,b ∉ l->K b
theorem qGb (K:Value->Prop):qm3 K=∀ y,K y:=zd rfl
@[congr] theorem qKq {v a:V} {k:Nat} {K:List (List V)->Prop} (h:qh v=a):onL (qh v) k K=onL a k K:=by rw [<-h]
variable {es:List (List V)}
theorem qwf (a:Option Value) (d k:Nat) (K:List (List V)->Prop):onL (.list a d es) k K=qK (qh (d=k)) (K es):=zd rfl
@[congr] theorem qKo {v e:V} {k:Nat} {a:List (List V)->Prop} {d:Nat->Nat->Nat->Nat->Prop} (h:qh v=e):onS (qh v) k a d=onS e k a d:=by rw [<-h]
theorem qv8 (a:Option Value) (e k:Nat) (d:List (List V)->Prop) (h:Nat->Nat->Nat->Nat->Prop):onS (.list a e es) k d h=qK (qh (e=k)) (d es):=zd rfl
theorem qCd (k:Nat) (a:List (List V)->Prop) (d:Nat->Nat->Nat->Nat->Prop):onS (.lit (.slice none 0 0)) k a d=a []:=zd rfl
variable {c b o n:Nat}
theorem qCe (k:Nat) (d:List (List V)->Prop) (a:Nat->Nat->Nat->Nat->Prop):onS (.lit (.slice (some ⟨b,o,none⟩) n c)) k d a=a b o n c:=zd rfl
@[congr] theorem qKw {v a:Option V} {d:Nat} {K:Nat->Prop} (h:qh v=a):bnd (qh v) d K=bnd a d K:=by rw [<-h]
theorem qzl (d:Nat) (K:Nat->Prop):bnd none d K=K d:=zd rfl
theorem qFk (a:IntKind) (j:Int) (d:Nat) (K:Nat->Prop):bnd (some (.lit (.int a j))) d K=qK (qh (0<=j)) (K j.toNat):=zd rfl
@[congr] theorem qB0 {v a:V} {off:Nat} (h:qh v=a):shiftP (qh v) off k=shiftP a off k:=by rw [<-h]
theorem qje (off:Nat) :shiftP (.ref cs) off k=k (.ref (cs.drop off)):=zd rfl
theorem Xs (off:Nat) :shiftP (.lit (.pointer (some ⟨b,o,none⟩))) off k=k (.lit (.pointer (some ⟨b,o+off,none⟩))):=zd rfl
variable {S:St}
@[congr] theorem qKx {v a:V} {k:List V->Prop} (h:qh v=a):atP S (qh v) k=atP S a k:=by rw [<-h]
theorem qFm (k:List V->Prop):atP S (.ref cs) k=k cs:=zd rfl
theorem qdh (k:List V->Prop):atP S (.lit (.pointer (some ⟨b,o,none⟩))) k=qk (qh (zF S.boxes b)) fun cs=>k (cs.drop o):=by
 simp only [atP,qk];cases zF S.boxes b <;> rfl
def W6 (a:Bool) (n:Nat) (cs:List V) (k:V->Prop):Prop:=if a then qK (n<=cs.length) (k (.agg (cs.take n))) else yO cs k
theorem qq8:W6 true n cs k=qK (qh (n<=cs.length)) (Xh (qh (V.agg (cs.take n))) k):=zd rfl
theorem Wk:W6 false n cs k=yO (qh cs) k:=zd rfl
variable {P:Program} {t:TypeId}
theorem Zn:loadK P t cs k=qk (qh (xO P t)) fun a=>qk (qh (zK P t)) fun n=>W6 a n cs k:=by
 simp only [qu];unfold loadK qk W6 yO;cases xO P t with
 | none=>rfl
 | some a=>cases zK P t with
  | none=>simp
  | some n=>cases a <;> rfl
def W1 (a:Bool) (n:Nat) (cs:List V) (k:V->Prop):Prop:=if a then k (.agg (cs.take n)) else yO cs k
theorem qqi:W1 true n cs k=Xh (qh (V.agg (cs.take n))) k:=zd rfl
theorem U7:W1 false n cs k=yO (qh cs) k:=zd rfl
theorem Kg (P:Program) (t:TypeId) (cs:List V) (off:Nat) (k:V->Prop):partK P t cs off k=qk (qh (xO P t)) fun a=>qk (qh (zK P t)) fun n=>W1 a n (cs.drop off) k:=by
 simp only [qu];unfold partK qk W1 yO;cases xO P t with
 | none=>rfl
 | some a=>cases zK P t with
  | none=>simp
  | some n=>cases a <;> rfl
def qjp (n:Nat) (A Z:Prop):Prop:=match n with | 0=>Z | _+1=>A
@[congr] theorem qIm {a:Nat} {Z:Prop} (h:qh n=a):qjp (qh n) A Z=qjp a A Z:=by rw [<-h]
theorem Wg (Z:Prop):qjp (n+1) A Z=A:=zd rfl
@[congr] theorem qGc {a d:Bx} {s:TypeId} {f:Nat} {v e:V} (h:qh v=e) (j:qh a=d):zeroP P (qh a) s f (qh v) k=zeroP P d s f e k:=by simp_all
theorem jh (a:Bx) (s:TypeId) (f:Nat) (v:V) :fieldAddrK P a s f v k=qk (qh (fld P s f)) fun p=>qk (qh (zK P p.2)) fun n=>qjp (qh n) (shiftP (qh v) p.1 k) (zeroP P (qh a) s f (qh v) k):=by
 simp only [qu];unfold fieldAddrK qk qjp;cases fld P s f with
 | none=>rfl
 | some p =>
  obtain⟨off,t⟩:=p;simp only [];cases zK P t with
  | none=>rfl
  | some n=>cases n <;> rfl
theorem ZV (P:Program) (s:TypeId) (f:Nat) (v:V) (k:V->Prop):fieldK P s f v k=qk (qh (fld P s f)) fun p=>Zi (qh v) fun cs=>partK P p.2 cs p.1 k:=by
 simp only [qu];unfold fieldK qk Zi;cases fld P s f with
 | none=>rfl
 | some p=>cases v <;> rfl
def we (P:Program) (d:TypeDesc) (v i:V) (k:V->Prop):Prop :=
 match d with
 | .slice e=>qk (zK P e) fun n=>wb i fun _ j=>onS v n (fun es=>qK (0<=j) (qK (j < es.length) (k (.ref (es.getD j.toNat []))))) fun b o l _=>qK (0<=j) (qK (j < l) (k (.lit (.pointer (some ⟨b,o+j.toNat * n,none⟩)))))
 | .array len e=>qk (zK P e) fun n=>wb i fun _ j=>qK (0<=j) (qK (j < len) (shiftP v (j.toNat * n) k))
 | _=>False
theorem YT (P:Program) (e:TypeId) (v i:V) (k:V->Prop):we P (.slice e) v i k=qk (qh (zK P e)) fun n=>wb (qh i) fun _ j=>onS (qh v) n (fun es=>qK (qh (0<=j)) (qK (qh (j < es.length)) (k (.ref (es.getD j.toNat []))))) fun b o l _=>qK (qh (0<=j)) (qK (qh (j < l)) (k (.lit (.pointer (some ⟨b,o+j.toNat * n,none⟩))))):=zd rfl
theorem YU (P:Program) (len:Nat) (e:TypeId) (v i:V) (k:V->Prop):we P (.array len e) v i k=qk (qh (zK P e)) fun n=>wb (qh i) fun _ j=>qK (qh (0<=j)) (qK (qh (j < len)) (shiftP (qh v) (j.toNat * n) k)):=zd rfl
theorem Zq (v i:V) :idxAddrK P t v i k=qk (qh (P.underlying t)) fun d=>we P d v i k:=by
 simp only [qu];unfold idxAddrK qk;cases P.underlying t with
 | none=>rfl
 | some d =>
  cases d <;> (first | rfl | skip)
  case slice e =>
   cases i with
   | lit x=>cases x <;> (simp only [we,wb,qk,qK];cases zK P e <;> rfl)
   | _=>simp only [we,wb,qk];cases zK P e <;> rfl
  case array len e =>
   cases i with
   | lit x=>cases x <;> (simp only [we,wb,qk,qK];cases zK P e <;> rfl)
   | _=>simp only [we,wb,qk];cases zK P e <;> rfl
def qcr (P:Program) (d:TypeDesc) (v i:V) (k:V->Prop):Prop :=
 match d with
 | .string=>QR v fun s=>wb i fun _ j=>qK (0<=j) (qK (j < s.size) (k (.lit (.int .u8 (s.data.toList.getD j.toNat 0).toNat))))
 | .array len e=>Zi v fun a=>wb i fun _ j=>qk (zK P e) fun n=>qK (0<=j) (qK (j < len) (partK P e a (j.toNat * n) k))
 | _=>False
theorem qf4 (v i:V) :qcr P .string v i k=QR (qh v) fun s=>wb (qh i) fun _ j=>qK (qh (0<=j)) (qK (qh (j < s.size)) (k (.lit (.int .u8 (s.data.toList.getD j.toNat 0).toNat)))):=zd rfl
variable {e:TypeId}
theorem qk6 (len:Nat) (v i:V) :qcr P (.array len e) v i k=Zi (qh v) fun cs=>wb (qh i) fun _ j=>qk (qh (zK P e)) fun n=>qK (qh (0<=j)) (qK (qh (j < len)) (partK P e cs (j.toNat * n) k)):=zd rfl
theorem qcq (v i:V) :idxK P t v i k=qk (qh (P.underlying t)) fun d=>qcr P d v i k:=by
 simp only [qu];unfold idxK qk;cases P.underlying t with
 | none=>rfl
 | some d =>
  cases d <;> (first | rfl | skip)
  case string =>
   cases v with
   | lit x=>cases x <;> (first | rfl | (cases i with | lit y=>cases y <;> rfl | _=>rfl))
   | _=>rfl
  case array len e =>
   cases v with
   | agg a=>cases i with
    | lit y=>cases y <;> (first | rfl | (simp only [qcr,Zi,wb,qk,qK];cases zK P e <;> rfl))
    | _=>rfl
   | _=>rfl
variable {op:BinOp} {x x':V}
@[congr] theorem qJ3 {y a:V} (h:qh x=x') (d:qh y=a):binK P op t (qh x) (qh y) k=binK P op t x' a k:=by simp_all
theorem ZC (P:Program) (op:BinOp) (t:TypeId) (k d:IntKind) (a b:Int) (K:V->Prop):binK P op t (.lit (.int k a)) (.lit (.int d b)) K=qk (qh (jq op (.int k a) (.int d b))) fun v=>K (.lit v):=by
 simp only [binK,qk];rw [qu];cases h:jq op (.int k a) (.int d b) <;> simp
theorem qzn (a b:ByteArray) (K:V->Prop):binK P op t (.lit (.string a)) (.lit (.string b)) K=qk (qh (jq op (.string a) (.string b))) fun v=>K (.lit v):=by
 simp only [binK,qk];rw [qu];cases h:jq op (.string a) (.string b) <;> simp
theorem qzo (p:Option Addr) (K:V->Prop):binK P op t (.lit (.slice p n c)) (.lit (.slice none 0 0)) K=qqu P op t p.isNone K:=zd rfl
theorem qto (o:Option Value) (k:Nat) (K:V->Prop):binK P op t (.list o k es) (.lit (.slice none 0 0)) K=qK (qh (es ≠ []∨YI o=true)) (qqu P op t false K):=zd rfl
theorem qfg (p:Addr) :YI (some (.slice (some p) n c))=true:=zd rfl
theorem qfh:YI none=false:=zd rfl
def EqK (P:Program) (op:BinOp) (t:TypeId) (xs a:List V) (k:V->Prop):Prop:=∃ l m b,vals xs=some l/\vals a=some m/\VT P op t l m b/\k (.lit (.bool b))
theorem qzq (xs:List V) :binK P op t (.agg xs) (.agg a) k=EqK P op t xs a k:=zd rfl
def unK (op:UnOp) (x:V) (k:V->Prop):Prop:=match x with | .lit a=>∃ v,sun op a=some v/\k (.lit v) | _=>False
@[congr] theorem qKn {op:UnOp} (h:qh x=x'):unK op (qh x) k=unK op x' k:=by rw [<-h]
theorem qBh (op:UnOp) (a:Value) :unK op (.lit a) k=qk (qh (sun op a)) fun v=>k (.lit v):=by
 simp only [unK,qk];rw [qu];cases h:sun op a <;> simp
def Vo (d:TypeDesc) (v:V) (k:V->Prop):Prop :=
 match d with
 | .int kk=>wb v fun _ n=>k (.lit (.int kk (kk.wrap n)))
 | .string=>QR v fun s=>k (.lit (.string s))
 | _=>False
theorem Vn (src dst:TypeId) (v:V) :convK P src dst v k=qk (qh (P.underlying src)) fun _=>qk (qh (P.underlying dst)) fun d=>Vo d v k:=by
 simp only [qu];unfold convK qk;cases P.underlying src with
 | none=>rfl
 | some a=>cases P.underlying dst with
  | none=>rfl
  | some d=>cases d <;> (first | rfl | (cases v with | lit x=>cases x <;> rfl | _=>rfl))
def qhc (P:Program) (S:St) (ds d:TypeDesc) (v:V) (k:V->Prop):Prop :=
 match ds,d with
 | .slice e,.string=>ZA P S e v k
 | .string,.slice e=>qeg P e v k
 | _,d=>Vo d v k
theorem qa3 (ds:TypeDesc) (a:IntKind) (v:V) :qhc P S ds (.int a) v k=wb (qh v) fun _ n=>k (.lit (.int a (a.wrap n))):=zd (by cases ds <;> rfl)
@[congr] theorem qH7 {v a:V} (h:qh v=a):qeg P e (qh v) k=qeg P e a k:=by rw [<-h]
theorem qu7 (s:ByteArray) :qeg P e (.lit (.string s)) k=qK (qh (P.underlying e=some (.int .u8))) (k (.list none 1 (vW s))):=zd rfl
theorem qs1 (v:V) :qhc P S .string (.slice e) v k=qeg P e (qh v) k:=zd rfl
theorem qhd (src dst:TypeId) (v:V) :Zw P S src dst v k=qk (qh (P.underlying src)) fun ds=>qk (qh (P.underlying dst)) fun d=>qhc P S ds d v k:=by
 unfold Zw;rw [Vn];simp only [qu];unfold qk;cases h:P.underlying src with
 | none=>rfl
 | some ds=>cases a:P.underlying dst with
  | none=>simp
  | some d=>cases ds <;> cases d <;> rfl
def qcn (P:Program) (d:TypeDesc) (v:V) (k:V->Prop):Prop :=
 match d with
 | .string=>QR v fun s=>k (.lit (.int .i64 s.size))
 | .slice e=>qk (zK P e) fun n=>onS v n (fun es=>k (.lit (.int .i64 es.length))) fun _ _ l _=>k (.lit (.int .i64 l))
 | _=>False
theorem qkn (v:V) :qcn P (.slice e) v k=qk (qh (zK P e)) fun n=>onS (qh v) n (fun es=>k (.lit (.int .i64 es.length))) fun _ _ l _=>k (.lit (.int .i64 l)):=zd rfl
theorem JJ (v:V) :lenK P t v k=qk (qh (P.underlying t)) fun d=>qcn P d v k:=by
 simp only [qu];unfold lenK qk;cases P.underlying t with
 | none=>rfl
 | some d =>
  cases d <;> (first | rfl | skip)
  case string=>cases v with
   | lit x=>cases x <;> rfl
   | _=>rfl
  case slice e=>simp only [qcn,qk];cases zK P e <;> rfl
@[congr] theorem qIy {v a:V} (h:qh v=a):Js S (qh v) k=Js S a k:=by rw [<-h]
theorem qw4:Js S (.lit (.map (some b))) k=qk (qh (qcu S.boxes b)) fun n=>k (.lit (.int .i64 n)):=by
 simp only [qu];rw [show Js S (.lit (.map (some b))) k=(match qcu S.boxes b with | some n=>k (.lit (.int .i64 n)) | none=>False) from rfl];generalize qcu S.boxes b=o;cases o <;> rfl
variable {ks:List Sh × Bool}
theorem qrx (es:List Ent) (cl:Nat) (r:Bx):qcu ((b,.m ks es cl)::r) b=some es.length:=by simp [qcu]
def qkm (P:Program) (S:St) (d:TypeDesc) (v:V) (k:V->Prop):Prop :=
 match d with
 | .map _ _=>Js S v k
 | d=>qcn P d v k
theorem qw5 (a b:TypeId) (v:V) :qkm P S (.map a b) v k=Js S (qh v) k:=zd rfl
theorem qfv (v:V) :qkm P S .string v k=QR (qh v) fun s=>k (.lit (.int .i64 s.size)):=zd rfl
theorem qkl (v:V) :qkm P S (.slice e) v k=qk (qh (zK P e)) fun n=>onS (qh v) n (fun es=>k (.lit (.int .i64 es.length))) fun _ _ l _=>k (.lit (.int .i64 l)):=zd rfl
theorem qCs (v:V) :Uk P S t v k=qk (qh (P.underlying t)) fun d=>qkm P S d v k:=by
 unfold Uk;rw [JJ];simp only [qu];unfold qCn qk;cases P.underlying t with
 | none=>simp
 | some d=>cases d <;> simp [qkm]
def qFe (d:TypeDesc) (v:V) (k:V->Prop):Prop:=match d,v with | .slice _,.lit (.slice _ _ c)=>k (.lit (.int .i64 c)) | _,_=>False
@[congr] theorem qJy {d:TypeDesc} {v a:V} (h:qh v=a):qFe d (qh v) k=qFe d a k:=by rw [<-h]
theorem ql6 (a:Option Addr) :qFe (.slice e) (.lit (.slice a n c)) k=k (.lit (.int .i64 c)):=zd rfl
theorem qFd (v:V) :capK P t v k=qk (qh (P.underlying t)) fun d=>qFe d v k:=by
 simp only [qu];unfold capK qk;cases P.underlying t with
 | none=>rfl
 | some d=>cases d <;> (first | rfl | (cases v with | lit x=>cases x <;> rfl | _=>rfl))
def Ki (v:V) (k:Nat->Nat->Prop):Prop:=match v with | .lit (.pointer (some ⟨b,o,none⟩))=>k b o | _=>False
@[congr] theorem qGp {v a:V} {k:Nat->Nat->Prop} (h:qh v=a):Ki (qh v) k=Ki a k:=by rw [<-h]
theorem j1 (k:Nat->Nat->Prop):Ki (.lit (.pointer (some ⟨b,o,none⟩))) k=k b o:=zd rfl
def yK (P:Program) (d:TypeDesc) (v:V) (p a j:Option V) (k:V->Prop):Prop :=
 match d with
 | .string=>QR v fun s=>qK (j=none) (bnd a s.size fun h=>bnd p 0 fun l=>qK (l<=h) (qK (h<=s.size) (k (.lit (.string (s.extract l h))))))
 | .slice e=>qk (zK P e) fun n=>onS v n (fun es=>bnd a es.length fun h=>bnd p 0 fun l=>qK (l<=h) (qK (h<=es.length) (qK (∀ x,j=some x->a.isSome/\bnd j 0 fun m=>h<=m/\m<=es.length) (k (.list none n ((es.drop l).take (h - l)))))))
   fun b o q c=>bnd j c fun m=>bnd a q fun h=>bnd p 0 fun l=>qK (l<=h) (qK (h<=m) (qK (m<=c) (qK (j.isSome=true->a.isSome=true) (k (.lit (.slice (some ⟨b,if m=l then o else o+l * n,none⟩) (h - l) (m - l)))))))
 | .array N e=>qk (zK P e) fun n=>Ki v fun b o=>bnd j N fun m=>bnd a N fun h=>bnd p 0 fun l=>qK (l<=h) (qK (h<=m) (qK (m<=N) (qK (j.isSome=true->a.isSome=true) (k (.lit (.slice (some ⟨b,if m=l then o else o+l * n,none⟩) (h - l) (m - l)))))))
 | _=>False
@[congr] theorem qBy {d:TypeDesc} {v q:V} {j n a e o p:Option V} (h:qh v=q) (u:qh j=n) (w:qh a=e) (x:qh o=p):yK P d (qh v) (qh j) (qh a) (qh o) k=yK P d q n e p k:=by simp_all
theorem qb0 (v:V) (d a:Option V) :yK P (.slice e) v d a none k=qk (qh (zK P e)) fun n=>onS (qh v) n (fun es=>bnd (qh a) es.length fun h=>bnd (qh d) 0 fun l=>qK (qh (l<=h)) (qK (qh (h<=es.length)) (k (.list none n ((es.drop l).take (h - l)))))) fun b o j c=>bnd (qh none) c fun m=>bnd (qh a) j fun h=>bnd (qh d) 0 fun l=>qK (qh (l<=h)) (qK (qh (h<=m)) (qK (qh (m<=c)) (k (.lit (.slice (some ⟨b,if m=l then o else o+l * n,none⟩) (h - l) (m - l)))))):=by
 simp only [yK,qK,qu];simp
theorem V5 (P:Program) (e:TypeId) (v:V) (d:Option V) (a j:V) (k:V->Prop):yK P (.slice e) v d (some a) (some j) k=qk (qh (zK P e)) fun n=>onS (qh v) n (fun es=>bnd (qh (some a)) es.length fun h=>bnd (qh d) 0 fun l=>qK (qh (l<=h)) (qK (qh (h<=es.length)) (qK (qh (bnd (qh (some j)) 0 fun m=>h<=m/\m<=es.length)) (k (.list none n ((es.drop l).take (h - l))))))) fun b o p c=>bnd (qh (some j)) c fun m=>bnd (qh (some a)) p fun h=>bnd (qh d) 0 fun l=>qK (qh (l<=h)) (qK (qh (h<=m)) (qK (qh (m<=c)) (k (.lit (.slice (some ⟨b,if m=l then o else o+l * n,none⟩) (h - l) (m - l)))))):=by
 simp only [yK,qK,qu];simp
theorem K9 (v:V) (j h n:Option V) :sliceK P t v j h n k=qk (qh (P.underlying t)) fun d=>yK P d v j h n k:=by
 simp only [qu];unfold sliceK qk;cases P.underlying t with
 | none=>rfl
 | some d =>
  cases d <;> (first | rfl | skip)
  case string=>cases v with
   | lit x=>cases x <;> rfl
   | _=>rfl
  case slice e=>simp only [yK,qk];cases zK P e <;> rfl
  case array N e =>
   simp only [yK,qk];cases v with
   | lit x=>cases x with
    | pointer a=>cases a with
     | none=>cases zK P e <;> rfl
     | some a=>obtain⟨b,o,r⟩:=a;cases r <;> dsimp only <;> cases zK P e <;> rfl
    | _=>cases zK P e <;> rfl
   | _=>cases zK P e <;> rfl
theorem WG (P:Program) (t:TypeId) (ps:List (Nat × V)) (k:V->Prop):buildK P t ps k=qk (qh (kG P t)) fun z=>qk (qh (Xk P t (z.map .lit) ps)) fun cs=>k (.agg cs):=by
 simp only [qu];unfold buildK qk;cases kG P t with
 | none=>rfl
 | some z=>simp only [];cases Xk P t (z.map .lit) ps <;> simp
@[congr] theorem qIq {v a:V} (h:qh v=a):nilK (qh v) k=nilK a k:=by rw [<-h]
theorem qwp (a:Addr) :nilK (.lit (.pointer (some a))) k=k (.lit (.pointer (some a))):=zd rfl
variable {K:St->Prop} {d:Option Nat}
theorem qty:ja P S d t K=qk (qh (kG P t)) fun z=>qK (qh (yx (z.map .lit)=true)) (KU ((qL S.boxes S.rows)) (fun b=>K ((S.addBox b (z.map .lit)).put d (.lit (.pointer (some ⟨b,0,none⟩))))) .mk):=by
 simp only [qu];unfold ja qk qK KU;cases kG P t <;> rfl
theorem qFi (v:V) :ZB S d t v K=qk (qh (xB v)) fun cs=>qK (qh (yx cs=true/\t < ntypes)) (KU ((qL S.boxes S.rows)) (fun b=>K ((S.addBox b cs).put d (.lit (.pointer (some ⟨b,0,none⟩))))) .mk):=by
 simp only [qu];unfold ZB qk qK KU;cases xB v <;> rfl
theorem wR (p v:V) :wm P S d t p v K=Ki (qh p) fun b o=>qk (qh (zF S.boxes b)) fun cs=>qk (qh (xB v)) fun vs=>qk (qh (zK P t)) fun n =>
  qK (qh (vs.length=n/\yx vs=true/\o+n<=cs.length)) (Xh (qh (kZ S.boxes b (cs.take o++vs++cs.drop (o+n)))) fun e=>K ((S.setBoxes e).put d .any)):=by
 have key:∀ b o,wm P S d t (.lit (.pointer (some ⟨b,o,none⟩))) v K=qk (zF S.boxes b) fun cs=>qk (xB v) fun vs=>qk (zK P t) fun n =>
   qK (vs.length=n/\yx vs=true/\o+n<=cs.length) (Xh (kZ S.boxes b (cs.take o++vs++cs.drop (o+n))) fun e=>K ((S.setBoxes e).put d .any)):=fun b o=>by
  simp only [wm,qk,qK,St.setBoxes,Xh];cases zF S.boxes b with
  | none=>rfl
  | some cs=>cases xB v with
   | none=>rfl
   | some vs=>cases zK P t with
    | none=>rfl
    | some n=>simp only [and_assoc]
 cases p with
 | lit x=>cases x with
  | pointer a=>cases a with
   | none=>rfl
   | some a =>
    obtain⟨b,o,h⟩:=a;cases h with
    | none=>exact key b o
    | some _=>rfl
  | _=>rfl
 | _=>rfl
def zR (d:TypeDesc) (k:TypeId->Prop):Prop:=match d with | .slice e=>k e | _=>False
theorem V4 (e:TypeId) (k:TypeId->Prop):zR (.slice e) k=k e:=zd rfl
theorem qCk (b:Bool) (K:V->Prop):qqu P op t b K=qk (qh (P.underlying t)) fun u=>zR u fun _=>qk (qh (qt8 op b)) fun v=>K (.lit (.bool v)):=by
 simp only [qu];unfold qqu qk zR;cases P.underlying t with
 | none=>simp
 | some u=>cases u <;> ((cases qt8 op b <;> simp;done))
def qme (u:TypeDesc) (A:Prop) (_:xp A):Prop:=match u with | .bool=>A | _=>False
theorem qhu (p:xp A):qme .bool A p=A:=zd rfl
theorem qtp (a b:Bool) (K:V->Prop):binK P op t (.lit (.bool a)) (.lit (.bool b)) K=qk (qh (P.underlying t)) fun u=>qme u (qk (qh (qt8 op (decide (a=b)))) fun v=>K (.lit (.bool v))) .mk:=by
 show qzk P op t a b K=_;simp only [qu];unfold qzk qk qme;cases P.underlying t with
 | none=>simp
 | some u =>
  cases h:qt8 op (decide (a=b)) with
  | none=>cases u <;> simp [qu]
  | some v=>cases u <;> simp [qu]
variable {ps:List (Nat × V)}
theorem vX:ze P S d t n ps K =
  qk (qh (P.underlying t)) fun u=>zR u fun e=>qk (qh (zK P e)) fun k=>qk (qh (kG P e)) fun z=>qK (qh (0 < k/\z.length=k/\n * k<=16777216)) (qk (qh (yN k 0 ps)) fun es=>qK (qh (es.length=n)) (qm3 fun y=>K ((S.addRow ⟨y,k,e⟩).put d (.list (some y) k es)))):=by
 simp only [qu];unfold ze qk qK qm3 zR;cases P.underlying t with
 | none=>rfl
 | some u =>
   cases u <;> (first | rfl | skip)
   case slice e=>simp only [];cases zK P e with
    | none=>rfl
    | some k=>cases kG P e with
     | none=>rfl
     | some z=>simp only [];cases yN k 0 ps <;> simp [and_assoc]
theorem vY:buildSliceD P t n ps k =
  qk (qh (P.underlying t)) fun u=>zR u fun e=>qk (qh (zK P e)) fun c=>qk (qh (kG P e)) fun z=>qK (qh (0 < c/\z.length=c/\n * c<=16777216)) (qk (qh (yN c 0 ps)) fun es=>qK (qh (es.length=n)) (k (.list none c es))):=by
 simp only [qu];unfold buildSliceD qk qK zR;cases P.underlying t with
 | none=>rfl
 | some u =>
   cases u <;> (first | rfl | skip)
   case slice e=>simp only [];cases zK P e with
    | none=>rfl
    | some k=>cases kG P e with
     | none=>rfl
     | some z=>simp only [];cases yN k 0 ps <;> simp [and_assoc]
variable {s:V}
@[congr] theorem qJ4 {k a:Nat} {n:V} {fs j:List (List V)} (h:qh s=n) (o:qh fs=j):yS S d k a e (qh s) (qh fs) K=yS S d k a e n j K:=by simp_all
theorem qz6 (k a:Nat) (fs:List (List V)) :yS S d k a e (.lit (.slice none 0 0)) fs K=qK (qh (fs.length * a<=140737488355328)) (qm3 fun y=>K ((S.addRow ⟨y,k,e⟩).put d (.list (some y) k fs))):=zd rfl
theorem qbu (x:Value) (k:Nat) (e:TypeId) (K:Row->List Row->Prop):uj [⟨x,k,e⟩] x K=K ⟨x,k,e⟩ []:=by simp [uj]
def Yc (l:List Row) (y:Value) (K:Row->List Row->Prop) (_:xp K):Prop:=uj l y K
theorem V1 (x:Value) (k:Nat) (e:TypeId) (K:Row->List Row->Prop) (p:xp K):Yc [⟨x,k,e⟩] x K p=K ⟨x,k,e⟩ []:=qbu x k e K
theorem yt {x:Value} {k:Nat} {rs:List Row} {K:Row->List Row->Prop} {p:xp K} (h:K ⟨x,k,e⟩ rs):Yc (⟨x,k,e⟩::rs) x K p:=.inl ⟨rfl,h⟩
theorem xf {x:Value} {k:Nat} {r:Row} {rs:List Row} {K:Row->List Row->Prop} {p:xp K} (h:K ⟨x,k,e⟩ (r::rs)):Yc (r::⟨x,k,e⟩::rs) x K p:=.inr (.inl ⟨rfl,h⟩)
theorem Le.nil (k:Nat):Le (.lit (.slice none 0 0)) (.list none k []):=fun w I x h=>by
 simp only [V.rep] at h;subst h;simp only [V.rep];simp
theorem qz5 (k h a:Nat) (y:Value) (fs:List (List V)) :yS S d k a e (.list (some y) h es) fs K =
  qK (qh (h=k)) (Yc S.rows y (fun r rs=>qK (qh (r.k=k/\r.e=e/\(es.length+fs.length) * a<=140737488355328)) (qm3 fun j=>K ((S.setRows (⟨j,k,e⟩::rs)).put d (.list (some j) k (es++fs))))) .mk):=zd rfl
theorem XK (h j:V) :zY P S d t h j K =
  qk (qh (P.underlying t)) fun u=>zR u fun e=>qk (qh (zK P e)) fun k=>qk (qh (QN P e)) fun a=>qk (qh (kG P e)) fun z=>qK (qh (0 < k/\0 < a/\z.length=k)) (onL (qh j) k fun fs=>yS S d k a e (qh h) (qh fs) K):=by
 simp only [qu];unfold zY qk qK zR;cases P.underlying t with
 | none=>rfl
 | some u =>
   cases u <;> (first | rfl | skip)
   case slice e=>simp only [];cases zK P e with
    | none=>rfl
    | some k=>cases QN P e with
     | none=>rfl
     | some a=>cases kG P e with
      | none=>rfl
      | some z=>rfl
@[congr] theorem qHi {f j:V} {e:List V} (h:qh f=j) (k:qh a=e):yE P S d (qh f) (qh a) K=yE P S d j e K:=by simp_all
@[congr] theorem qHh {f e:V} {d:List V} (h:qh f=e) (j:qh a=d):callK P (qh f) (qh a) k=callK P e d k:=by simp_all
def OkF (P:Program) (f:FuncId) (k:List V) (h:Bx) (Q:V->Bx->List Row->Prop) (_:xp Q):Prop :=
 ∃ d a,h.Perm (d++a)/\Ok P f k d fun v e j=>((e++a).map (·.1)).Nodup->Q v (e++a) j
def onB (b:Bool) (A B:Prop) (_:xp A) (_:xp B):Prop:=match b with | true=>A | false=>B
theorem qK9 (B:Prop) (p:xp A) (q:xp B):onB true A B p q=A:=zd rfl
theorem qLa (B:Prop) (p:xp A) (q:xp B):onB false A B p q=B:=zd rfl
def qMk (P:Program) (S:St) (g:FuncId) (a:List V) (K:V->Prop) (_:xp K):Prop:=∃ v,qib P S g a v/\K v
variable {g:FuncId}
theorem QL {K:V->Prop} {p:xp K} (v:V) (h:qib P S g a v) (d:K v):qMk P S g a K p:=⟨v,h,d⟩
theorem qmb (P:Program) (S:St) (d:Option Nat) (g:FuncId) (first cap:Array Value) (a:List V) (K:St->Prop):yE P S d (.lit (.func (.func g) first cap)) a K =
  onB (zg P g) (OkF P g (first.toList.map .lit++a++cap.toList.map .lit) S.boxes (fun v e rs=>K (((S.setBoxes e).setRows (rs++S.rows)).put d v)) .mk) (qMk P S g (first.toList.map .lit++a++cap.toList.map .lit) (fun v=>K (S.put d v)) .mk) .mk .mk:=by
 simp only [yE];cases zg P g <;> rfl
theorem qzf (vs:List V) :yE P S d (.fn g vs) a K =
  qK (qh (zg P g=true)) (OkF P g (vs++a) S.boxes (fun v e rs=>K (((S.setBoxes e).setRows (rs++S.rows)).put d v)) .mk):=zd rfl
def Clr (n:Nat) (A B:Prop) (_:xp A) (_:xp B):Prop:=(n=0->A)/\(0 < n->B)
def qzd (P:Program) (S:St) (d:Option Nat) (e:TypeId) (s:V) (K:St->Prop):Prop:=match s with
 | .lit (.slice none _ _)=>K (S.put d (.lit (.tuple #[])))
 | .lit (.slice (some ⟨b,o,none⟩) n _)=>(n=0->K (S.put d (.lit (.tuple #[]))))/\(0 < n->match zK P e,kG P e,zF S.boxes b with
  | some k,some z,some a=>z.length=k/\yx (z.map .lit)=true/\o+n * k<=a.length/\K ((S.setBoxes (kZ S.boxes b (a.take o++zC (n * k)++a.drop (o+n * k)))).put d (.lit (.tuple #[])))
  | _,_,_=>False)
 | _=>False
@[congr] theorem qJw {a:V} (h:qh s=a):qzd P S d e (qh s) K=qzd P S d e a K:=by rw [<-h]
theorem qtc:QD P S d t s K=qk (qh (P.underlying t)) fun u=>zR u fun e=>qzd P S d e (qh s) K:=by
 simp only [qu];unfold QD qk zR;cases P.underlying t with
 | none=>rfl
 | some u=>cases u <;> rfl
theorem qzc:qzd P S d e (.lit (.slice (some ⟨b,o,none⟩) n c)) K =
  Clr n (K (S.put d (.lit (.tuple #[])))) (qk (qh (zK P e)) fun k=>qk (qh (kG P e)) fun z=>qk (qh (zF S.boxes b)) fun cs =>
   qK (qh (z.length=k/\yx (z.map .lit)=true/\o+n * k<=cs.length)) (K ((S.setBoxes (kZ S.boxes b (cs.take o++zC (n * k)++cs.drop (o+n * k)))).put d (.lit (.tuple #[]))))) .mk .mk:=by
 unfold qzd Clr qk qK;simp only [qu];cases zK P e with
 | none=>rfl
 | some k=>cases kG P e with
  | none=>rfl
  | some z=>cases zF S.boxes b with
   | none=>rfl
   | some cs=>simp only [and_assoc]
def qMd (P:Program) (l:Nat) (k:List V) (h:Bx) (Q:V->Bx->List Row->Prop) (_:xp Q):Prop :=
 ∃ d a,h.Perm (d++a)/\Q3 P l k d fun v e j=>((e++a).map (·.1)).Nodup->Q v (e++a) j
variable {Q:V->Bx->List Row->Prop}
theorem Q3.mono {l:Nat} {d:List V} {a:Bx} {Q':V->Bx->List Row->Prop} (h:Q3 P l d a Q) (z:∀ v a rs,Q v a rs->Q' v a rs):Q3 P l d a Q' :=
 fun w I D A y=>(h w I D A y).mono fun _ _ ⟨x,v,j,C,e,k,n,o,p,q,u⟩=>⟨x,v,j,C,e,k,n,o,p,q,z _ _ _ u⟩
variable {Q0:V->Bx->List Row->Prop}
theorem ye {l:Nat} {j:List V} {e:Bx} {p:xp Q} (a lf:Bx) (n:e.Perm (a++lf)) (h:Q3 P l j a Q0) (k:∀ v d rs,Q0 v d rs->((d++lf).map (·.1)).Nodup->Q v (d++lf) rs):qMd P l j e Q p :=
 ⟨a,lf,n,h.mono k⟩
theorem qhn (l:Nat) (first cap:Array Value) :yE P S d (.lit (.func (.yield l) first cap)) a K =
  qMd P l (first.toList.map .lit++a) S.boxes (fun v e rs=>K (((S.setBoxes e).setRows (rs++S.rows)).put d v)) .mk:=zd rfl
def qA1 (P:Program) (g:FuncId) (a:List V) (k:V->Prop) (_:xp k):Prop:=∃ v,OkV P g a v/\k v
theorem qma (first cap:Array Value) :callK P (.lit (.func (.func g) first cap)) a k=qK (qh (zg P g=true)) (qA1 P g (first.toList.map .lit++a++cap.toList.map .lit) k .mk):=zd rfl
theorem qt {p:xp k} (v:V) (h:OkV P g a v) (d:k v):qA1 P g a k p:=⟨v,h,d⟩
theorem qo {d:List V} {a:Bx} {p:xp Q} (v:V) (h:zk P g d v) (o:Q v a []):OkF P g d a Q p :=
 ⟨[],a,zp _,Ok.mono h fun u j q ⟨e,k,n⟩=>by simp_all⟩
theorem qr {j:List V} {e:Bx} {p:xp Q} (d lf:Bx) (n:e.Perm (d++lf)) (h:Ok P g j d Q0) (k:∀ v a rs,Q0 v a rs->Q v (a++lf) rs):OkF P g j e Q p :=
 ⟨d,lf,n,Ok.mono h fun v a rs o _=>k v a rs o⟩
theorem zB {j:List V} {e:Bx} {p:xp Q} (a lf:Bx) (n:e.Perm (a++lf)) (h:Ok P g j a Q0) (k:∀ v d rs,Q0 v d rs->((d++lf).map (·.1)).Nodup->Q v (d++lf) rs):OkF P g j e Q p :=
 ⟨a,lf,n,Ok.mono h k⟩
theorem qh7 {e:List V} {d:Bx} {p:xp Q} (h:Ok P g e [] Q0) (j:∀ v a rs,Q0 v a rs->Q v (a++d) rs):OkF P g e d Q p :=
 ⟨[],d,zp _,Ok.mono h fun v a rs k _=>j v a rs k⟩
def jS (A B:Prop) (_:xp A) (_:xp B):Prop:=A∨B
theorem jS.l {B:Prop} {p:xp A} {q:xp B} (h:A):jS A B p q:=.inl h
theorem jS.r {B:Prop} {p:xp A} {q:xp B} (h:B):jS A B p q:=.inr h
def If2 (c:Prop) [Decidable c] (A B:Prop) (_:xp A) (_:xp B):Prop:=if c then A else B
theorem qMi (B:Prop) (p:xp A) (q:xp B) (i:Decidable True):@If2 True i A B p q=A:=by simp [If2]
def ZH (l:List Nat) (n:Nat) (K:Nat->Nat->Prop) (_:xp K):Prop:=∀ b c,b ∉ l->n<=c->K b c
def qpl (S:St) (u:TypeDesc) (k:Nat) (x:V) (K:Nat->List V->Prop):Prop :=
 match u,x with
 | .slice _,.list _ k' es=>k'=k/\K es.length es.flatten
 | .slice _,.lit (.slice none 0 0)=>K 0 []
 | .slice _,.lit (.slice (some ⟨b,o,none⟩) n _)=>match zF S.boxes b with
  | some a=>o+n * k<=a.length/\K n ((a.drop o).take (n * k))
  | none=>False
 | .string,.lit (.string s)=>k=1/\K s.size (Zz s)
 | _,_=>False
@[congr] theorem qH9 {u:TypeDesc} {k:Nat} {K:Nat->List V->Prop} (h:qh x=x'):qpl S u k (qh x) K=qpl S u k x' K:=by rw [<-h]
@[congr] theorem qH8 {a:TypeId} {k:Nat} {K:Nat->List V->Prop} (h:qh x=x'):Xr P S a k (qh x) K=Xr P S a k x' K:=by rw [<-h]
theorem qpk (k:Nat) (a:Option Value) (d:Nat) (K:Nat->List V->Prop):qpl S (.slice e) k (.list a d es) K=qK (qh (d=k)) (K es.length es.flatten):=zd rfl
theorem qva (k:Nat) (K:Nat->List V->Prop):qpl S (.slice e) k (.lit (.slice (some ⟨b,o,none⟩) n c)) K=qk (qh (zF S.boxes b)) fun cs=>qK (qh (o+n * k<=cs.length)) (K n ((cs.drop o).take (n * k))):=by
 simp only [qpl,qk,qu];cases zF S.boxes b <;> rfl
theorem qBu (d:TypeId) (k:Nat) (K:Nat->List V->Prop):Xr P S d k x K=qk (qh (P.underlying d)) fun u=>qpl S u k x K:=by
 simp only [qu];unfold Xr qk;cases P.underlying d with
 | none=>rfl
 | some u=>cases u <;> first | rfl | (cases x with
  | lit y=>cases y with
   | slice a n c=>cases a with
    | none=>cases n <;> cases c <;> rfl
    | some a=>obtain⟨b,o,e⟩:=a;cases e <;> rfl
   | _=>rfl
  | _=>rfl)
def Xn (S:St) (d:Option Nat) (k h:Nat) (s:V) (m:Nat) (fs:List V) (K:St->Prop):Prop :=
 match s with
 | .lit (.slice none 0 0)=>0 < m/\m * h<=140737488355328/\∀ b c,b ∉ qL S.boxes S.rows->m<=c->K ((S.addBox b (fs++zC ((c - m) * k))).put d (.lit (.slice (some ⟨b,0,none⟩) m c)))
 | .lit (.slice (some ⟨b,0,none⟩) n c)=>match zF S.boxes b with
  | some j=>j.length=c * k/\n<=c/\(n+m) * h<=140737488355328/\∀ a e,a ∉ qL (wo S.boxes b) S.rows->n+m<=e ->
    K ((S.setBoxes ((a,.c (j.take (n * k)++fs++zC ((e - (n+m)) * k)))::wo S.boxes b)).put d (.lit (.slice (some ⟨a,0,none⟩) (n+m) e)))
  | none=>False
 | _=>False
variable {fs:List V} {m:Nat}
@[congr] theorem qHl {k a:Nat} {j:V} {e:List V} (h:qh s=j) (n:qh fs=e):ZE S d k a (qh s) m (qh fs) K=ZE S d k a j m e K:=by simp_all
@[congr] theorem qHm {k a:Nat} {j:V} {e:List V} (h:qh s=j) (n:qh fs=e):Xn S d k a (qh s) m (qh fs) K=Xn S d k a j m e K:=by simp_all
theorem qtu (k e:Nat) :ZE S d k e (.lit (.slice (some ⟨b,o,none⟩) n c)) m fs K=qk (qh (zF S.boxes b)) fun cs=>qK (qh (o+c * k<=cs.length/\n<=c))
  (If2 (n+m<=c) (K ((S.setBoxes (kZ S.boxes b (cs.take (o+n * k)++fs++cs.drop (o+n * k+m * k)))).put d (.lit (.slice (some ⟨b,o,none⟩) (n+m) c))))
   (qK (qh ((n+m) * e<=140737488355328)) (ZH (qL S.boxes S.rows) (n+m) (fun a c'=>K ((S.addBox a ((cs.drop o).take (n * k)++fs++zC ((c' - (n+m)) * k))).put d (.lit (.slice (some ⟨a,0,none⟩) (n+m) c')))) .mk)) .mk .mk):=by
 simp only [ZE,qk,qu];cases zF S.boxes b with
 | none=>rfl
 | some cs=>simp only [qK,If2,Uh,ZH,and_assoc,qu]
theorem qtv (k a:Nat) :Xn S d k a (.lit (.slice none 0 0)) m fs K =
  qK (qh (0 < m/\m * a<=140737488355328)) (ZH (qL S.boxes S.rows) m (fun b c=>K ((S.addBox b (fs++zC ((c - m) * k))).put d (.lit (.slice (some ⟨b,0,none⟩) m c)))) .mk):=by
 simp only [Xn,qK,ZH,qu,and_assoc]
theorem qtw (k e:Nat) :Xn S d k e (.lit (.slice (some ⟨b,0,none⟩) n c)) m fs K=qk (qh (zF S.boxes b)) fun cs =>
  qK (qh (cs.length=c * k/\n<=c/\(n+m) * e<=140737488355328)) (ZH (qL (wo S.boxes b) S.rows) (n+m) (fun a c' =>
    K ((S.setBoxes ((a,.c (cs.take (n * k)++fs++zC ((c' - (n+m)) * k)))::wo S.boxes b)).put d (.lit (.slice (some ⟨a,0,none⟩) (n+m) c')))) .mk):=by
 simp only [Xn,qk,qu];cases zF S.boxes b with
 | none=>rfl
 | some cs=>simp only [qK,ZH,and_assoc]
theorem qz4 (h:TypeId) :ZD P S d t h s x K =
  qk (qh (P.underlying t)) fun u=>zR u fun e=>qk (qh (zK P e)) fun k=>qk (qh (QN P e)) fun a=>qk (qh (kG P e)) fun z=>qK (qh (0 < a/\z.length=k/\yx (z.map .lit)=true)) (Xr P S h k (qh x) fun m fs=>ZE S d k a (qh s) m (qh fs) K):=by
 simp only [qu];unfold ZD qk qK zR;cases P.underlying t with
 | none=>rfl
 | some u =>
   cases u <;> (first | rfl | skip)
   case slice e=>simp only [];cases zK P e with
    | none=>rfl
    | some k=>cases QN P e with
     | none=>rfl
     | some a=>cases kG P e with
      | none=>rfl
      | some z=>simp only [and_assoc]
theorem VD (P:Program) (S:St) (d:Option Nat) (t h:TypeId) (s x:V) (K:St->Prop):ZF P S d t h s x K =
  qk (qh (P.underlying t)) fun u=>zR u fun e=>qk (qh (zK P e)) fun k=>qk (qh (QN P e)) fun a=>qk (qh (kG P e)) fun z=>qK (qh (0 < a/\z.length=k/\yx (z.map .lit)=true)) (Xr P S h k (qh x) fun m fs=>Xn S d k a (qh s) m (qh fs) K):=by
 simp only [qu];unfold ZF qk qK zR;cases P.underlying t with
 | none=>rfl
 | some u =>
   cases u <;> (first | rfl | skip)
   case slice e=>simp only [];cases zK P e with
    | none=>rfl
    | some k=>cases QN P e with
     | none=>rfl
     | some a=>cases kG P e with
      | none=>rfl
      | some z=>simp only [and_assoc];rfl
@[congr] theorem quh {a:V} (h:qh s=a) (j:qh x=x'):xw P S d t e (qh s) (qh x) K=xw P S d t e a x' K:=by simp_all
theorem Uw (n:TypeId) (a e:Option Value) (k j:Nat) (h:List (List V)) :xw P S d t n (.list a k es) (.list e j h) K=qK (qh (n=t)) (zY P S d t (.list a k es) (.list e j h) K):=zd rfl
theorem qhz (j:TypeId) (h:V) (b:ByteArray) :VB P S d t j h b K =
  qk (qh (P.underlying t)) fun u=>zR u fun e=>qk (qh (zK P e)) fun k=>qk (qh (QN P e)) fun a=>qk (qh (kG P e)) fun z=>qK (qh (P.underlying j=some .string/\k=1/\0 < a/\z.length=k)) (yS S d k a e (qh h) (qbw b) K):=by
 simp only [qu];unfold VB qk qK zR;cases P.underlying t with
 | none=>rfl
 | some u =>
   cases u <;> (first | rfl | skip)
   case slice e=>simp only [];cases zK P e with
    | none=>rfl
    | some k=>cases QN P e with
     | none=>rfl
     | some a=>cases kG P e with
      | none=>rfl
      | some z=>rfl
@[congr] theorem qzh {a:List (Nat × V)} (h:qh ps=a):wL P S d t n (qh ps) K=wL P S d t n a K:=by rw [<-h]
theorem Uq:wL P S d t 0 [] K=jS (ze P S d t 0 [] K) (xd P S d t (.lit (.int .i64 0)) (.lit (.int .i64 0)) K) .mk .mk:=zd rfl
theorem Ur (p:Nat × V) :wL P S d t n (p::ps) K=ze P S d t n (p::ps) K:=zd (by unfold wL;simp)
theorem Ux (a:TypeId) :xw P S d t a (.lit (.slice none n c)) x K=jS (qK (qh (a=t)) (zY P S d t (.lit (.slice none n c)) x K)) (ZF P S d t a (.lit (.slice none n c)) x K) .mk .mk:=zd rfl
theorem Jz (h:TypeId) (a:Addr) (e:IntKind) (j:Int) :xw P S d t h (.lit (.slice (some a) n c)) (.lit (.int e j)) K=Xm P S d t h (.lit (.slice (some a) n c)) (.lit (.int e j)) K:=zd rfl
theorem VA (P:Program) (S:St) (d:Option Nat) (t e:TypeId) (a:Addr) (n c:Nat) (o:Option Value) (k:Nat) (es:List (List V)) (K:St->Prop):xw P S d t e (.lit (.slice (some a) n c)) (.list o k es) K=jS (ZD P S d t e (.lit (.slice (some a) n c)) (.list o k es) K) (ZF P S d t e (.lit (.slice (some a) n c)) (.list o k es) K) .mk .mk:=zd rfl
theorem JA (j:TypeId) (a:Addr) (e:Option Addr) (h c':Nat) :xw P S d t j (.lit (.slice (some a) n c)) (.lit (.slice e h c')) K=jS (ZD P S d t j (.lit (.slice (some a) n c)) (.lit (.slice e h c')) K) (ZF P S d t j (.lit (.slice (some a) n c)) (.lit (.slice e h c')) K) .mk .mk:=zd rfl
def qhb (S:St) (d:Option Nat) (k:Nat) (s:V) (m:Nat) (fs:List V) (K:St->Prop):Prop :=
 match s with
 | .lit (.slice none 0 0)=>K (S.put d (.lit (.int .i64 0)))
 | .lit (.slice (some ⟨b,o,none⟩) n _)=>match zF S.boxes b with
  | some a=>o+n * k<=a.length/\K ((S.setBoxes (kZ S.boxes b (a.take o++fs.take (min m n * k)++a.drop (o+min m n * k)))).put d (.lit (.int .i64 (min m n:Nat))))
  | none=>False
 | _=>False
@[congr] theorem qG9 {k:Nat} {e:V} (h:qh s=e) (j:qh fs=a):qhb S d k (qh s) m (qh fs) K=qhb S d k e m a K:=by simp_all
theorem qs0 (k:Nat) :qhb S d k (.lit (.slice (some ⟨b,o,none⟩) n c)) m fs K=qk (qh (zF S.boxes b)) fun cs=>qK (qh (o+n * k<=cs.length))
  (K ((S.setBoxes (kZ S.boxes b (cs.take o++fs.take (min m n * k)++cs.drop (o+min m n * k)))).put d (.lit (.int .i64 (min m n:Nat))))):=by
 simp only [qhb,qk,qu];cases zF S.boxes b <;> rfl
theorem qy7 (a:TypeId) :vQ P S d t a s x K =
  qk (qh (P.underlying t)) fun u=>zR u fun e=>qk (qh (zK P e)) fun k=>Xr P S a k (qh x) fun m fs=>qhb S d k (qh s) m (qh fs) K:=by
 simp only [qu];unfold vQ qk zR;cases P.underlying t with
 | none=>rfl
 | some u =>
   cases u <;> (first | rfl | skip)
   case slice e=>simp only [];cases zK P e <;> rfl
@[congr] theorem qq5 {l a c c':V} (h:qh l=a) (e:qh c=c'):xd P S d t (qh l) (qh c) K=xd P S d t a c' K:=by simp_all
theorem YN (P:Program) (S:St) (d:Option Nat) (t:TypeId) (j h:IntKind) (l c:Int) (K:St->Prop):xd P S d t (.lit (.int j l)) (.lit (.int h c)) K =
  qk (qh (P.underlying t)) fun u=>zR u fun e=>qk (qh (zK P e)) fun k=>qk (qh (QN P e)) fun a=>qk (qh (kG P e)) fun z =>
   qK (qh (z.length=k/\0 < k/\yx (z.map .lit)=true)) (qK (qh (0<=l/\l<=c/\c.toNat * a<=140737488355328/\c<=140737488355328)) (KU (qL S.boxes S.rows) (fun b=>K ((S.addBox b ((List.replicate c.toNat (z.map V.lit)).flatten)).put d (.lit (.slice (some ⟨b,0,none⟩) l.toNat c.toNat)))) .mk)):=by
 simp only [qu];unfold xd qk zR qK KU;cases P.underlying t with
 | none=>rfl
 | some u =>
   cases u <;> (first | rfl | skip)
   case slice e=>simp only [];cases zK P e with
    | none=>rfl
    | some k=>cases QN P e with
     | none=>rfl
     | some a=>cases kG P e with
      | none=>rfl
      | some z=>simp only [and_assoc]
theorem qtt (P:Program) (S:St) (d:Option Nat) (t w:TypeId) (b o n c:Nat) (A:IntKind) (j:Int) (K:St->Prop)
  (h:qk (P.underlying t) fun u=>zR u fun e=>qk (P.underlying w) fun x=>(∃ q,x=.int q)/\qk (zK P e) fun k=>qk (QN P e) fun p=>qk (kG P e) fun z=>qk (zF S.boxes b) fun cs =>
   (0 < p/\0 < k/\z.length=k/\yx (z.map .lit)=true)/\0 < j/\o+n * k<=cs.length/\c < n+j.toNat/\(n+j.toNat) * p<=140737488355328 /\
    ∀ a c',a ∉ qL S.boxes S.rows->n+j.toNat<=c'->K ((S.addBox a ((cs.drop o).take (n * k)++zC ((c' - n) * k))).put d (.lit (.slice (some ⟨a,0,none⟩) (n+j.toNat) c')))) :
  Xm P S d t w (.lit (.slice (some ⟨b,o,none⟩) n c)) (.lit (.int A j)) K:=by
 unfold qk at h;unfold Xm;cases hu:P.underlying t with
 | none=>simp_all
 | some u =>
  simp only [hu] at h;cases u <;> simp only [zR] at h
  case slice e =>
   cases y:P.underlying w with
   | none=>simp_all
   | some x =>
    simp only [y] at h;obtain⟨⟨q,rfl⟩,h⟩:=h;simp only [];cases F:zK P e with
    | none=>simp_all
    | some k=>cases D:QN P e with
     | none=>simp_all
     | some p=>cases G:kG P e with
      | none=>simp_all
      | some z=>cases C:zF S.boxes b with
       | none=>simp_all
       | some cs =>
        simp_all
def j2 (o:Option (TypeId × (List Sh × Bool) × V)) (k:(List Sh × Bool)->V->Prop):Prop:=match o with | some (_,a,z)=>k a z | none=>False
@[congr] theorem qCf {o o':Option (TypeId × (List Sh × Bool) × V)} {k:(List Sh × Bool)->V->Prop} (h:qh o=o'):j2 (qh o) k=j2 o' k:=by rw [<-h]
theorem qfc (z:V) (k:(List Sh × Bool)->V->Prop):j2 (some (t,ks,z)) k=k ks z:=zd rfl
def onM (o:Option ((List Sh × Bool) × List Ent × Nat)) (k:(List Sh × Bool)->List Ent->Nat->Prop):Prop:=match o with | some (d,es,a)=>k d es a | none=>False
@[congr] theorem qKp {o o':Option ((List Sh × Bool) × List Ent × Nat)} {k:(List Sh × Bool)->List Ent->Nat->Prop} (h:qh o=o'):onM (qh o) k=onM o' k:=by rw [<-h]
theorem qwe (es:List Ent) (cl:Nat) (k:(List Sh × Bool)->List Ent->Nat->Prop):onM (some (ks,es,cl)) k=k ks es cl:=zd rfl
def onI (o:Option (Nat × Nat × List Nat × Nat)) (k:Nat->Nat->List Nat->Nat->Prop):Prop:=match o with | some (a,b,c,d)=>k a b c d | none=>False
@[congr] theorem qKr {o o':Option (Nat × Nat × List Nat × Nat)} {k:Nat->Nat->List Nat->Nat->Prop} (h:qh o=o'):onI (qh o) k=onI o' k:=by rw [<-h]
theorem qwg (a:Nat) (c:List Nat) (d:Nat) (k:Nat->Nat->List Nat->Nat->Prop):onI (some (a,b,c,d)) k=k a b c d:=zd rfl
theorem qfe (v:V) (A:V->Prop) (B:Prop) (p:xp A) (q:xp B):vD (some v) A B p q=A v:=zd rfl
theorem qff (A:V->Prop) (B:Prop) (p:xp A) (q:xp B):vD none A B p q=B:=zd rfl
theorem qj0 (e:Ent) (A:Ent->Prop) (B:Prop) (p:xp A) (q:xp B):YF (some e) A B p q=A e:=zd rfl
theorem qj1 (A:Ent->Prop) (B:Prop) (p:xp A) (q:xp B):YF none A B p q=B:=zd rfl
section
variable {P:Program} {S:St} {d:Option Nat}
variable {t:TypeId} {K:St->Prop}
theorem qfs:jM P S d t none K=j2 (qh (jG P t)) fun ks _=>KU (qL S.boxes S.rows) (fun b=>K ((S.addB b (.m ks [] 0)).put d (.lit (.map (some b))))) .mk:=by
 simp only [qu];unfold jM j2 KU;cases jG P t with
 | none=>rfl
 | some x=>simp
theorem qw2 (t:TypeId) (x k:V) (ok:Bool) (K:V->Prop):Xj P S t x k ok K=j2 (qh (jG P t)) fun ks z=>qk (qh (Zo k)) fun d=>qK (qh (wd ks d=true)) (W5 S ks z d (qh x) ok K):=by
 simp only [qu];unfold Xj j2;cases jG P t with
 | none=>rfl
 | some y=>obtain⟨a,b,c⟩:=y;simp only [];cases Zo k <;> rfl
variable {ks:List Sh × Bool} {z x x':V} {a:Value}
@[congr] theorem qGw {ok:Bool} {K:V->Prop} (h:qh x=x'):W5 S ks z a (qh x) ok K=W5 S ks z a x' ok K:=by rw [<-h]
variable {b:Nat}
theorem qq6 (K:V->Prop):W5 S ks z a (.lit (.map (some b))) true K=onM (qh (wq S.boxes b)) fun d es _=>qK (qh (d=ks)) (vD (findM es a) (fun v=>K (.tup [v,.lit (.bool true)])) (K (.tup [z,.lit (.bool false)])) .mk .mk):=by
 rfl
theorem qkh (K:V->Prop):W5 S ks z a (.lit (.map (some b))) false K=onM (qh (wq S.boxes b)) fun d es _=>qK (qh (d=ks)) (vD (findM es a) (fun v=>K v) (K z) .mk .mk):=by
 rfl
theorem qE5 (k:V) :qc9 P S d t x k K=j2 (qh (jG P t)) fun ks _=>qk (qh (Zo k)) fun a=>qK (qh (wd ks a=true)) (qly S d ks a (qh x) K):=by
 simp only [qu];unfold qc9 j2;cases jG P t with
 | none=>rfl
 | some p=>obtain⟨_,ks,_⟩:=p;cases h:Zo k <;> simp [qk,qK]
@[congr] theorem qJr (h:qh x=x'):qly S d ks a (qh x) K=qly S d ks a x' K:=by rw [<-h]
theorem qy2:qly S d ks a (.lit (.map (some b))) K=onM (qh (wq S.boxes b)) fun e es cl=>qK (qh (e=ks)) (K ((S.setBoxes (VL.setX S.boxes b (.m ks (Z8 a es) cl))).put d (.lit (.tuple #[])))):=by
 rfl
theorem qBg (k v:V) :J5 P S d t x k v K=j2 (qh (jG P t)) fun ks _=>qk (qh (Zo k)) fun e=>qK (qh (wd ks e=true)) (qiq S d ks e (qh x) (qh v) K):=by
 simp only [qu];unfold J5 j2;cases jG P t with
 | none=>rfl
 | some y=>obtain⟨a,b,c⟩:=y;simp only [];cases Zo k <;> rfl
@[congr] theorem qHx {v e:V} (h:qh x=x') (j:qh v=e):qiq S d ks a (qh x) (qh v) K=qiq S d ks a x' e K:=by simp_all
theorem qux (v:V) :qiq S d ks a (.lit (.map (some b))) v K=onM (qh (wq S.boxes b)) fun e es cl=>qK (qh (e=ks))
  (vD (findM es a) (fun _=>K ((S.setBoxes (setX S.boxes b (.m ks (Z2 a v es) cl))).put d .any)) (K ((S.setBoxes (setX S.boxes b (.m ks (es++[(cl,a,v)]) (cl+1)))).put d .any)) .mk .mk):=by
 rfl
theorem qwu (k:V) :Kq P S d t x k K=j2 (qh (jG P t)) fun ks z=>qk (qh (Zo k)) fun e=>qK (qh (wd ks e=true)) (YL S d ks z e (qh x) K):=by
 simp only [qu];unfold Kq j2;cases jG P t with
 | none=>rfl
 | some y=>obtain⟨a,b,c⟩:=y;simp only [];cases Zo k <;> rfl
@[congr] theorem qGv (h:qh x=x'):YL S d ks z a (qh x) K=YL S d ks z a x' K:=by rw [<-h]
theorem qq2:YL S d ks z a (.lit (.map (some b))) K=onM (qh (wq S.boxes b)) fun h es cl=>qK (qh (h=ks))
  (YF (QW es a) (fun e=>K (S.put d (.tup [e.2.2,.lit (.int .i64 e.1)]))) (K ((S.setBoxes (setX S.boxes b (.m ks (es++[(cl,a,z)]) (cl+1)))).put d (.tup [z,.lit (.int .i64 cl)]))) .mk .mk):=by
 rfl
@[congr] theorem qJo {s a v e:V} (h:qh x=x') (j:qh s=a) (k:qh v=e):Uo S d (qh x) (qh s) (qh v) K=Uo S d x' a e K:=by simp_all
theorem qyj (n:Int) (v:V) :Uo S d (.lit (.map (some b))) (.lit (.int .i64 n)) v K=onM (qh (wq S.boxes b)) fun ks es cl=>(∃ e ∈ es,(e.1:Int)=n)/\K ((S.setBoxes (setX S.boxes b (.m ks (jF n.toNat v es) cl))).put d .any):=by
 rfl
def qfr (u:TypeDesc) (A:Prop) (_:xp A):Prop:=match u with | .map _ _=>A | _=>False
theorem qq3 (k e:TypeId) (A:Prop) (p:xp A):qfr (.map k e) A p=A:=zd rfl
theorem qzp (P:Program) (op:BinOp) (q:Option Nat) (K:V->Prop):binK P op t (.lit (.map q)) (.lit (.map none)) K=qk (qh (P.underlying t)) fun u=>qfr u (qk (qh (qt8 op q.isNone)) fun v=>K (.lit (.bool v))) .mk:=by
 show qIw P op t q.isNone K=_;simp only [qu];unfold qIw qk qfr;cases P.underlying t with
 | none=>simp
 | some u =>
  cases h:qt8 op q.isNone with
  | none=>cases u <;> simp [qu]
  | some v=>cases u <;> simp [qu]
def Yu (S:St) (d:Option Nat) (x:V) (K:St->Prop):Prop :=
 match x with
 | .lit (.map (some b))=>match wq S.boxes b with
  | some (_,_,e)=>∀ a,a ∉ qL S.boxes S.rows->K ((S.addB a (.it b e [] e)).put d (.lit (.pointer (some ⟨a,0,none⟩))))
  | none=>False
 | _=>False
@[congr] theorem qB8 (h:qh x=x'):Yu S d (qh x) K=Yu S d x' K:=by rw [<-h]
theorem qqa:Qm P S d t x K=qk (qh (P.underlying t)) fun u=>qfr u (Yu S d (qh x) K) .mk:=by
 simp only [qu];unfold Qm qk qfr Yu;cases P.underlying t with
 | none=>rfl
 | some u =>
   cases u <;> (first | rfl | skip)
   case map k e=>cases x with
    | lit y=>cases y with
     | map b=>cases b <;> rfl
     | _=>rfl
    | _=>rfl
theorem qjo:Yu S d (.lit (.map (some b))) K=onM (qh (wq S.boxes b)) fun _ _ cl=>KU (qL S.boxes S.rows) (fun a=>K ((S.addB a (.it b cl [] cl)).put d (.lit (.pointer (some ⟨a,0,none⟩))))) .mk:=by
 rfl
def qMe (es:List Ent) (seen:List Nat) (A:Prop) (B:Ent->Prop) (_:xp A) (_:xp B):Prop:=(Ks es seen=[]->A)/\∀ e,e ∈ Ks es seen->es.find? (fun x=>x.1 == e.1)=some e->B e
@[congr] theorem qGu (h:qh x=x'):Xi S d (qh x) K=Xi S d x' K:=by rw [<-h]
theorem qwq (a:Nat) :Xi S d (.lit (.pointer (some ⟨a,0,none⟩))) K=onI (qh (Zr S.boxes a)) fun h since seen last=>onM (qh (wq S.boxes h)) fun _ es cl=>qK (qh (since=cl/\last=cl))
  (qMe es seen (K (S.put d (.tup [.lit (.bool false)]))) (fun e=>K ((S.setBoxes (setX S.boxes a (.it h since (seen++[e.1]) cl))).put d (.tup [.lit (.bool true),KY e.2.1,e.2.2]))) .mk .mk):=by
 rfl
@[congr] theorem qEv {K:V->Prop} (h:qh x=x'):vN S (qh x) K=vN S x' K:=by rw [<-h]
theorem qsg (d:Nat) (K:V->Prop):vN S (.lit (.pointer (some ⟨d,0,none⟩))) K=onI (qh (Zr S.boxes d)) fun h _ seen last=>qk (qh seen.getLast?) fun k=>onM (qh (wq S.boxes h)) fun _ es cl =>
  qk (qh (es.find? fun x=>x.1 == k)) fun e=>qK (qh (cl=last)) (K (.tup [KY e.2.1,e.2.2])):=by
 simp only [qu];simp only [vN];unfold onI onM qk;cases Zr S.boxes d with
 | none=>rfl
 | some y =>
  obtain⟨a,b,c,e⟩:=y;simp only [];cases c.getLast? with
  | none=>rfl
  | some j =>
   simp only [];cases wq S.boxes a with
   | none=>rfl
   | some y =>
    obtain⟨p,q,r⟩:=y;simp only [];cases List.find? (fun x=>x.1 == j) q <;> rfl
end
variable {b:Nat}
theorem qry (ks:List Sh × Bool) (es:List Ent) (cl:Nat) (r:Bx):wq ((b,.m ks es cl)::r) b=some (ks,es,cl):=by simp [wq]
variable {a:Nat} {x:B}
theorem qld (r:Bx) (h:a ≠ b):wq ((b,x)::r) a=wq r a:=by cases x <;> simp [wq,h]
theorem qrz (s l:Nat) (c:List Nat) (r:Bx):Zr ((b,.it a s c l)::r) b=some (a,s,c,l):=by simp [Zr]
theorem qlf (r:Bx) (h:a ≠ b):Zr ((b,x)::r) a=Zr r a:=by cases x <;> simp [Zr,h]
theorem qpx (y:B) (r:Bx):setX ((b,x)::r) b y=(b,y)::r:=by simp [setX]
theorem qjf (y:B) (r:Bx) (h:a ≠ b):setX ((b,x)::r) a y=(b,x)::setX r a y:=by simp [setX,h]
theorem qus (xs:List Value):KY (.agg xs.toArray)=.agg (xs.map .lit):=by rfl
theorem qur (s:ByteArray):KY (.string s)=.lit (.string s):=zd rfl
theorem qxd (v:Value):Zo (.lit v)=some v:=zd rfl
theorem qxe (vs:List V):Zo (.agg vs)=(vals vs).map fun l=>.agg l.toArray:=zd rfl
theorem qxh (ks:List Sh) (xs:List Value):wd (ks,true) (.agg xs.toArray)=xk ks xs:=by simp [wd,Value.cells]
theorem qxf (s:ByteArray):wd ([.s],false) (.string s)=true:=by rfl
theorem qxg (k:IntKind) (n:Int):wd ([.i k],false) (.int k n)=true:=by simp [wd,Value.cells,xk,fit]
theorem qFr (S:St) :(S.addB b x).σ=S.σ:=zd rfl
theorem qmu (S:St) :(S.addB b x).boxes=(b,x)::S.boxes:=zd rfl
theorem qt2 (S:St) :(S.addB b x).rows=S.rows:=zd rfl
inductive Dr where
 | f
 | t
 | g (hc:Option Bool)
def qNq:Dr->Bx->Bx
 | .f,bx=>bx
 | _,_=>[]
inductive It where
 | code (c:Code)
 | blk (id:Nat)
 | sc
 | ops (dr:Dr) (ops:Array Oper) (l:List Oper)
 | stop (K:St->Prop)
def zM (C:Ctx):List It->(Exit->St->Prop)->Exit->St->Prop
 | [],Q=>Q
 | .code c::k,Q=>kw (fun S=>ue C c S (zM C k Q)) (zM C k Q)
 | .blk id::k,Q=>XM id (zM C k Q)
 | .sc::k,Q=>qdj (zM C k Q)
 | .ops .f ops l::k,Q=>kw (fun S=>Xb C.P ops (zM C k Q .normal) l S) (zM C k Q)
 | .ops .t ops l::k,Q=>kw (fun S=>XG C.P ops (fun S'=>Xb C.P ops (zM C k Q .normal) (l.drop (Ue l)) S') (l.take (Ue l)) S) (zM C k Q)
 | .ops (.g hc) ops l::k,Q=>kw (fun S=>Z5 C.P hc ops (zM C k Q .normal) l S) (zM C k Q)
 | .stop K::k,Q=>kw K (zM C k Q)
def EX (C:Ctx) (k:List It) (S:St) (Q:Exit->St->Prop):Prop:=zM C k Q .normal S
def XI (C:Ctx) (k:List It) (e:Exit) (S:St) (Q:Exit->St->Prop):Prop:=zM C k Q e S
def xJ (C:Ctx) (dr:Dr) (ops:Array Oper) (o:Oper) (l:List Oper) (k:List It) (S:St) (Q:Exit->St->Prop):Prop :=
 match dr with
 | .f=>aOp C.P S o fun a=>EX C (.ops .f ops l::k) a Q
 | .t=>detG C.P S o fun v=>EX C (.ops .t ops l::k) (S.put o.dst v) Q
 | .g hc=>detG C.P S o fun v=>EX C (.ops (.g hc) ops l::k) (S.put o.dst v) Q
section
variable {C:Ctx} {k:List It} {S:St} {Q:Exit->St->Prop}
theorem qKk:EX C [] S Q=Q .normal S:=zd rfl
theorem zu (x y:Code):EX C (.code (.seq x y)::k) S Q=EX C (.code x::.code y::k) S Q:=zd rfl
theorem qdz:EX C (.code .skip::k) S Q=EX C k S Q:=zd rfl
variable {id:Nat}
theorem qAz (c:Code):EX C (.code (.block id c)::k) S Q=EX C (.code c::.blk id::k) S Q:=zd rfl
theorem qKl:EX C (.blk id::k) S Q=EX C k S Q:=zd rfl
variable {K:St->Prop}
theorem qF6:EX C (.stop K::k) S Q=K S:=zd rfl
variable {i:Nat}
theorem qF8:EX C (.code (.exit i)::k) S Q=XI C k (.exit i) S Q:=zd rfl
theorem jC:∀ (k:List It) (S:St),zM C k Q .ret S=Q .ret S
 | [],_=>rfl
 | .code _::k,S=>jC k S
 | .blk _::k,S=>jC k S
 | .sc::k,S=>jC k S
 | .ops .f _ _::k,S=>jC k S
 | .ops .t _ _::k,S=>jC k S
 | .ops (.g _) _ _::k,S=>jC k S
 | .stop _::k,S=>jC k S
theorem qKj:EX C (.code .ret::k) S Q=Q .ret S:=jC k S
theorem qd1 (c:Operand) (x y:Code):EX C (.code (.cond c x y)::k) S Q=uE (ev S.σ c) (EX C (.code x::k) S Q) (EX C (.code y::k) S Q) .mk .mk:=by
 simp only [EX,zM,kw,ue,uE];rfl
theorem wh (l:List Oper):EX C (.code (.region id l.toArray false)::k) S Q=EX C (.ops .f l.toArray l::k) S Q:=zd rfl
def Xv (m:Nat) (A B a X D:Prop) (_:xp A) (_:xp B) (_:xp a) (_:xp X) (_:xp D):Prop:=match m with | 0=>A | 1=>B | 2=>a | 4=>X | _=>D
variable {A X D:Prop}
theorem qwd (B e:Prop) (a:xp A) (b:xp B) (h:xp e) (x:xp X) (d:xp D):Xv 0 A B e X D a b h x d=A:=zd rfl
theorem qwc (B e:Prop) (a:xp A) (b:xp B) (h:xp e) (x:xp X) (d:xp D):Xv 1 A B e X D a b h x d=B:=zd rfl
theorem qwb (B e:Prop) (a:xp A) (b:xp B) (h:xp e) (x:xp X) (d:xp D):Xv 2 A B e X D a b h x d=e:=zd rfl
theorem qwa (B e:Prop) (a:xp A) (b:xp B) (h:xp e) (x:xp X) (d:xp D):Xv 3 A B e X D a b h x d=D:=zd rfl
theorem qv9 (B e:Prop) (a:xp A) (b:xp B) (h:xp e) (x:xp X) (d:xp D):Xv 4 A B e X D a b h x d=X:=zd rfl
theorem qka (j:Nat):Zl [] j=0:=zd rfl
theorem qfp (m j:Nat) (r:List (Nat × Nat)):Zl ((i,m)::r) j=if i=j then m else Zl r j:=zd rfl
theorem qF9 (l:List Oper):EX C (.code (.region id l.toArray true)::k) S Q=Xv (Zl C.M id) (EX C (.ops .t l.toArray l::k) S Q) (EX C (.ops (.g none) l.toArray l::k) S Q) (EX C (.ops (.g (some false)) l.toArray l::k) S Q) (EX C (.ops (.g (some true)) l.toArray l::k) S Q) (xo C (.region id l.toArray true) S (zM C k Q)) .mk .mk .mk .mk .mk:=by
 simp only [EX,zM,kw,ue,Xv]
 match Zl C.M id with
 | 0 | 1 | 2 | 3 | 4=>rfl
 | n+5=>rfl
theorem qd0 (g:Operand) (ps:Array Tmp) (a b:Code):EX C (.code (.rangeFunc g ps a b)::k) S Q=xo C (.rangeFunc g ps a b) S (zM C k Q):=zd rfl
theorem qic (c:Code):EX C (.code (.loop c)::k) S Q=xo C (.loop c) S (zM C k Q):=zd rfl
theorem qFv (c:Code) :XI C (.code c::k) (.exit i) S Q=XI C k (.exit i) S Q:=zd rfl
theorem qFt:XI C (.stop K::k) (.exit i) S Q=XI C k (.exit i) S Q:=zd rfl
theorem qFu:XI C (.blk i::k) (.exit i) S Q=EX C k S Q:=by simp [XI,zM,XM,EX]
theorem qAd (j:Nat) (h:i ≠ j):XI C (.blk j::k) (.exit i) S Q=XI C k (.exit i) S Q:=by simp [XI,zM,XM,h]
def Ws (ops:Array Oper) (σ:Nat->V) (g:Nat):V:=match (ops[g]?).bind (·.dst) with | some d=>σ d | none=>.any
variable {ops:Array Oper} {l:List Oper} {d:Option Nat} {op:Op} {ty:TypeId} {pos:String} {af:Array Edge}
theorem qJ (dr:Dr):EX C (.ops dr ops []::k) S Q=EX C k S Q:=zd (by cases dr <;> rfl)
theorem zx:EX C (.ops .f ops (⟨d,op,ty,pos,af,none⟩::l)::k) S Q=xJ C .f ops ⟨d,op,ty,pos,af,none⟩ l k S Q:=zd rfl
theorem WL (g:Nat) (w:Bool) (A B:Prop):(match xM ops S.σ ⟨d,op,ty,pos,af,some (g,w)⟩ with | some true=>A | some false=>B | none=>False)=kU (Ws ops S.σ g) w A B .mk .mk:=by
 unfold xM kU Ws;simp only [];cases (ops[g]?).bind (·.dst) with
 | none=>rfl
 | some t =>
  simp only [];cases S.σ t with
  | lit x=>simp only [];cases isB x w <;> rfl
  | _=>rfl
theorem qAx (g:Nat) (w:Bool):EX C (.ops .f ops (⟨d,op,ty,pos,af,some (g,w)⟩::l)::k) S Q =
  kU (Ws ops S.σ g) w (xJ C .f ops ⟨d,op,ty,pos,af,some (g,w)⟩ l k S Q) (EX C (.ops .f ops l::k) (S.put d QP) Q) .mk .mk:=by
 rw [<-WL (d:=d) (op:=op) (ty:=ty) (pos:=pos) (af:=af)];rfl
variable {o:Oper}
theorem qqf (h:kL o=true):Ue (o::l)=Ue l+1:=by simp [Ue,h]
theorem qqg (h:kL o=false):Ue (o::l)=0:=by simp [Ue,h]
theorem qow (h:kL o=true):EX C (.ops .t ops (o::l)::k) S Q =
  (match xM ops S.σ o with | some true=>xJ C .t ops o l k S Q | some false=>EX C (.ops .t ops l::k) (S.put o.dst QP) Q | none=>False):=by
 simp only [EX,zM,kw,qqf h,qL1,List.take_succ_cons,XG];rfl
theorem JQ (h:kL o=false):EX C (.ops .t ops (o::l)::k) S Q=EX C (.ops .f ops (o::l)::k) S Q:=by
 simp only [EX,zM,kw,qqg h,qNk,List.take_zero,XG]
theorem qbn (h:kL ⟨d,op,ty,pos,af,none⟩=true):EX C (.ops .t ops (⟨d,op,ty,pos,af,none⟩::l)::k) S Q=xJ C .t ops ⟨d,op,ty,pos,af,none⟩ l k S Q:=qow h
theorem quc (g:Nat) (w:Bool) (h:kL ⟨d,op,ty,pos,af,some (g,w)⟩=true):EX C (.ops .t ops (⟨d,op,ty,pos,af,some (g,w)⟩::l)::k) S Q =
  kU (Ws ops S.σ g) w (xJ C .t ops ⟨d,op,ty,pos,af,some (g,w)⟩ l k S Q) (EX C (.ops .t ops l::k) (S.put d QP) Q) .mk .mk:=by
 rw [qow h,<-WL (d:=d) (op:=op) (ty:=ty) (pos:=pos) (af:=af)]
variable {gd:Option (Nat × Bool)} (dr:Dr)
variable {x:Operand}
theorem QH:xJ C dr ops ⟨d,.move x,ty,pos,af,gd⟩ l k S Q=Xh (qh (ev S.σ x)) fun v=>EX C (.ops dr ops l::k) (S.put d v) Q:=zd (by cases dr <;> rfl)
theorem zA:xJ C dr ops ⟨d,.assign x,ty,pos,af,gd⟩ l k S Q=Xh (qh (ev S.σ x)) fun v=>EX C (.ops dr ops l::k) (S.put d v) Q:=zd (by cases dr <;> rfl)
variable {y:Operand}
theorem qFy (c:Operand):xJ C dr ops ⟨d,.pick c x y,ty,pos,af,gd⟩ l k S Q=uE (ev S.σ c) (EX C (.ops dr ops l::k) (S.put d (ev S.σ x)) Q) (EX C (.ops dr ops l::k) (S.put d (ev S.σ y)) Q) .mk .mk:=by
 have:∀ K:V->Prop,(match ev S.σ c with | .lit (.bool t)=>K (if t=true then ev S.σ x else ev S.σ y) | _=>False)=uE (ev S.σ c) (K (ev S.σ x)) (K (ev S.σ y)) .mk .mk:=fun K=>by
  unfold uE;cases ev S.σ c with
  | lit z=>cases z with
   | bool b=>cases b <;> rfl
   | _=>rfl
  | _=>rfl
 cases dr with
 | f=>exact this fun v=>EX C (.ops .f ops l::k) (S.put d v) Q
 | t=>exact this fun v=>EX C (.ops .t ops l::k) (S.put d v) Q
 | g a=>exact this fun v=>EX C (.ops (.g a) ops l::k) (S.put d v) Q
variable {t:TypeId}
theorem qdt:xJ C dr ops ⟨d,.load t x,ty,pos,af,gd⟩ l k S Q=atP S (qh (ev S.σ x)) fun cs=>loadK C.P t cs fun v=>EX C (.ops dr ops l::k) (S.put d v) Q:=zd (by cases dr <;> rfl)
theorem QI (s:TypeId) (f:Nat):xJ C dr ops ⟨d,.fieldAddr s x f,ty,pos,af,gd⟩ l k S Q=fieldAddrK C.P (qNq dr S.boxes) s f (qh (ev S.σ x)) fun v=>EX C (.ops dr ops l::k) (S.put d v) Q:=zd (by cases dr <;> rfl)
theorem qh6 (s:TypeId) (f:Nat):xJ C dr ops ⟨d,.field s x f,ty,pos,af,gd⟩ l k S Q=fieldK C.P s f (qh (ev S.σ x)) fun v=>EX C (.ops dr ops l::k) (S.put d v) Q:=zd (by cases dr <;> rfl)
theorem qdu (i:Operand):xJ C dr ops ⟨d,.indexAddr t x i,ty,pos,af,gd⟩ l k S Q=idxAddrK C.P t (qh (ev S.σ x)) (qh (ev S.σ i)) fun v=>EX C (.ops dr ops l::k) (S.put d v) Q:=zd (by cases dr <;> rfl)
theorem qAg (i:Operand):xJ C dr ops ⟨d,.index t x i,ty,pos,af,gd⟩ l k S Q=idxK C.P t (qh (ev S.σ x)) (qh (ev S.σ i)) fun v=>EX C (.ops dr ops l::k) (S.put d v) Q:=zd (by cases dr <;> rfl)
theorem ZG (b:BinOp) (t a:TypeId) (x y:Operand):xJ C dr ops ⟨d,.binOp b t x y a,ty,pos,af,gd⟩ l k S Q=binK C.P b t (qh (ev S.σ x)) (qh (ev S.σ y)) fun v=>EX C (.ops dr ops l::k) (S.put d v) Q:=zd (by cases dr <;> rfl)
theorem qFw (b:UnOp) :xJ C dr ops ⟨d,.unOp b t x,ty,pos,af,gd⟩ l k S Q=unK b (qh (ev S.σ x)) fun v=>EX C (.ops dr ops l::k) (S.put d v) Q:=zd (by cases dr <;> rfl)
theorem VJ (s t:TypeId) (x:Operand):xJ C .f ops ⟨d,.convert s t x,ty,pos,af,gd⟩ l k S Q=Zw C.P S s t (qh (ev S.σ x)) fun v=>EX C (.ops .f ops l::k) (S.put d v) Q:=zd rfl
theorem XQ:xJ C dr ops ⟨d,.extract x i,ty,pos,af,gd⟩ l k S Q=U9 (qh (ev S.σ x)) fun vs=>qk (qh (vs[i]?)) fun v=>EX C (.ops dr ops l::k) (S.put d v) Q:=by
 have:∀ K:V->Prop,(match ev S.σ x with | .tup vs=>(match vs[i]? with | some v=>K v | none=>False) | _=>False)=U9 (ev S.σ x) fun vs=>qk (vs[i]?) K:=fun K=>by
  unfold U9 qk;cases ev S.σ x with
  | tup vs=>simp only [];cases vs[i]? <;> rfl
  | _=>rfl
 cases dr with
 | f=>exact this fun v=>EX C (.ops .f ops l::k) (S.put d v) Q
 | t=>exact this fun v=>EX C (.ops .t ops l::k) (S.put d v) Q
 | g a=>exact this fun v=>EX C (.ops (.g a) ops l::k) (S.put d v) Q
theorem qAe (e a h:Option Operand):xJ C dr ops ⟨d,.slice t x e a h,ty,pos,af,gd⟩ l k S Q =
  sliceK C.P t (qh (ev S.σ x)) (qh (e.map (ev S.σ))) (qh (a.map (ev S.σ))) (qh (h.map (ev S.σ))) fun v=>EX C (.ops dr ops l::k) (S.put d v) Q:=zd (by cases dr <;> rfl)
variable {ps:List (Nat × Operand)}
theorem qAl:xJ C dr ops ⟨d,.build t ps.toArray,ty,pos,af,gd⟩ l k S Q =
  qK (qh (yo C.P t=true)) (buildK C.P t (qh (ps.map fun p=>(p.1,ev S.σ p.2))) fun v=>EX C (.ops dr ops l::k) (S.put d v) Q):=zd (by cases dr <;> rfl)
theorem qKa:xJ C dr ops ⟨d,.nilCheck x,ty,pos,af,gd⟩ l k S Q=nilK (qh (ev S.σ x)) fun v=>EX C (.ops dr ops l::k) (S.put d v) Q:=zd (by cases dr <;> rfl)
theorem qKd:xJ C .f ops ⟨d,.call ⟨.builtin .len,#[x],#[t]⟩,ty,pos,af,gd⟩ l k S Q=Uk C.P S t (qh (ev S.σ x)) fun v=>EX C (.ops .f ops l::k) (S.put d v) Q:=zd rfl
theorem qFx:xJ C .t ops ⟨d,.call ⟨.builtin .len,#[x],#[t]⟩,ty,pos,af,gd⟩ l k S Q=lenK C.P t (qh (ev S.σ x)) fun v=>EX C (.ops .t ops l::k) (S.put d v) Q:=zd rfl
def Ui (e:Bool) (x y:V) (k:V->Prop):Prop:=wb x fun d a=>wb y fun _ b=>k (.lit (.int d (if e then (if b > a then b else a) else (if b < a then b else a))))
@[congr] theorem qIv {a:Bool} {x x' y d:V} {k:V->Prop} (h:qh x=x') (e:qh y=d):Ui a (qh x) (qh y) k=Ui a x' d k:=by simp_all
theorem qww (d e:IntKind) (a b:Int) (k:V->Prop):Ui true (.lit (.int d a)) (.lit (.int e b)) k=k (.lit (.int d (if b > a then b else a))):=zd rfl
theorem qwv (d e:IntKind) (a b:Int) (k:V->Prop):Ui false (.lit (.int d a)) (.lit (.int e b)) k=k (.lit (.int d (if b < a then b else a))):=zd rfl
theorem qKc (h:Array TypeId):xJ C dr ops ⟨d,.call ⟨.builtin .max,#[x,y],h⟩,ty,pos,af,gd⟩ l k S Q=Ui true (qh (ev S.σ x)) (qh (ev S.σ y)) fun v=>EX C (.ops dr ops l::k) (S.put d v) Q:=by
 have:∀ K:V->Prop,(match [ev S.σ x,ev S.σ y] with | [.lit (.int kk x),.lit (.int _ y)]=>K (.lit (.int kk (if y > x then y else x))) | _=>False)=Ui true (ev S.σ x) (ev S.σ y) K:=fun K=>by
  unfold Ui wb;cases ev S.σ x with
  | lit a=>cases a <;> (first | rfl | (cases ev S.σ y with | lit b=>cases b <;> rfl | _=>rfl))
  | _=>rfl
 cases dr with
 | f=>exact this fun v=>EX C (.ops .f ops l::k) (S.put d v) Q
 | t=>exact this fun v=>EX C (.ops .t ops l::k) (S.put d v) Q
 | g e=>exact this fun v=>EX C (.ops (.g e) ops l::k) (S.put d v) Q
theorem qKb (h:Array TypeId):xJ C dr ops ⟨d,.call ⟨.builtin .min,#[x,y],h⟩,ty,pos,af,gd⟩ l k S Q=Ui false (qh (ev S.σ x)) (qh (ev S.σ y)) fun v=>EX C (.ops dr ops l::k) (S.put d v) Q:=by
 have:∀ K:V->Prop,(match [ev S.σ x,ev S.σ y] with | [.lit (.int kk x),.lit (.int _ y)]=>K (.lit (.int kk (if y < x then y else x))) | _=>False)=Ui false (ev S.σ x) (ev S.σ y) K:=fun K=>by
  unfold Ui wb;cases ev S.σ x with
  | lit a=>cases a <;> (first | rfl | (cases ev S.σ y with | lit b=>cases b <;> rfl | _=>rfl))
  | _=>rfl
 cases dr with
 | f=>exact this fun v=>EX C (.ops .f ops l::k) (S.put d v) Q
 | t=>exact this fun v=>EX C (.ops .t ops l::k) (S.put d v) Q
 | g e=>exact this fun v=>EX C (.ops (.g e) ops l::k) (S.put d v) Q
variable {e:Array TypeId} {a:List Operand} {f:Operand}
theorem qF1:xJ C .f ops ⟨d,.call ⟨.value f,a.toArray,e⟩,ty,pos,af,gd⟩ l k S Q=yE C.P S d (qh (ev S.σ f)) (qh (a.map (ev S.σ))) fun S'=>EX C (.ops .f ops l::k) S' Q:=zd rfl
variable {hc:Option Bool}
theorem qAh:xJ C (.g hc) ops ⟨d,.call ⟨.value f,a.toArray,e⟩,ty,pos,af,gd⟩ l k S Q=callK C.P (qh (ev S.σ f)) (qh (a.map (ev S.σ))) fun v=>EX C (.ops (.g hc) ops l::k) (S.put d v) Q:=zd rfl
theorem qAj:xJ C .t ops ⟨d,.call ⟨.value f,a.toArray,e⟩,ty,pos,af,gd⟩ l k S Q=callK C.P (qh (ev S.σ f)) (qh (a.map (ev S.σ))) fun v=>EX C (.ops .t ops l::k) (S.put d v) Q:=zd rfl
theorem qo2:Xd []=some []:=zd rfl
theorem qo3 (vs r:List V):Xd (.agg vs::r)=((vals vs).map fun l=>Value.agg l.toArray).bind fun x=>(Xd r).map (x::·):=zd rfl
def qgd (fn:Fn) (a b:List V) (k:V->Prop):Prop:=Ky fn a b k
def qqq (o:Option (List Value)) (m:List Value) (fn:Fn) (a:List V) (k:V->Prop):Prop:=match o with
 | some l=>k (.lit (.func fn l.toArray m.toArray))
 | none=>(match m with | []=>(match fn with | .func g=>k (.fn g a) | _=>False) | _=>False)
variable {fn:Fn}
@[congr] theorem qIo {o o':Option (List Value)} {m:List Value} {a:List V} {k:V->Prop} (h:qh o=o'):qqq (qh o) m fn a k=qqq o' m fn a k:=by rw [<-h]
theorem qqo (l m:List Value) (a:List V) (k:V->Prop):qqq (some l) m fn a k=k (.lit (.func fn l.toArray m.toArray)):=zd rfl
variable {g:FuncId}
theorem qqp (a:List V) (k:V->Prop):qqq none [] (.func g) a k=k (.fn g a):=zd rfl
theorem qx1 (a b:List V) (k:V->Prop):qgd fn a b k=qk (qh (vals b)) fun m=>qqq (qh (Xd a)) m fn a k:=by
 simp only [qgd,Ky,qqq,qk,qu];cases h:Xd a with
 | some l=>cases d:vals b <;> rfl
 | none=>cases d:vals b with
  | none=>rfl
  | some m=>cases m <;> rfl
theorem qh5 (b:List Operand):xJ C dr ops ⟨d,.makeFunc fn a.toArray b.toArray,ty,pos,af,gd⟩ l k S Q=qgd fn (qh (a.map (ev S.σ))) (qh (b.map (ev S.σ))) fun v=>EX C (.ops dr ops l::k) (S.put d v) Q:=zd (by cases dr <;> rfl)
theorem qAm:xJ C .f ops ⟨d,.alloc t,ty,pos,af,gd⟩ l k S Q=ja C.P S d t fun S'=>EX C (.ops .f ops l::k) S' Q:=zd rfl
theorem qKf:xJ C .f ops ⟨d,.box t x,ty,pos,af,gd⟩ l k S Q=ZB S d t (qh (ev S.σ x)) fun S'=>EX C (.ops .f ops l::k) S' Q:=zd rfl
theorem ua:xJ C .f ops ⟨d,.store t x y,ty,pos,af,gd⟩ l k S Q=wm C.P S d t (qh (ev S.σ x)) (qh (ev S.σ y)) fun S'=>EX C (.ops .f ops l::k) S' Q:=zd rfl
theorem UA (n:Nat) :xJ C .f ops ⟨d,.buildSlice t n ps.toArray,ty,pos,af,gd⟩ l k S Q=wL C.P S d t n (qh (ps.map fun p=>(p.1,ev S.σ p.2))) fun S'=>EX C (.ops .f ops l::k) S' Q:=zd rfl
theorem VI (t:TypeId) (n:Nat) (ps:List (Nat × Operand)):xJ C .t ops ⟨d,.buildSlice t n ps.toArray,ty,pos,af,gd⟩ l k S Q=buildSliceD C.P t n (qh (ps.map fun p=>(p.1,ev S.σ p.2))) fun v=>EX C (.ops .t ops l::k) (S.put d v) Q:=zd rfl
theorem qt6 (a:TypeId):xJ C .f ops ⟨d,.call ⟨.builtin .append,#[x,y],#[t,a]⟩,ty,pos,af,gd⟩ l k S Q=xw C.P S d t a (qh (ev S.σ x)) (qh (ev S.σ y)) fun S'=>EX C (.ops .f ops l::k) S' Q:=zd rfl
theorem qAk:xJ C .f ops ⟨d,.call ⟨.builtin .clear,#[x],#[t]⟩,ty,pos,af,gd⟩ l k S Q=QD C.P S d t (ev S.σ x) fun S'=>EX C (.ops .f ops l::k) S' Q:=zd rfl
theorem qt5 (a:TypeId):xJ C .f ops ⟨d,.call ⟨.builtin .delete,#[x,y],#[t,a]⟩,ty,pos,af,gd⟩ l k S Q=qc9 C.P S d t (ev S.σ x) (ev S.σ y) fun S'=>EX C (.ops .f ops l::k) S' Q:=zd rfl
theorem qF0 (a:TypeId):xJ C .f ops ⟨d,.call ⟨.builtin .copy,#[x,y],#[t,a]⟩,ty,pos,af,gd⟩ l k S Q=vQ C.P S d t a (ev S.σ x) (ev S.σ y) fun S'=>EX C (.ops .f ops l::k) S' Q:=zd rfl
theorem qds:xJ C .f ops ⟨d,.makeSlice t x y,ty,pos,af,gd⟩ l k S Q=xd C.P S d t (qh (ev S.σ x)) (qh (ev S.σ y)) fun S'=>EX C (.ops .f ops l::k) S' Q:=zd rfl
theorem qKe:xJ C dr ops ⟨d,.call ⟨.builtin .cap,#[x],#[t]⟩,ty,pos,af,gd⟩ l k S Q=capK C.P t (qh (ev S.σ x)) fun v=>EX C (.ops dr ops l::k) (S.put d v) Q:=zd (by cases dr <;> rfl)
theorem qua (a:Array Operand) :EX C (.ops .t ops (⟨d,.call ⟨.builtin .copy,a,e⟩,ty,pos,af,gd⟩::l)::k) S Q=EX C (.ops .f ops (⟨d,.call ⟨.builtin .copy,a,e⟩,ty,pos,af,gd⟩::l)::k) S Q:=JQ rfl
theorem qm0:EX C (.ops .t ops (⟨d,.store t x y,ty,pos,af,gd⟩::l)::k) S Q=EX C (.ops .f ops (⟨d,.store t x y,ty,pos,af,gd⟩::l)::k) S Q:=JQ rfl
theorem qid (a:Array Operand) :EX C (.ops .t ops (⟨d,.call ⟨.builtin .append,a,e⟩,ty,pos,af,gd⟩::l)::k) S Q=EX C (.ops .f ops (⟨d,.call ⟨.builtin .append,a,e⟩,ty,pos,af,gd⟩::l)::k) S Q:=JQ rfl
theorem qmv (r:Option Operand):xJ C .f ops ⟨d,.makeMap t r,ty,pos,af,gd⟩ l k S Q=jM C.P S d t (r.map (ev S.σ)) fun S'=>EX C (.ops .f ops l::k) S' Q:=zd rfl
theorem qt3 (ok:Bool):xJ C .f ops ⟨d,.lookup t x y ok,ty,pos,af,gd⟩ l k S Q=Xj C.P S t (ev S.σ x) (ev S.σ y) ok fun v=>EX C (.ops .f ops l::k) (S.put d v) Q:=zd rfl
theorem qdr (z:Operand):xJ C .f ops ⟨d,.mapUpdate t x y z,ty,pos,af,gd⟩ l k S Q=J5 C.P S d t (ev S.σ x) (ev S.σ y) (ev S.σ z) fun S'=>EX C (.ops .f ops l::k) S' Q:=zd rfl
theorem qt4 (z:Operand):xJ C .f ops ⟨d,.insert t x y z,ty,pos,af,gd⟩ l k S Q=J5 C.P S d t (ev S.σ x) (ev S.σ y) (ev S.σ z) fun S'=>EX C (.ops .f ops l::k) S' Q:=zd rfl
theorem qh4:xJ C .f ops ⟨d,.mapEntry t x y,ty,pos,af,gd⟩ l k S Q=Kq C.P S d t (ev S.σ x) (ev S.σ y) fun S'=>EX C (.ops .f ops l::k) S' Q:=zd rfl
theorem Uz (z:Operand):xJ C .f ops ⟨d,.entryStore t x y z,ty,pos,af,gd⟩ l k S Q=Uo S d (qh (ev S.σ x)) (qh (ev S.σ y)) (qh (ev S.σ z)) fun S'=>EX C (.ops .f ops l::k) S' Q:=zd rfl
theorem qAf:xJ C .f ops ⟨d,.range t x,ty,pos,af,gd⟩ l k S Q=Qm C.P S d t (ev S.σ x) fun S'=>EX C (.ops .f ops l::k) S' Q:=zd rfl
theorem qFz:xJ C .f ops ⟨d,.next x false,ty,pos,af,gd⟩ l k S Q=Xi S d (qh (ev S.σ x)) fun S'=>EX C (.ops .f ops l::k) S' Q:=zd rfl
theorem qAi:xJ C .f ops ⟨d,.entry x,ty,pos,af,gd⟩ l k S Q=vN S (qh (ev S.σ x)) fun v=>EX C (.ops .f ops l::k) (S.put d v) Q:=zd rfl
theorem VU (t:TypeId) (x y z:Operand):EX C (.ops .t ops (⟨d,.mapUpdate t x y z,ty,pos,af,gd⟩::l)::k) S Q=EX C (.ops .f ops (⟨d,.mapUpdate t x y z,ty,pos,af,gd⟩::l)::k) S Q:=JQ rfl
def qfl (hc:Option Bool) (op:Op):Bool:=match hc with
 | none=>true
 | some b=>match op with
  | .call c=>(match c.callee with | .value _=>false | _=>true)
  | .buildSlice _ _ _=>!b
  | _=>true
theorem qvf (h:kL ⟨d,op,ty,pos,af,gd⟩=true) (a:qfl hc op=true):yu hc ⟨d,op,ty,pos,af,gd⟩=true:=by
 unfold kL at h;unfold yu;unfold qfl at a;cases op <;> simp only [] at h a ⊢ <;> try omega
 case call c =>
  cases e:c.callee <;> simp only [e] at h a ⊢
  case builtin b=>cases b <;> exact h
  case value f=>cases hc <;> first | rfl | cases a
  omega
 case buildSlice t n ps =>
  cases hc with
  | none=>rfl
  | some b=>simp_all
theorem qAy (h:kL ⟨d,op,ty,pos,af,none⟩=true) (a:hc=none∨qfl hc op=true):EX C (.ops (.g hc) ops (⟨d,op,ty,pos,af,none⟩::l)::k) S Q=xJ C (.g hc) ops ⟨d,op,ty,pos,af,none⟩ l k S Q:=by
 have j:=qvf (gd:=none) h (a.elim (fun e=>by rw [e];rfl) id);simp only [EX,zM,kw,Z5,xi,xM,jB,j,if_true,xJ]
theorem qm2:EX C (.ops (.g hc) ops (⟨d,.alloc t,ty,pos,af,none⟩::l)::k) S Q=ja C.P S d t fun S'=>EX C (.ops (.g hc) ops l::k) S' Q:=by
 simp only [EX,zM,kw,Z5,xi,xM,jB,yu,wr,if_false,kA]
theorem qm1:EX C (.ops (.g hc) ops (⟨d,.store t x y,ty,pos,af,none⟩::l)::k) S Q=wm C.P S d t (qh (ev S.σ x)) (qh (ev S.σ y)) fun S'=>EX C (.ops (.g hc) ops l::k) S' Q:=by
 simp only [EX,zM,kw,Z5,xi,xM,jB,yu,wr,if_false,kA];rfl
theorem qie (a:TypeId):EX C (.ops (.g hc) ops (⟨d,.call ⟨.builtin .append,#[x,y],#[t,a]⟩,ty,pos,af,none⟩::l)::k) S Q=qK (qh (a=t)) (zY C.P S d t (qh (ev S.σ x)) (qh (ev S.σ y)) fun S'=>EX C (.ops (.g hc) ops l::k) S' Q):=by
 simp only [EX,zM,kw,Z5,xi,xM,jB,yu,wr,if_false,kA];rfl
variable {P:Program}
@[congr] theorem qHf {S:St} {d:Option Nat} {f j:V} {a e:List V} (h:qh f=j) (k:qh a=e):Zy P S d (qh f) (qh a) K=Zy P S d j e K:=by simp_all
theorem qub:EX C (.ops (.g (some false)) ops (⟨d,.call ⟨.value f,a.toArray,e⟩,ty,pos,af,none⟩::l)::k) S Q=Zy C.P S d (qh (ev S.σ f)) (qh (a.map (ev S.σ))) fun S'=>EX C (.ops (.g (some false)) ops l::k) S' Q:=by
 simp only [EX,zM,kw,Z5,xi,xM,jB,yu,wr,if_false,kA,Option.isNone_some];rfl
@[congr] theorem qHe {S:St} {d:Option Nat} {f j:V} {a e:List V} (h:qh f=j) (k:qh a=e):Zx P S d (qh f) (qh a) K=Zx P S d j e K:=by simp_all
theorem qt9:EX C (.ops (.g (some true)) ops (⟨d,.call ⟨.value f,a.toArray,e⟩,ty,pos,af,none⟩::l)::k) S Q=Zx C.P S d (qh (ev S.σ f)) (qh (a.map (ev S.σ))) fun S'=>EX C (.ops (.g (some true)) ops l::k) S' Q:=by
 simp only [EX,zM,kw,Z5,xi,xM,jB,yu,wr,if_false,kA,Option.isNone_some];rfl
variable {cap:Array Value}
theorem ql7 (S:St) (d:Option Nat) (first:Array Value) (a:List V) :Zx P S d (.lit (.func (.func g) first cap)) a K =
  qK (qh (zg P g=true)) (OkF P g (first.toList.map .lit++a++cap.toList.map .lit) S.boxes (fun v e rs=>K (((S.setBoxes e).setRows (rs++S.rows)).put d v)) .mk):=zd rfl
theorem qTl (S:St) (d:Option Nat) (l:Nat) (first:Array Value) (a:List V) :Zx P S d (.lit (.func (.yield l) first cap)) a K =
  qMd P l (first.toList.map .lit++a) S.boxes (fun v e rs=>K (((S.setBoxes e).setRows (rs++S.rows)).put d v)) .mk:=zd rfl
theorem JF (n:Nat) :EX C (.ops (.g (some true)) ops (⟨d,.buildSlice t n ps.toArray,ty,pos,af,none⟩::l)::k) S Q=ze C.P S d t n (ps.map fun p=>(p.1,ev S.σ p.2)) fun S'=>EX C (.ops (.g (some true)) ops l::k) S' Q:=by
 simp only [EX,zM,kw,Z5,xi,xM,jB,yu,wr,if_false,kA]
def OkR (P:Program) (f:FuncId) (e:List V) (Q:V->List Row->Prop) (_:xp Q):Prop:=Ok P f e [] fun v a d=>a=[]/\Q v d
theorem ql8 (S:St) (d:Option Nat) (first:Array Value) (a:List V) :Zy P S d (.lit (.func (.func g) first cap)) a K =
  qK (qh (zg P g=true)) (OkR P g (first.toList.map .lit++a++cap.toList.map .lit) (fun v rs=>K ((S.setRows (rs++S.rows)).put d v)) .mk):=zd rfl
theorem jQ {d:List V} {Q:V->List Row->Prop} {p:xp Q} {Q0:V->Bx->List Row->Prop} (h:Ok P g d [] Q0) (e:∀ v a rs,Q0 v a rs->a=[]/\Q v rs):OkR P g d Q p :=
 Ok.mono h e
end
variable {d:Option Nat} {ty:TypeId} {pos:String} {af:Array Edge} {gd:Option (Nat × Bool)} {x:Operand}
theorem qpu:kL ⟨d,.move x,ty,pos,af,gd⟩=true:=zd rfl
theorem WQ:kL ⟨d,.assign x,ty,pos,af,gd⟩=true:=zd rfl
theorem qpt (c y:Operand):kL ⟨d,.pick c x y,ty,pos,af,gd⟩=true:=zd rfl
variable {t:TypeId}
theorem qpv:kL ⟨d,.load t x,ty,pos,af,gd⟩=true:=zd rfl
variable {i:Nat}
theorem Yl:kL ⟨d,.fieldAddr t x i,ty,pos,af,gd⟩=true:=zd rfl
theorem qi9:kL ⟨d,.field t x i,ty,pos,af,gd⟩=true:=zd rfl
theorem Yk (y:Operand):kL ⟨d,.indexAddr t x y,ty,pos,af,gd⟩=true:=zd rfl
theorem qjc (b:BinOp) (t2:TypeId) (y:Operand):kL ⟨d,.binOp b t x y t2,ty,pos,af,gd⟩=true:=zd rfl
theorem qps (b:UnOp) :kL ⟨d,.unOp b t x,ty,pos,af,gd⟩=true:=zd rfl
theorem qbz:kL ⟨d,.extract x i,ty,pos,af,gd⟩=true:=zd rfl
theorem qi8 (a b c:Option Operand):kL ⟨d,.slice t x a b c,ty,pos,af,gd⟩=true:=zd rfl
theorem qjb (ps:Array (Nat × Operand)):kL ⟨d,.build t ps,ty,pos,af,gd⟩=true:=zd rfl
theorem qvc:kL ⟨d,.nilCheck x,ty,pos,af,gd⟩=true:=zd rfl
theorem Jl (n:Nat) (ps:Array (Nat × Operand)):kL ⟨d,.buildSlice t n ps,ty,pos,af,gd⟩=true:=zd rfl
variable {a:Array Operand} {e:Array TypeId}
theorem qja (f:Operand) :kL ⟨d,.call ⟨.value f,a,e⟩,ty,pos,af,gd⟩=true:=zd rfl
theorem qve:kL ⟨d,.call ⟨.builtin .len,a,e⟩,ty,pos,af,gd⟩=true:=zd rfl
theorem qvd:kL ⟨d,.call ⟨.builtin .min,a,e⟩,ty,pos,af,gd⟩=true:=zd rfl
variable {S:St}
theorem kM (d:Nat) (v:V):(S.put (some d) v).σ d=v:=by simp [St.put,UI]
theorem vA (d:Nat) (v:V) (h:d ≠ i):(S.put (some d) v).σ i=S.σ i:=by simp [St.put,UI,h]
theorem wB (v:V):S.put none v=S:=zd rfl
theorem jx (v:V):(S.put d v).boxes=S.boxes:=zd rfl
theorem wz (v:V):(S.put d v).rows=S.rows:=zd rfl
variable {b:Nat} {cs:List V}
theorem yd:(S.addBox b cs).σ=S.σ:=zd rfl
theorem ky:(S.addBox b cs).boxes=(b,.c cs)::S.boxes:=zd rfl
theorem wO:(S.addBox b cs).rows=S.rows:=zd rfl
theorem qt1 (r:Row):(S.addRow r).σ=S.σ:=zd rfl
theorem qdn (r:Row):(S.addRow r).boxes=S.boxes:=zd rfl
theorem qh2 (r:Row):(S.addRow r).rows=r::S.rows:=zd rfl
theorem uk (S:St) (a:Bx):(S.setBoxes a).σ=S.σ:=zd rfl
theorem vv (a:Bx):(S.setBoxes a).boxes=a:=zd rfl
theorem jd (a:Bx):(S.setBoxes a).rows=S.rows:=zd rfl
variable {rs:List Row}
theorem Yn:(S.setRows rs).σ=S.σ:=zd rfl
theorem Xe:(S.setRows rs).boxes=S.boxes:=zd rfl
theorem wT:(S.setRows rs).rows=rs:=zd rfl
theorem qHq (args:List V) (a:Bx) :(S0 args a).σ i=args.getD i .any:=zd rfl
theorem ub (args:List V) (a:Bx):(S0 args a).boxes=a:=zd rfl
theorem QJ (args:List V) (a:Bx):(S0 args a).rows=[]:=zd rfl
variable {σ:Nat->V}
theorem kO (t:Tmp):ev σ (.tmp t)=σ t:=zd rfl
theorem xY (v:Value):ev σ (.const v)=.lit v:=zd rfl
theorem qsc (g:Nat):ev σ (.global g)=gvL qn5 g:=zd rfl
theorem qxv (a:Nat) (vs:List V) (r:List (Nat × List V)) (g:Nat):gvL ((a,vs)::r) g=if a=g then .ref vs else gvL r g:=zd rfl
theorem qxz:qn5=globsV:=zd rfl
theorem qEr (f:FuncId):ev σ (.func f)=.lit (.func (.func f) #[] #[]):=zd rfl
theorem qrv (ops:List Oper) (g:Nat):Ws ops.toArray σ g=match (ops[g]?).bind (·.dst) with | some d=>σ d | none=>.any:=by simp [Ws]
theorem jA (r:Bx):zF ((b,.c cs)::r) b=some cs:=by simp [zF]
theorem YX (b a:Nat) (x:B) (r:Bx) (h:a ≠ b):zF ((b,x)::r) a=zF r a:=by cases x <;> simp [zF,h]
theorem jZ (x:B) (ds:List V) (r:Bx):kZ ((b,x)::r) b ds=(b,.c ds)::r:=by simp [kZ]
theorem qjh (a:Nat) (x:B) (ds:List V) (r:Bx) (h:a ≠ b):kZ ((b,x)::r) a ds=(b,x)::kZ r a ds:=by simp [kZ,h]
variable {P:Program} {Q:V->Bx->List Row->Prop}
theorem Ok.of_exM (M:List (Nat × Nat)) {f:FuncId} {fn:Func} {c:Code} {args:List V} {a:Bx} (j:P.follows .mixedOrders=true) (d:P.funcs[f]? = some fn) (hb:fn.body=some c)
  (k:args.length<=fn.ntmps) (e:xH fn.ntmps M c=true) (h:∀ F w0 I0,EX { P:=P,N:=fn.ntmps,F:=F,w0:=w0,I0:=I0,M:=M } [.code c] (S0 args a) (qp6 P fn.results.toList Q)):Ok P f args a Q :=
 Ok.of_body M j d hb k e h
theorem Ok.of_ex {f:FuncId} {fn:Func} {c:Code} {args:List V} {a:Bx} (j:P.follows .mixedOrders=true) (d:P.funcs[f]? = some fn) (hb:fn.body=some c)
  (k:args.length<=fn.ntmps) (e:xH fn.ntmps [] c=true) (h:∀ F w0 I0,EX { P:=P,N:=fn.ntmps,F:=F,w0:=w0,I0:=I0,M:=[] } [.code c] (S0 args a) (qp6 P fn.results.toList Q)):Ok P f args a Q :=
 Ok.of_exM [] j d hb k e h
variable {k:List V->Prop}
theorem qvw:Ua P S [] k=k []:=zd rfl
theorem qvv (t:Tmp) (r:List ResultVar) :Ua P S (.tmp t::r) k=Ua P S r fun l=>k (S.σ t::l):=zd rfl
theorem qp8 (t:Tmp) (T:TypeId) (r:List ResultVar) :Ua P S (.cell t T::r) k=atP S (qh (S.σ t)) fun cs=>loadK P T cs fun v=>Ua P S r fun l=>k (v::l):=zd rfl
theorem qvu (rs:List ResultVar) :qp6 P rs Q .ret S=qjn P rs Q S:=zd rfl
theorem qe0 (rs:List ResultVar) :qp6 P rs Q .normal S=qjn P rs Q S:=zd rfl
section
variable {P:Program} {k k':V->Prop} (hk:∀ v,k v->k' v)
theorem qw {α:Type} {o:Option α} {k k':α->Prop} (hk:∀ v,k v->k' v):qk o k->qk o k':=by
 unfold qk;cases o <;> first | exact id | exact hk _
theorem vC {v:V} {k k':IntKind->Int->Prop} (hk:∀ a b,k a b->k' a b):wb v k->wb v k':=by
 unfold wb;intro h;split at h
 ·simp_all
 omega
theorem Qo {v:V} {k k':ByteArray->Prop} (hk:∀ a,k a->k' a):QR v k->QR v k':=by
 unfold QR;intro h;split at h
 ·simp_all
 omega
theorem YH {v:V} {k k':List V->Prop} (hk:∀ a,k a->k' a):Zi v k->Zi v k':=by
 unfold Zi;intro h;split at h
 ·simp_all
 omega
include hk
variable {cs:List V}
theorem W2:yO cs k->yO cs k':=by
 unfold yO;intro h;split at h
 ·simp_all
 omega
variable {n:Nat}
omit hk in
theorem qfd {v:V} {K K':List (List V)->Prop} (hK:∀ a,K a->K' a):onL v n K->onL v n K':=by
 unfold onL;intro h;split at h
 ·simp_all
 ·simp_all
 omega
omit hk in
theorem YE {v:V} {d e:List (List V)->Prop} {j k:Nat->Nat->Nat->Nat->Prop} (p:∀ a,d a->e a) (q:∀ b o l c,j b o l c->k b o l c):onS v n d j->onS v n e k:=by
 unfold onS;intro h;split at h
 ·simp_all
 ·exact qfd p h
omit hk in
theorem jj {x:Option V} {d:Nat} {K K':Nat->Prop} (hK:∀ a,K a->K' a):bnd x d K->bnd x d K':=by
 unfold bnd;intro h;split at h
 ·simp_all
 ·simp_all
 omega
theorem WT {v:V} {off:Nat}:shiftP v off k->shiftP v off k':=by
 unfold shiftP;intro h;split at h
 ·simp_all
 ·simp_all
 omega
variable {S:St}
omit hk in
theorem qz1 {v:V} {K K':List V->Prop} (hK:∀ a,K a->K' a):atP S v K->atP S v K':=by
 unfold atP;intro h;split at h
 ·simp_all
 ·split at h
  ·simp_all
  omega
 omega
theorem qqv {v:V}:nilK v k->nilK v k':=by
 unfold nilK;intro h;split at h
 ·simp_all
 ·simp_all
 ·simp_all
 omega
omit hk in
theorem qO {A B d:Prop} (h:B->d):qK A B->qK A d:=fun⟨a,b⟩=>⟨a,h b⟩
theorem qkj {a:Bool} :W6 a n cs k->W6 a n cs k':=by
 cases a
 ·exact W2 hk
 ·exact qO (hk _)
variable {t:TypeId}
theorem qki:loadK P t cs k->loadK P t cs k':=by
 rw [Zn,Zn];exact qw fun _=>qw fun _=>qkj hk
theorem qjq {a:Bool} :W1 a n cs k->W1 a n cs k':=by
 cases a
 ·exact W2 hk
 ·exact hk _
theorem YA {off:Nat}:partK P t cs off k->partK P t cs off k':=by
 rw [Kg,Kg];exact qw fun _=>qw fun _=>qjq hk
omit hk in
theorem qqh {A a Z d:Prop} (h:A->a) (e:Z->d):qjp n A Z->qjp n a d:=by
 cases n
 ·exact e
 ·exact h
variable {s:TypeId}
theorem qij {a:Bx} {f:Nat} {v:V}:zeroP P a s f v k->zeroP P a s f v k':=by
 unfold zeroP;intro h;split at h
 ·split at h
  ·simp_all
  omega
 omega
theorem QX {a:Bx} {f:Nat} {v:V}:fieldAddrK P a s f v k->fieldAddrK P a s f v k':=by
 rw [jh,jh];exact qw fun _=>qw fun _=>qqh (WT hk) (qij hk)
theorem qgm {f:Nat} {v:V}:fieldK P s f v k->fieldK P s f v k':=by
 rw [ZV,ZV];exact qw fun _=>YH fun _=>YA hk
variable {d:TypeDesc}
theorem Um {v i:V}:we P d v i k->we P d v i k':=by
 unfold we;intro h;split at h
 ·exact qw (fun _=>vC fun _ _=>YE (fun _=>qO (qO (hk _))) fun _ _ _ _=>qO (qO (hk _))) h
 ·exact qw (fun _=>vC fun _ _=>qO (qO (WT hk))) h
 omega
theorem Ul {v i:V}:idxAddrK P t v i k->idxAddrK P t v i k':=by
 rw [Zq,Zq];exact qw fun _=>Um hk
theorem qru {v i:V}:qcr P d v i k->qcr P d v i k':=by
 unfold qcr;intro h;split at h
 ·exact Qo (fun _=>vC fun _ _=>qO (qO (hk _))) h
 ·exact YH (fun _=>vC fun _ _=>qw fun _=>qO (qO (YA hk))) h
 omega
theorem qrt {v i:V}:idxK P t v i k->idxK P t v i k':=by
 rw [qcq,qcq];exact qw fun _=>qru hk
theorem qtn {op:BinOp} {x y:V}:binK P op t x y k->binK P op t x y k':=by
 unfold binK;intro h;split at h
 ·obtain⟨e,v,a,d,j⟩:=h;exact⟨e,v,a,d,hk _ j⟩
 ·obtain⟨n,e,v,a,d,j⟩:=h;exact⟨n,e,v,a,d,hk _ j⟩
 ·obtain⟨v,a,d,j⟩:=h;exact⟨v,a,d,hk _ j⟩
 ·obtain⟨p,e,v,a,d,j⟩:=h;exact⟨p,e,v,a,d,hk _ j⟩
 ·obtain⟨v,a,d⟩:=h;simp_all
 ·obtain⟨l,m,b,a,d,j,o⟩:=h;exact⟨l,m,b,a,d,j,hk _ o⟩
 omega
theorem ql1 {v:V}:Vo d v k->Vo d v k':=by
 unfold Vo;intro h;split at h
 ·exact vC (fun _ _=>hk _) h
 ·exact Qo (fun _=>hk _) h
 omega
theorem Vm {d:TypeId} {v:V}:convK P s d v k->convK P s d v k':=by
 rw [Vn,Vn];exact qw fun _=>qw fun _=>ql1 hk
theorem qrd {v:V}:qcn P d v k->qcn P d v k':=by
 unfold qcn;intro h;split at h
 ·exact Qo (fun _=>hk _) h
 ·exact qw (fun _=>YE (fun _=>hk _) fun _ _ _ _=>hk _) h
 omega
theorem qaj {v:V}:lenK P t v k->lenK P t v k':=by
 rw [JJ,JJ];exact qw fun _=>qrd hk
theorem qrc {v:V}:Js S v k->Js S v k':=by
 unfold Js;intro h;split at h
 ·split at h
  ·simp_all
  omega
 omega
theorem qrb {v:V}:Uk P S t v k->Uk P S t v k':=by
 unfold Uk;intro h;split at h
 ·rename_i e;rw [if_pos e];exact qrc hk h
 ·rename_i e;rw [if_neg e];exact qaj hk h
omit hk in
theorem qju {v:V} {k k':Nat->Nat->Prop} (h:∀ b o,k b o->k' b o):Ki v k->Ki v k':=by
 unfold Ki;split
 ·simp_all
 simp
theorem qeq {v:V} {e a j:Option V}:yK P d v e a j k->yK P d v e a j k':=by
 unfold yK;intro h;split at h
 ·exact Qo (fun _=>qO (jj fun _=>jj fun _=>qO (qO (hk _)))) h
 ·exact qw (fun _=>YE (fun _=>jj fun _=>jj fun _=>qO (qO (qO (hk _)))) fun _ _ _ _=>jj fun _=>jj fun _=>jj fun _=>qO (qO (qO (qO (hk _))))) h
 ·exact qw (fun _=>qju fun _ _=>jj fun _=>jj fun _=>jj fun _=>qO (qO (qO (qO (hk _))))) h
 omega
theorem qep {v:V} {d a e:Option V}:sliceK P t v d a e k->sliceK P t v d a e k':=by
 rw [K9,K9];exact qw fun _=>qeq hk
theorem qtf {v:V}:capK P t v k->capK P t v k':=by
 unfold capK;intro h;split at h
 ·simp_all
 omega
theorem qhr {ps:List (Nat × V)}:buildK P t ps k->buildK P t ps k':=by
 rw [WG,WG];exact qw fun _=>qw fun _=>hk _
theorem ql9 {f:V} {a:List V}:callK P f a k->callK P f a k':=by
 unfold callK;intro h;split at h
 ·exact⟨h.1,h.2.imp fun v h=>⟨h.1,hk _ h.2⟩⟩
 omega
theorem WF {ps:List (Nat × V)}:buildSliceD P t n ps k->buildSliceD P t n ps k':=by
 rw [vY,vY];refine qw fun u=>?_;cases u <;> first | exact id | exact qw fun _=>qw fun _=>qO (qw fun _=>qO (hk _))
theorem qsr {o:Oper}:detF P S o k->detF P S o k':=by
 intro h;unfold detF at h ⊢;split at h <;> rename_i d <;> try simp only [d]
 ·simp_all
 ·simp_all
 ·split at h
  ·simp_all
  omega
 ·exact qz1 (fun _=>qki hk) h
 ·exact QX hk h
 ·exact qgm hk h
 ·exact Ul hk h
 ·exact qrt hk h
 ·exact qtn hk h
 ·split at h
  ·exact h.imp fun v h=>⟨h.1,hk _ h.2⟩
  omega
 ·exact Vm hk h
 ·split at h
  ·split at h
   ·simp_all
   omega
  omega
 ·exact qep hk h
 ·exact⟨h.1,qhr hk h.2⟩
 ·exact qlj hk h
 ·exact qqv hk h
 ·split at h <;> rename_i a <;> try simp only [a]
  ·split at h
   ·exact qaj hk h
   omega
  ·split at h
   ·exact qtf hk h
   omega
  ·split at h
   ·simp_all
   omega
  ·split at h
   ·simp_all
   omega
  ·exact ql9 hk h
  omega
 omega
theorem WA {o:Oper}:detG P S o k->detG P S o k':=by
 intro h;unfold detG at h ⊢;split at h
 ·exact WF hk h
 ·exact qsr hk h
end
section
variable {P:Program} {S:St} {d:Option Nat} {K K':St->Prop} (hK:∀ S,K S->K' S)
include hK
variable {t:TypeId}
theorem qh0:ja P S d t K->ja P S d t K':=by
 unfold ja;intro h;split at h
 ·simp_all
 omega
theorem qtj {v:V}:ZB S d t v K->ZB S d t v K':=by
 unfold ZB;intro h;split at h
 ·simp_all
 omega
theorem qeh {p v:V}:wm P S d t p v K->wm P S d t p v K':=by
 rw [wR,wR];unfold Ki;intro h;split at h
 ·exact qw (fun _=>qw fun _=>qw fun _=>qO (hK _)) h
 omega
theorem Qe {n:Nat} {ps:List (Nat × V)}:ze P S d t n ps K->ze P S d t n ps K':=by
 rw [vX,vX];refine qw fun u=>?_;cases u <;> first | exact id | exact qw fun _=>qw fun _=>qO (qw fun _=>qO fun h y=>hK _ (h y))
omit hK in
theorem Ya:∀ {l:List Row} {y:Value} {L a:Row->List Row->Prop},(∀ r rs,L r rs->a r rs)->uj l y L->uj l y a
 | [],_,_,_,_,h=>h
 | r::_,_,_,_,hL,h=>h.imp (fun h=>⟨h.1,hL _ _ h.2⟩) (Ya fun d e=>hL d (r::e))
variable {s:V}
theorem qbi {k a:Nat} {e:TypeId} {fs:List (List V)}:yS S d k a e s fs K->yS S d k a e s fs K':=by
 unfold yS;intro h;split at h
 ·exact⟨h.1,fun y=>hK _ (h.2 y)⟩
 ·exact⟨h.1,Ya (fun r j h=>⟨h.1,fun y=>hK _ (h.2 y)⟩) h.2⟩
 omega
variable {x:V}
theorem KQ:zY P S d t s x K->zY P S d t s x K':=by
 rw [XK,XK];refine qw fun u=>?_;cases u <;> first | exact id | exact qw fun _=>qw fun _=>qw fun _=>qO (qfd fun _=>qbi hK)
theorem Vt {f:V} {n:List V}:yE P S d f n K->yE P S d f n K':=by
 unfold yE;intro h;split at h
 ·split at h
  ·obtain⟨a,k,j,h⟩:=h;exact⟨a,k,j,Ok.mono h fun _ _ _ hk e=>hK _ (hk e)⟩
  ·obtain⟨v,h,hk⟩:=h;exact⟨v,h,hK _ hk⟩
 ·obtain⟨a,k,j,h⟩:=h;exact⟨a,k,j,Q3.mono h fun _ _ _ hk e=>hK _ (hk e)⟩
 ·obtain⟨o,a,k,j,h⟩:=h;exact⟨o,a,k,j,Ok.mono h fun _ _ _ hk e=>hK _ (hk e)⟩
 omega
omit hK in
theorem qab {c:Prop} [Decidable c] {A a B d:Prop} (e:A->a) (j:B->d):Uh c A B->Uh c a d:=by
 unfold Uh;intro h;by_cases k:c
 ·simp_all
 simp_all
theorem qmr {k j m:Nat} {fs:List V}:ZE S d k j s m fs K->ZE S d k j s m fs K':=by
 unfold ZE;intro h;split at h
 ·exact qab (hK _) (fun h=>⟨h.1,fun b c a e=>hK _ (h.2 b c a e)⟩) h
 ·split at h
  ·exact⟨h.1,h.2.1,qab (hK _) (fun h=>⟨h.1,fun b c a e=>hK _ (h.2 b c a e)⟩) h.2.2⟩
  omega
 omega
variable {a:TypeId}
theorem qmq:ZD P S d t a s x K->ZD P S d t a s x K':=by
 unfold ZD;intro h;split at h
 ·split at h
  ·exact⟨h.1,h.2.1,h.2.2.1,uN h.2.2.2 fun _ _=>qmr hK⟩
  omega
 omega
theorem qms {k a m:Nat} {fs:List V}:Xn S d k a s m fs K->Xn S d k a s m fs K':=by
 unfold Xn;intro h;split at h
 ·simp_all
 ·split at h
  ·simp_all
  omega
 omega
theorem VC:ZF P S d t a s x K->ZF P S d t a s x K':=by
 rw [VD,VD];refine qw fun u=>?_;cases u <;> first | exact id | exact qw fun _=>qw fun _=>qw fun _=>qO fun h=>uN h fun _ _=>qms hK
theorem qmo:Xm P S d t a s x K->Xm P S d t a s x K':=by
 unfold Xm;intro h;split at h
 ·split at h
  ·simp_all
  omega
 omega
theorem qhk:QD P S d t s K->QD P S d t s K':=by
 unfold QD;intro h;split at h
 ·split at h
  ·simp_all
  ·refine⟨fun e=>hK _ (h.1 e),fun e=>?_⟩;have h:=h.2 e;split at h
   ·simp_all
   omega
  omega
 omega
theorem qst {k:V}:qc9 P S d t x k K->qc9 P S d t x k K':=by
 unfold qc9;intro h;split at h
 ·split at h
  ·refine⟨h.1,?_⟩;have h:=h.2;unfold qly at h ⊢;split at h
   ·split at h
    ·simp_all
    omega
   omega
  omega
 omega
theorem ql0:vQ P S d t a s x K->vQ P S d t a s x K':=by
 unfold vQ;intro h;split at h
 ·split at h
  ·refine uN h fun m e h=>?_;split at h
   ·simp_all
   ·split at h
    ·simp_all
    omega
   omega
  omega
 omega
theorem QT {l c:V}:xd P S d t l c K->xd P S d t l c K':=by
 unfold xd;intro h;split at h
 ·split at h
  ·simp_all
  omega
 omega
theorem qmp {b:ByteArray}:VB P S d t a s b K->VB P S d t a s b K':=by
 rw [qhz,qhz];refine qw fun u=>?_;cases u <;> first | exact id | exact qw fun _=>qw fun _=>qw fun _=>qO (qbi hK)
theorem Vz:xw P S d t a s x K->xw P S d t a s x K':=by
 unfold xw;intro h;split at h
 ·exact qmo hK h
 ·exact h.imp (qmq hK) (VC hK)
 ·exact h.imp (fun h=>⟨h.1,KQ hK h.2⟩) (VC hK)
 ·exact qmp hK h
 ·exact⟨h.1,KQ hK h.2⟩
theorem Uj {r:Option V}:jM P S d t r K->jM P S d t r K':=by
 unfold jM;intro h;split at h
 ·simp_all
 omega
omit hK in
theorem W3 {o:Option V} {A a:V->Prop} {B d:Prop} {p q p' q'} (e:∀ v,A v->a v) (h:B->d):vD o A B p q->vD o a d p' q':=by
 unfold vD;cases o <;> first | omega | exact e _
omit hK in
theorem qkg {k:V} {ok:Bool} {K K':V->Prop} (hK:∀ v,K v->K' v):Xj P S t x k ok K->Xj P S t x k ok K':=by
 unfold Xj;intro h;split at h
 ·split at h
  ·refine⟨h.1,?_⟩;replace h:=h.2;unfold W5 at h ⊢;split at h
   ·simp_all
   ·split at h
    ·exact⟨h.1,W3 (fun _=>hK _) (hK _) h.2⟩
    omega
   omega
  omega
 omega
theorem UH {k v:V}:J5 P S d t x k v K->J5 P S d t x k v K':=by
 unfold J5;intro h;split at h
 ·split at h
  ·refine⟨h.1,?_⟩;replace h:=h.2;unfold qiq at h ⊢;split at h
   ·split at h
    ·exact⟨h.1,W3 (fun _=>hK _) (hK _) h.2⟩
    omega
   omega
  omega
 omega
omit hK in
theorem qj2 {o:Option Ent} {A a:Ent->Prop} {B d:Prop} {p q p' q'} (e:∀ v,A v->a v) (h:B->d):YF o A B p q->YF o a d p' q':=by
 unfold YF;cases o <;> first | omega | exact e _
theorem qkb {k:V}:Kq P S d t x k K->Kq P S d t x k K':=by
 unfold Kq;intro h;split at h
 ·split at h
  ·refine⟨h.1,?_⟩;replace h:=h.2;unfold YL at h ⊢;split at h
   ·split at h
    ·exact⟨h.1,qj2 (fun _=>hK _) (hK _) h.2⟩
    omega
   omega
  omega
 omega
theorem qf2:YS P S d t x K->YS P S d t x K':=by
 unfold YS;intro h;refine⟨h.1,?_⟩;replace h:=h.2;split at h
 ·simp_all
 omega
theorem qrj {r:V} {n:String} {a:List V}:qf1 P S d r n a K->qf1 P S d r n a K':=by
 unfold qf1;intro h;split at h
 ·obtain⟨g,u,e,j,k⟩:=h;exact⟨g,u,e,j,Vt hK k⟩
 omega
theorem qsd {v:V}:Uo S d x s v K->Uo S d x s v K':=by
 unfold Uo;intro h;split at h
 ·split at h
  ·simp_all
  omega
 omega
theorem qe3:Qm P S d t x K->Qm P S d t x K':=by
 unfold Qm;intro h;split at h
 ·split at h
  ·simp_all
  omega
 omega
theorem qj6:Xi S d x K->Xi S d x K':=by
 unfold Xi;intro h;split at h
 ·split at h
  ·split at h
   ·exact⟨h.1,fun a=>hK _ (h.2.1 a),fun e a j=>hK _ (h.2.2 e a j)⟩
   omega
  omega
 omega
omit hK in
theorem qgv {K K':V->Prop} (hK:∀ v,K v->K' v):vN S x K->vN S x K':=by
 unfold vN;intro h;split at h
 ·split at h
  ·split at h
   ·split at h
    ·simp_all
    omega
   omega
  omega
 omega
omit hK in
theorem qhq {e:TypeId} {v:V} {K K':V->Prop} (hK:∀ v,K v->K' v):ZA P S e v K->ZA P S e v K':=by
 unfold ZA;intro h;split at h
 ·simp_all
 ·refine⟨h.1,?_⟩;have:=h.2;split at this
  ·obtain⟨a,k,d,j⟩:=this;exact⟨a,k,d,hK _ j⟩
  omega
 ·obtain⟨a,d,j,k,n,o⟩:=h;exact⟨a,d,j,k,n,hK _ o⟩
 omega
omit hK in
theorem ql2 {s:TypeId} {v:V} {K K':V->Prop} (hK:∀ v,K v->K' v):Zw P S s t v K->Zw P S s t v K':=by
 unfold Zw;intro h;split at h
 ·exact qhq hK h
 ·unfold qeg at h ⊢;split at h
  ·simp_all
  omega
 ·exact Vm hK h
theorem qAb {o:Oper}:aOp P S o K->aOp P S o K':=by
 unfold aOp;intro h;split at h
 ·exact qh0 hK h
 ·exact qtj hK h
 ·exact QX (fun _=>hK _) h
 ·exact qeh hK h
 ·unfold wL at h ⊢;split at h
  ·exact h.imp (Qe hK) (QT hK)
  ·exact Qe hK h
 ·exact QT hK h
 ·exact Uj hK h
 ·exact qkg (fun _=>hK _) h
 ·exact UH hK h
 ·exact UH hK h
 ·exact qkb hK h
 ·exact qf2 hK h
 ·exact qsd hK h
 ·exact qe3 hK h
 ·exact qj6 hK h
 ·exact qgv (fun _=>hK _) h
 ·exact ql2 (fun _=>hK _) h
 ·split at h
  ·split at h
   ·exact Vz hK h
   omega
  ·split at h
   ·exact ql0 hK h
   omega
  ·split at h
   ·exact qhk hK h
   omega
  ·split at h
   ·exact qst hK h
   omega
  ·split at h
   ·exact qrb (fun _=>hK _) h
   omega
  ·exact Vt hK h
  ·exact qrj hK h
  ·exact WA (fun _=>hK _) h
 ·exact WA (fun _=>hK _) h
theorem ZY {ops:Array Oper}:∀ {l:List Oper} {S:St},Xb P ops K l S->Xb P ops K' l S
 | [],_,h=>hK _ h
 | o::r,S,h=>by
  simp only [Xb] at h ⊢;split at h
  ·exact qAb (fun S'=>ZY) h
  ·exact ZY h
  omega
theorem WC {ops:Array Oper}:∀ {l:List Oper} {S:St},XG P ops K l S->XG P ops K' l S
 | [],_,h=>hK _ h
 | o::r,S,h=>by
  simp only [XG] at h ⊢;split at h
  ·exact WA (fun v=>WC) h
  ·exact WC h
  omega
end
theorem ZP {P:Program} {hc:Option Bool} {ops:Array Oper} {K K':St->Prop} (hK:∀ S,K S->K' S):∀ {l:List Oper} {S:St},Z5 P hc ops K l S->Z5 P hc ops K' l S
 | [],_,h=>hK _ h
 | _::_,_,h=>vo h fun _ a _ _=>ZP hK a
theorem ku {C:Ctx}:∀ {c:Code} {S:St} {Q Q':Exit->St->Prop},(∀ e S,Q e S->Q' e S)->ue C c S Q->ue C c S Q'
 | .skip,S,Q,Q',a,h=>by simp only [ue] at h ⊢;exact a _ _ h
 | .label _,S,Q,Q',a,h=>by simp only [ue] at h ⊢;exact a _ _ h
 | .exit i,S,Q,Q',a,h=>by simp only [ue] at h ⊢;exact a _ _ h
 | .ret,S,Q,Q',a,h=>by simp only [ue] at h ⊢;exact a _ _ h
 | .seq x y,S,Q,Q',a,h=>by
  simp only [ue] at h ⊢;refine ku (fun e S' d=>?_) h;cases e <;> first | exact ku a d | exact a _ _ d
 | .cond c x y,S,Q,Q',a,h=>by
  simp only [ue] at h ⊢;split at h
  ·rename_i b _;cases b <;> simp only [if_true,if_false,kA] at h ⊢ <;> exact ku a h
  ·exact h.elim
 | .block id c,S,Q,Q',a,h=>by
  simp only [ue] at h ⊢;refine ku (fun e S' d=>?_) h;cases e <;> simp only [XM] at d ⊢ <;> first | exact a _ _ d | (split at d <;> rename_i e <;> simp only [e,if_true,if_false] <;> exact a _ _ d)
 | .scope c,S,Q,Q',a,h=>by
  simp only [ue] at h ⊢;refine ku (fun e S' d=>?_) h;cases e <;> first | exact d.elim | exact a _ _ d
 | .region _ ops false,S,Q,Q',a,h=>by simp only [ue] at h ⊢;exact ZY (a _) h
 | .region _ ops true,S,Q,Q',a,h=>by
  simp only [ue] at h ⊢;split at h
  ·exact WC (fun S'=>ZY (a _)) h
  ·exact ZP (a _) h
  ·exact ZP (a _) h
  ·exact ZP (a _) h
  ·exact xo.mono h a
 | .loop c,S,Q,Q',a,h=>by simp only [ue] at h ⊢;exact xo.mono h a
 | .rangeFunc _ _ _ _,S,Q,Q',a,h=>by simp only [ue] at h ⊢;exact xo.mono h a
 | .goto _,S,Q,Q',a,h=>by simp only [ue] at h ⊢;exact xo.mono h a
 | .refuse _,S,Q,Q',a,h=>by simp only [ue] at h ⊢;exact xo.mono h a
inductive yf:List V->List V->Prop
 | nil:yf [] []
 | cons {v v':V} {l l':List V} (h:Le v v') (r:yf l l'):yf (v::l) (v'::l')
variable {d:List V}
theorem yf.c1 {a:V} {l:List V} (h:yf l d):yf (a::l) (a::d):=.cons (Le.refl _) h
theorem yf.reps:∀ {l a:List V},yf l a->∀ {w I xs},V.reps w I l xs->V.reps w I a xs
 | _,_,.nil,_,_,_,h=>h
 | _,_,.cons h r,w,I,[],h'=>by assumption
 | _,_,.cons h r,w,I,x::xs,h'=>by simp only [V.reps] at h' ⊢;exact⟨h w I x h'.1,r.reps h'.2⟩
theorem Ok.le {P:Program} {f:FuncId} {a:List V} {e:Bx} {Q:V->Bx->List Row->Prop} (k:yf a d) (h:Ok P f d e Q):Ok P f a e Q :=
 fun w I o n j=>h w I o (k.reps n) j
theorem qAn {P:Program} {g:FuncId} {a:List V} {Q:V->Bx->List Row->Prop} {p:xp Q} (j:yf a d) {e:Bx} (v:V) (h:zk P g d v) (hk:Q v e []):OkF P g a e Q p :=
 qo v (Ok.le j h) hk
theorem qA0 {P:Program} {g:FuncId} {a:List V} {k:V->Prop} {p:xp k} (e:yf a d) (v:V) (h:zk P g d v) (hk:k v):qA1 P g a k p:=qt v (zk.v (Ok.le e h)) hk
theorem xe {C:Ctx} {c:Code} {k:List It} {S:St} {Q:Exit->St->Prop} (M:St->Prop) (h:EX C (.code c::.stop M::k) S Q) (d:∀ S',M S'->EX C k S' Q):EX C (.code c::k) S Q:=by
 refine ku (c:=c) (fun e S' a=>?_) h;cases e <;> first | exact d _ a | exact a
theorem Vy {w:World} {I:Cells} {b:Nat}:∀ {cs:List V} {xs:List Value} {o:Nat},(∀ j x,xs[j]? = some x->w.cell? ⟨b,o+j,none⟩=some x/\I b (o+j)/\one x)->V.reps w I cs xs->V.ats w I cs b o
 | [],_,_,_,_=>by simp only [V.ats]
 | c::cs,x::xs,o,h,hr=>by
  simp only [V.reps] at hr;simp only [V.ats];obtain⟨a,d,e⟩:=h 0 x rfl;refine⟨⟨x,a,d,e,hr.1⟩,Vy (xs:=xs) (fun j y k=>?_) hr.2⟩;have:=h (j+1) y (by simp_all);rwa [show o+(j+1)=o+1+j by omega] at this
 | _::_,[],_,_,hr=>by simp [V.reps] at hr
theorem W7 {w:World} {I:Cells} {b k:Nat}:∀ {es:List (List V)} {o:Nat},(∀ e ∈ es,e.length=k)->V.ats w I es.flatten b o->V.lies w I k es b o
 | [],_,_,_=>by assumption
 | e::es,o,hk,h=>by
  simp only [List.flatten_cons] at h;have:=vZ.1 h;simp only [V.lies];have a:=hk e x6;rw [a] at this;exact⟨this.1,a,W7 (fun d j=>hk d (z8 _ j)) this.2⟩
def U6 (I:Cells) (b n:Nat):Cells:=fun c o=>I c o∨(c=b/\o < n)
theorem zf.plus (w:World) (I:Cells) (b n:Nat):zf w I w (U6 I b n):=.of (fun _ _ h=>⟨.inl h,rfl⟩) fun _ _=>rfl
theorem qmc {w:World} {I:Cells} {b:Nat} {cs:List V} (h:xR w I b (.c cs)):V.ats w (U6 I b cs.length) cs b 0:=by
 obtain⟨arr,e,k,n,a,o⟩:=h;refine Vy (xs:=arr.toList) (fun j x d=>?_) (V.reps_mono (zf.plus w I b cs.length) _ _ a);have q:=qM a;have p:j < arr.toList.length:=(qNj.1 d).1;refine⟨by simp [World.cell?, k];simp_all,.inr ⟨rfl,by omega⟩,n x (qMm d)⟩
theorem wX.frozen {w:World} {I:Cells} {b n:Nat} {cs:List V} {d:Bx} {rs:List Row} (h:wX w I ((b,.c cs)::d) rs):wX w (U6 I b n) d rs:=by
 have e:=h.nodup;simp only [qL,z7,List.cons_append,js] at e;have q:=h.lt b (by simp [qL]);refine(⟨fun p k=>h.bx p (z8 _ k),h.rw,e.2,h.inn,h.glob⟩:wX w I d rs).step (zf.plus w I b n) (fun _ _=>rfl) (fun c j o a=>?_) fun c o a=>?_
 ·rcases a with a | ⟨rfl,_⟩
  ·omega
  ·exact absurd j e.1
 ·rcases a with a | ⟨rfl,_⟩
  ·exact h.inn c o a
  omega
theorem X5 {w:World} {I:Cells} {b n c k:Nat} {cs:List V} {es:List (List V)} (h:xR w I b (.c cs)) (d:cs.take (n * k)=es.flatten) (j:∀ e ∈ es,e.length=k) (o:es.length=n) (hc:n<=c) :
  V.rep w (U6 I b cs.length) (.list (some (.slice (some ⟨b,0,none⟩) n c)) k es) (.slice (some ⟨b,0,none⟩) n c):=by
 have a:=qzz (qmc h) (n * k);rw [d] at a;simp only [V.rep];refine⟨fun y e=>(KL e),some ⟨b,0,none⟩,c,by rw [o],by omega,?_⟩;cases es with
 | nil=>simp
 | cons e es=>exact .inr ⟨b,0,rfl,W7 j a⟩
mutual
inductive Fz (y:Value) (v0:V):V->V->Prop
 | same (v:V):Fz y v0 v v
 | here:Fz y v0 (.lit y) v0
 | agg {l l':List V} (h:FzL y v0 l l'):Fz y v0 (.agg l) (.agg l')
 | tup {l l':List V} (h:FzL y v0 l l'):Fz y v0 (.tup l) (.tup l')
inductive FzL (y:Value) (v0:V):List V->List V->Prop
 | nil:FzL y v0 [] []
 | cons {v v':V} {l l':List V} (h:Fz y v0 v v') (r:FzL y v0 l l'):FzL y v0 (v::l) (v'::l')
end
mutual
theorem Fz.rep {y:Value} {v0:V} {w:World} {I a:Cells} (j:zf w I w a) (k:V.rep w a v0 y):∀ {v n:V} {x:Value},Fz y v0 v n->V.rep w I v x->V.rep w a n x
 | _,_,x,.same v,h=>V.rep_mono j v x h
 | _,_,x,.here,h=>by simp only [V.rep] at h;simp_all
 | _,_,x,.agg hl,h=>by
  simp only [V.rep] at h ⊢;obtain⟨xs,e,d⟩:=h;exact⟨xs,e,FzL.reps j k hl d⟩
 | _,_,x,.tup hl,h=>by
  simp only [V.rep] at h ⊢;obtain⟨xs,e,d⟩:=h;exact⟨xs,e,FzL.reps j k hl d⟩
theorem FzL.reps {y:Value} {v0:V} {w:World} {I a:Cells} (e:zf w I w a) (d:V.rep w a v0 y):∀ {l j:List V} {xs:List Value},FzL y v0 l j->V.reps w I l xs->V.reps w a j xs
 | _,_,[],.nil,_=>by assumption
 | _,_,x::xs,.cons h r,hr=>by
  simp only [V.reps] at hr ⊢;exact⟨Fz.rep e d h hr.1,FzL.reps e d r hr.2⟩
 | _,_,_::_,.nil,hr=>by assumption
 | _,_,[],.cons _ _,hr=>by assumption
end
theorem FzL.refl {y:Value} {v0:V}:∀ l:List V,FzL y v0 l l
 | []=>.nil
 | v::l=>.cons (.same v) (FzL.refl l)
structure qmy (b n c k:Nat) (cs:List V) (es:List (List V)):Prop where
 take:cs.take (n * k)=es.flatten
 each:∀ e ∈ es,e.length=k
 len:es.length=n
 cap:n<=c
variable {P:Program}
theorem Ok.freeze {f:FuncId} {args:List V} {H:Bx} {Q Q':V->Bx->List Row->Prop} (h:Ok P f args H Q)
  (Y:∀ v A rs,Q v A rs->Q' v A rs∨∃ b n c k cs es d y,A.Perm ((b,.c cs)::d)/\qmy b n c k cs es/\Fz (.slice (some ⟨b,0,none⟩) n c) (.list (some (.slice (some ⟨b,0,none⟩) n c)) k es) v y/\Q' y d rs):Ok P f args H Q':=by
 intro w I xs Z S;refine(h w I xs Z S).mono fun e w' ⟨x,v,d,u,z,K,O,a,L,F,T⟩=>?_;rcases Y v d u T with C | ⟨b,n,c,k,cs,es,R,y,G,q,hz,C⟩
 ·exact⟨x,v,d,u,z,K,O,a,L,F,C⟩
 ·have M:=L.perm G;have W:=M.bx _ x6;have hs:=X5 W q.take q.each q.len q.cap;have N:=zf.plus w' z b cs.length;have U:b ∈ qL d u:=by
   simp only [qL,z6];exact .inl (x9.2 ⟨_,G.mem_iff.2 x6,rfl⟩)
  refine⟨x,y,R,u,U6 z b cs.length,K,Fz.rep N hs hz O,⟨a.os,a.tape,a.output,a.size,a.block,a.stays.trans N,fun c o J D=>?_,a.drawn⟩,M.frozen,fun c j=>?_,C⟩
  ·rcases D with D | ⟨rfl,_⟩
   ·exact a.old c o J D
   ·exact absurd J (F _ U)
  ·refine F c ?_;simp only [qL,z6] at j ⊢;refine j.imp (fun j=>?_) id;obtain⟨p,X,rfl⟩:=x9.1 j;exact x9.2 ⟨p,G.mem_iff.2 (z8 _ X),rfl⟩
theorem Ok.consume {f:FuncId} {args y:List V} {z:Bx} {Q:V->Bx->List Row->Prop} {b n c k:Nat} {cs:List V} {es:List (List V)}
  (q:qmy b n c k cs es) (S:FzL (.slice (some ⟨b,0,none⟩) n c) (.list (some (.slice (some ⟨b,0,none⟩) n c)) k es) args y) (h:Ok P f y z Q):Ok P f args ((b,.c cs)::z) Q:=by
 intro w I U N u;have G:=u.bx _ x6;have O:=X5 G q.take q.each q.len q.cap;have A:=zf.plus w I b cs.length;have M:=u.nodup;simp only [qL,z7,List.cons_append,js] at M;refine(h w (U6 I b cs.length) U (FzL.reps A O S N) u.frozen).mono fun e X ⟨x,v,D,T,C,H,R,a,J,L,F⟩=>?_;refine⟨x,v,D,T,C,H,R,⟨a.os,a.tape,a.output,a.size,fun c p=>a.block c ⟨p.1,fun j=>p.2 (by simp [j])⟩,A.trans a.stays,fun c o d K=>?_,a.drawn⟩,J,fun c p d=>L c p ⟨d.1,fun j=>d.2 (by simp [j])⟩,F⟩;have:=a.old c o ⟨d.1,fun j=>d.2 (by simp [j])⟩ K;rcases this with W | ⟨rfl,_⟩
 ·omega
 simp_all
def St.dropB (S:St) (k:Nat):St:={ S with boxes:=S.boxes.drop k }
variable {S:St}
theorem qgx (k:Nat):(S.dropB k).σ=S.σ:=zd rfl
theorem Je (k:Nat):(S.dropB k).boxes=S.boxes.drop k:=zd rfl
theorem Vb (k:Nat):(S.dropB k).rows=S.rows:=zd rfl
theorem Γ.dropB {C S a w I} (h:Γ C S a w I) (k:Nat):Γ C (S.dropB k) a w I :=
 ⟨h.1,⟨h.2.heap.sub (qPz k _) (zc _),fun b d=>h.2.mine b ((qMs ((qPz k _).map _) (zc _)).subset d),h.2.keeps,h.2.lo⟩⟩
theorem xo.loopD {C c S Q} (J:Nat->St->Prop) (n:Nat) (d:∃ k,J n (S.dropB k)) (round:∀ n S,J n S->xo C c S (kw (fun S'=>∃ m,m < n/\∃ k,J m (S'.dropB k)) Q)):xo C (.loop c) S Q:=by
 obtain⟨k,d⟩:=d;have main:xo C (.loop c) (S.dropB k) Q:=xo.loop J n d fun n S q=>by
  intro a w I h;refine wpIn_mono (round n S q a w I h) fun e y z ⟨S',j,o,p⟩=>?_;cases e with
  | normal =>
   obtain⟨m,x,k,u⟩:=p;exact⟨S'.dropB k,j,o.dropB k,m,x,u⟩
  | _=>assumption
 exact fun a w I h=>main a w I (h.dropB k)
variable {Q:Exit->St->Prop} {c:Code} {k:List It} {C:Ctx}
theorem qG (u:C.P.follows .mixedOrders=true) (q:xH C.N C.M c=true) (N:Nat) (T:Nat->St->Prop) (o:∃ d,T 0 (S.dropB d))
  (round:∀ i S,i < N->T i S->EX C (.code c::.stop (fun S'=>∃ d,T (i+1) (S'.dropB d))::k) S Q) (last:∀ S,T N S->EX C (.code c::.stop (fun _=>False)::k) S Q):xo C (.loop c) S (zM C k Q):=by
 refine xo.loopD (fun m S=>∃ i,i<=N/\m=N - i/\T i S) N (by obtain⟨d,h⟩:=o;exact⟨d,0,KM _,rfl,h⟩) fun m S ⟨i,w,x,n⟩=>?_;have mono:∀ {K j:St->Prop},(∀ S,K S->j S)->EX C (.code c::.stop K::k) S Q->xo C c S (kw j (zM C k Q)):=fun p h=>by
  refine wH u c S _ q (ku (fun e S' a=>?_) (show ue C c S _ from h));cases e <;> first | exact p _ a | exact a
 rcases qNb i N with h | h
 ·exact mono (fun S' ⟨d,a⟩=>⟨N - (i+1),by omega,d,i+1,h,rfl,a⟩) (round i S h n)
 ·obtain rfl:i=N:=by omega
  exact mono (fun S' a=>a.elim) (last S n)
variable {α:Type}
theorem jR (q:C.P.follows .mixedOrders=true) (p:xH C.N C.M c=true) (a:α->Nat) (T:α->St->Prop) (x:α) (n:∃ d,T x (S.dropB d))
  (round:∀ x S,T x S->EX C (.code c::.stop (fun S'=>∃ y,a y < a x/\∃ d,T y (S'.dropB d))::k) S Q):xo C (.loop c) S (zM C k Q):=by
 refine xo.loopD (fun m S=>∃ x,a x=m/\T x S) (a x) (by obtain⟨d,h⟩:=n;exact⟨d,x,rfl,h⟩) fun m S ⟨x,u,o⟩=>?_;subst u;refine wH q c S _ p (ku (fun e S' j=>?_) (show ue C c S _ from round x S o));cases e <;> first | exact j | (obtain⟨y,w,d,j⟩:=j;exact⟨a y,w,d,y,rfl,j⟩)
def St.keep (S:St) (d r:Nat):St:={ S with boxes:=S.boxes.drop d,rows:=S.rows.take r }
theorem qCw (d r:Nat):(S.keep d r).σ=S.σ:=zd rfl
theorem qkr (d r:Nat):(S.keep d r).boxes=S.boxes.drop d:=zd rfl
theorem qri (d r:Nat):(S.keep d r).rows=S.rows.take r:=zd rfl
theorem Γ.keep {C S a w I} (h:Γ C S a w I) (d r:Nat):Γ C (S.keep d r) a w I :=
 ⟨h.1,⟨h.2.heap.sub (qPz d _) (List.take_sublist r _),fun b e=>h.2.mine b ((qMs ((qPz d _).map _) ((List.take_sublist r _).filterMap _)).subset e),h.2.keeps,h.2.lo⟩⟩
theorem xo.loopR {C c S Q} (J:Nat->St->Prop) (n:Nat) (h:∃ d r,J n (S.keep d r)) (round:∀ n S,J n S->xo C c S (kw (fun S'=>∃ m,m < n/\∃ d r,J m (S'.keep d r)) Q)):xo C (.loop c) S Q:=by
 obtain⟨d,r,h⟩:=h;have main:xo C (.loop c) (S.keep d r) Q:=xo.loop J n h fun n S q=>by
  intro a w I j;refine wpIn_mono (round n S q a w I j) fun e y z ⟨S',k,o,p⟩=>?_;cases e with
  | normal =>
   obtain⟨m,x,d,r,u⟩:=p;exact⟨S'.keep d r,k,o.keep d r,m,x,u⟩
  | _=>assumption
 exact fun a w I j=>main a w I (j.keep d r)
theorem KW (u:C.P.follows .mixedOrders=true) (q:xH C.N C.M c=true) (N:Nat) (T:Nat->St->Prop) (o:∃ d r,T 0 (S.keep d r))
  (round:∀ i S,i < N->T i S->EX C (.code c::.stop (fun S'=>∃ d r,T (i+1) (S'.keep d r))::k) S Q) (last:∀ S,T N S->EX C (.code c::.stop (fun _=>False)::k) S Q):xo C (.loop c) S (zM C k Q):=by
 refine xo.loopR (fun m S=>∃ i,i<=N/\m=N - i/\T i S) N (by obtain⟨d,r,h⟩:=o;exact⟨d,r,0,KM _,rfl,h⟩) fun m S ⟨i,w,x,n⟩=>?_;have mono:∀ {K j:St->Prop},(∀ S,K S->j S)->EX C (.code c::.stop K::k) S Q->xo C c S (kw j (zM C k Q)):=fun p h=>by
  refine wH u c S _ q (ku (fun e S' a=>?_) (show ue C c S _ from h));cases e <;> first | exact p _ a | exact a
 rcases qNb i N with h | h
 ·exact mono (fun S' ⟨d,r,a⟩=>⟨N - (i+1),by omega,d,r,i+1,h,rfl,a⟩) (round i S h n)
 ·obtain rfl:i=N:=by omega
  exact mono (fun S' a=>a.elim) (last S n)
def nilv:Value:=.slice none 0 0
def St.nilRow (S:St) (i k:Nat) (e:TypeId):St:={ σ:=UI S.σ (some i) (.list (some nilv) k []),boxes:=S.boxes,rows:=⟨nilv,k,e⟩::S.rows }
variable {i:Nat}
theorem W4 (k:Nat) (e:TypeId):(S.nilRow i k e).σ i=.list (some nilv) k []:=by simp [St.nilRow,UI]
theorem qad (S:St) (i j k:Nat) (e:TypeId) (h:i ≠ j):(S.nilRow i k e).σ j=S.σ j:=by simp [St.nilRow,UI,h]
theorem qch (k:Nat) (e:TypeId):(S.nilRow i k e).boxes=S.boxes:=zd rfl
theorem qfj (k:Nat) (e:TypeId):(S.nilRow i k e).rows=⟨nilv,k,e⟩::S.rows:=zd rfl
theorem Γ.nilRow {C S a w I} (h:Γ C S a w I) {k:Nat} (e:TypeId) (n:S.σ i=.lit (.slice none 0 0)) (o:0 < k):Γ C (S.nilRow i k e) a w I:=by
 have g:=h.2.addNil k o e;refine⟨⟨h.1.size,h.1.defers,fun j=>?_⟩,⟨g.heap,g.mine,g.keeps,g.lo⟩⟩;by_cases d:i=j
 ·subst d;have:=h.1.tmps i;rw [n] at this;simp only [V.rep] at this;rw [W4];simp only [V.rep];exact⟨fun y p=>by cases p;exact this,none,0,this,w3 _,.inl trivial⟩
 ·rw [qad _ _ _ _ _ d];exact h.1.tmps j
theorem xo.nilRow {C c S Q} (i k:Nat) (e:TypeId) (d:S.σ i=.lit (.slice none 0 0)) (j:0 < k) (h:xo C c (S.nilRow i k e) Q):xo C c S Q :=
 fun a w I n=>h a w I (n.nilRow e d j)
def Dum:Prop:=True
def Nb (b:Nat):Bx->Prop
 | []=>Dum
 | (x,_)::r=>(x ≠ b/\b ≠ x)/\Nb b r
theorem qnq {b:Nat}:∀ {a:Bx},b ∉ a.map (·.1)->Nb b a
 | [],_=>trivial
 | (x,_)::r,h=>by
  simp only [z7,xb,not_or] at h;exact⟨⟨fun e=>h.1 e.symm,h.1⟩,qnq h.2⟩
theorem zS {b:Nat} {a:Bx} {rs:List Row} (h:b ∉ qL a rs):Nb b a:=qnq fun d=>h (z6.2 (.inl d))
theorem td1 (l:List α) (j:Nat):List.take (l.length - j) (List.drop j l)=List.drop j l:=xa (by simp)
theorem td2 {a:Type} (f:α->a) (l:List α) (j:Nat):List.take (l.length - j) (List.drop j (List.map f l))=List.drop j (List.map f l):=xa (by simp)
theorem qIs (n:Nat):((0:Int) < ((n+1:Nat):Int))=True:=eq_true (by omega)
theorem qNd:((0:Nat):Int)=0:=zd rfl
def eqT (P:Program) (t:TypeId):Option (List Sh):=if xO P t=some true/\P.eqGuardType P.depth t=false then u7 P 12 t else none
variable {t:TypeId}
theorem qaz {a:List Sh} (h:eqT P t=some a) {l m:List Value} (e:xk a l=true) (j:xk a m=true):VT P .eql t l m (kQ l m):=by
 unfold eqT at h;split at h
 ·rename_i d;intro x y w;have:=Y8 12 t a h 10000 (by omega) l m w e j;simp only [VX,d.1,if_true] at this;rw [Sem.run_bind,run_eqGuard_agg w .eql t x y _ _ d.2,Result.andThen_ok,run_eql_struct,this,Result.andThen_ok]
 ·cases h
theorem qay {a:List Sh} (h:eqT P t=some a) {l m:List Value} (e:xk a l=true) (j:xk a m=true):VT P .neq t l m (!kQ l m):=by
 unfold eqT at h;split at h
 ·rename_i d;intro x y w;have:=Y8 12 t a h 10000 (by omega) l m w e j;simp only [VX,d.1,if_true] at this;rw [Sem.run_bind,run_eqGuard_agg w .neq t x y _ _ d.2,Result.andThen_ok,run_neq_struct,this,Result.andThen_ok]
 ·cases h
def Qr:V->Value | .lit v=>v | _=>undef
def Z4:V->Bool | .lit _=>true | _=>false
theorem jI:∀ {vs:List V},vs.all Z4=true->vals vs=some (vs.map Qr)
 | [],_=>rfl
 | .lit v::r,h=>by
  simp only [List.all_cons,k7] at h;simp [vals,jI h.2,Qr]
 | .any::_,h=>by simp [Z4] at h
 | .agg _::_,h=>by simp [Z4] at h
 | .list _ _ _::_,h=>by simp [Z4] at h
 | .ref _::_,h=>by simp [Z4] at h
 | .fn _ _::_,h=>by simp [Z4] at h
 | .tup _::_,h=>by simp [Z4] at h
theorem VT.unique {P op t l m b b'} (h:VT P op t l m b) (a:VT P op t l m b'):b=b':=by
 have:=h (.const undef) (.const undef) default;rw [a (.const undef) (.const undef) default] at this;simp_all
theorem qF5 {j:List Sh} (h:eqT P t=some j) (xs e:List V) (k:V->Prop) (a:(xs.all Z4 && xk j (xs.map Qr))=true) (d:(e.all Z4 && xk j (e.map Qr))=true) :
  EqK P .eql t xs e k=k (.lit (.bool (kQ (xs.map Qr) (e.map Qr)))):=by
 simp only [k7] at a d;refine propext ⟨fun⟨l,m,b,n,o,p,u⟩=>?_,fun q=>⟨_,_,_,jI a.1,jI d.1,qaz h a.2 d.2,q⟩⟩;rw [jI a.1] at n;cases n;rw [jI d.1] at o;cases o;rw [(qaz h a.2 d.2).unique p];omega
theorem qF4 {j:List Sh} (h:eqT P t=some j) (xs e:List V) (k:V->Prop) (a:(xs.all Z4 && xk j (xs.map Qr))=true) (d:(e.all Z4 && xk j (e.map Qr))=true) :
  EqK P .neq t xs e k=k (.lit (.bool (!kQ (xs.map Qr) (e.map Qr)))):=by
 simp only [k7] at a d;refine propext ⟨fun⟨l,m,b,n,o,p,u⟩=>?_,fun q=>⟨_,_,_,jI a.1,jI d.1,qay h a.2 d.2,q⟩⟩;rw [jI a.1] at n;cases n;rw [jI d.1] at o;cases o;rw [(qay h a.2 d.2).unique p];omega
def qym (P:Program) (t:TypeId) (l m:List Value):Bool:=match eqT P t with | some a=>xk a l && xk a m | none=>false
theorem qAv (xs a:List V) (k:V->Prop) (h:(xs.all Z4 && a.all Z4 && qym P t (xs.map Qr) (a.map Qr))=true):EqK P .eql t xs a k=k (.lit (.bool (kQ (xs.map Qr) (a.map Qr)))):=by
 simp only [k7] at h;have d:=h.2;unfold qym at d;split at d
 ·rename_i j e;simp only [k7] at d;exact qF5 e xs a k (by simp_all) (by simp_all)
 simp_all
theorem qAu (xs a:List V) (k:V->Prop) (h:(xs.all Z4 && a.all Z4 && qym P t (xs.map Qr) (a.map Qr))=true):EqK P .neq t xs a k=k (.lit (.bool (!kQ (xs.map Qr) (a.map Qr)))):=by
 simp only [k7] at h;have d:=h.2;unfold qym at d;split at d
 ·rename_i j e;simp only [k7] at d;exact qF4 e xs a k (by simp_all) (by simp_all)
 simp_all
def qIl:=(aN (aN @qKk @zu @qdz @qAz @qKl @qF6 @qF8 @qKj @qd1) (aN @wh @qF9 @qic @qd0 @qFv @qFt @qFu @qAd @qJ) (aN @zx @qAx @qbn @quc @qAy @qm2 @qm1 @qie @qub) (aN @ql8 @qt9 @JF @ql7 @qTl @VU @qmv @qt3 @qdr) (aN @qt4 @qh4 @Uz @qAf @qFz @qAi @qfs @qw2 trivial) trivial trivial trivial trivial)
def qIk:=(aN (aN @qq6 @qkh @qBg @qE5 @qy2 @qux @qwu @qq2 @qyj) (aN @qqa @qjo @qwq @qsg @QH @zA @qFy @qdt @QI) (aN @qh6 @qdu @qAg @ZG @qFw @VJ @XQ @qAe @qAl) (aN @qKa @qKd @qFx @qKc @qKb @qF1 @qAj @qAh @qh5) (aN @qAm @qKf @ua @UA @VI @qt6 @qF0 @qAk @qt5) (aN @qds @qKe @qm0 @qid @qua @Zn @Kg trivial trivial) trivial trivial trivial)
def qIj:=(aN (aN @jh @ZV @YT @YU @Zq @qf4 @qk6 @qcq @qa3) (aN @qs1 @qu7 @qhd @qkn @JJ @qw5 @qfv @qkl @qCs) (aN @qw4 @qb0 @V5 @K9 @WG @qx1 @qq8 @Wk @qqi) (aN @U7 @qty @qFi @wR @vX @Uq @Ur @vY @XK) (aN @qFd @qBu @qz4 @VD @qy7 @qtc @qGb @qvu @qe0) (aI @qvw @qvv) trivial trivial trivial)
def qIi:=(aI @qp8 @qjn.eq_1)
def qIh:=(aN (aN @qrx @qIs @qCw @qkr @qri @W4 @qad @qch @qfj) (aN @qK9 @qLa @qNd @qgx @Je @Vb @qfc @qwe @qwg) (aN @qfe @qff @qj0 @qj1 @qq3 @qry @qld @qrz @qlf) (aN @qpx @qjf @qus @qur @qxd @qxe @qxh @qxf @qxg) (aN @qFr @qmu @qt2 @qwd @qwc @qwb @qwa @qv9 @qka) (aN @qfp @kM @vA @wB @jx @wz @yd @ky @wO) (aN @qt1 @qdn @qh2 @uk trivial trivial trivial trivial trivial) trivial trivial)
def qIg:=(aN (aN @vv @jd @Yn @Xe @wT @qHq @ub @QJ @kO) (aN @xY @qsc @qxv @qxz @qEr @qrv @jA @YX @jZ) (aN @qjh @qpu @WQ @qpt @qpv @Yl @qi9 @Yk @qjc) (aN @qps @qbz @qi8 @qjb @qvc @Jl @qja @qve @qvd) (aN @zP @qaa @qqm @qac @Wh @uo @qjv @qjx @qjw) (aN @qjy @qcf @qwh @YG @qwf @qv8 @qCd trivial trivial) trivial trivial trivial)
def qIf:=(aN (aN @qCe @ql6 @qzl @qFk @qje @Xs @qFm @qdh @Wg) (aN @ZC @qzn @qtp @qhu @qzp @qzo @qto @qfg @qfh) (aN @qCk @qzq @qAv @qAu @qBh @qwp @qww @qwv @j1) (aN @V4 @qz6 @qz5 @qpk @qva @qtu @qtv @qtw @qs0) (aN @qzc @YN @Uw @Ux @Jz @VA @JA @qMi @V1) (aI @qmb (aI @qhn @qzf)) trivial trivial trivial)
def qIe:=(aN (aN @qqo @qqp @qma @yh @qo2 @qo3 @Int.le_refl @Nat.sub_zero @KM) (aN @w3 @and_true @true_and @and_self @false_and @and_false @or_false @false_or @or_true) (aN @true_or @not_true_eq_false @not_false_eq_true @kA @qRw @qJ0 @qL3 @qMw @qOa) (aN @qM9 @qP3 @qP4 @qPu @Bool.false_and @Bool.or_true @Bool.true_or @qQr @qMo) (aN @qfl.eq_1 @qfl.eq_4 @U8.eq_1 @U8.eq_2 @qym.eq_1 @Z4.eq_1 @Qr.eq_1 @xk.eq_1 @xk.eq_2) (aN @fit.eq_2 @fit.eq_3 @kQ.eq_1 @kQ.eq_2 trivial trivial trivial trivial trivial) trivial trivial trivial)
def qId:=(aN (aN @veq.eq_2 @veq.eq_3 @jq.eq_1 @jq.eq_2 @jq.eq_3 @jq.eq_4 @jq.eq_5 @jq.eq_6 @jq.eq_7) (aN @jq.eq_8 @jq.eq_9 @jq.eq_10 @jq.eq_11 @jq.eq_12 @jq.eq_15 @jq.eq_16 @jq.eq_17 @jq.eq_18) (aN @jq.eq_19 @jq.eq_20 @jq.eq_21 @jq.eq_23 @sun.eq_1 @sun.eq_2 @qt8.eq_1 @qt8.eq_2 @xB.eq_3) (aN @xB.eq_4 @xB.eq_5 @Xu.eq_3 @yx.eq_1 @yx.eq_2 @yx.eq_3 @vals.eq_1 @vals.eq_2 @vals.eq_3) (aN @Xk.eq_1 @Xk.eq_2 @yN.eq_1 @yN.eq_2 @qu.{1} trivial trivial trivial trivial) trivial trivial trivial trivial)
def qK7:=(aN (aN @qPl.{0} @qQi.{0} @List.getElem?_cons_zero.{0} @List.getElem?_cons_succ.{0} @Option.bind_some.{0,0} @Option.bind_none.{0,0} @qA4.{0,0} @qI9.{0,0} @Option.isSome_some.{0}) (aN @Option.isSome_none.{0} @Option.isNone_some.{0} @Option.isNone_none.{0} @z7.{0,0} @Jx.{0,0} @List.take_succ_cons.{0} @List.take_zero.{0} @List.take_nil.{0} @qL1.{0}) (aN @qNk.{0} @qO3.{0} @qKg.{0} @qPk.{0} @qMr.{0} @qKv.{0} @wl.{0} @List.filter_nil.{0} @J0.{0}) (aN @List.all_nil.{0} @List.all_cons.{0} @List.toList_toArray.{0} @if_true.{1} @if_true.{0} @if_false.{1} @if_false.{0} @decide_true @decide_false) (aN @ne_eq.{1} @td1 @td2 @zw trivial trivial trivial trivial trivial) trivial trivial trivial trivial)
def rA:=(aI (aI qIl qIk) (aI qIj qIi))
def rB:=(aI (aI qIh (aI qIg qIf)) (aI qIe (aI qId qK7)))
def qmx (T:St->Prop) (S:St):Prop:=∃ a d,a.Sublist S.boxes/\d.Sublist S.rows/\T ((S.setBoxes a).setRows d)
theorem Γ.lose {C S a w I} (h:Γ C S a w I) {d:Bx} {rs:List Row} (hb:d.Sublist S.boxes) (e:rs.Sublist S.rows):Γ C ((S.setBoxes d).setRows rs) a w I :=
 ⟨h.1,⟨h.2.heap.sub hb e,fun b j=>h.2.mine b ((qMs (hb.map _) (e.filterMap _)).subset j),h.2.keeps,h.2.lo⟩⟩
theorem xo.loopS {C c S Q} (J:Nat->St->Prop) (n:Nat) (d:qmx (J n) S) (round:∀ n S,J n S->xo C c S (kw (fun S'=>∃ m,m < n/\qmx (J m) S') Q)):xo C (.loop c) S Q:=by
 obtain⟨o,p,h,j,d⟩:=d;have main:xo C (.loop c) ((S.setBoxes o).setRows p) Q:=xo.loop J n d fun n S y=>by
  intro a w I k;refine wpIn_mono (round n S y a w I k) fun e D F ⟨S',q,u,x⟩=>?_;cases e with
  | normal =>
   obtain⟨m,A,o,p,h,j,z⟩:=x;exact⟨_,q,u.lose h j,m,A,z⟩
  | _=>assumption
 exact fun a w I k=>main a w I (k.lose h j)
theorem vg (y:C.P.follows .mixedOrders=true) (x:xH C.N C.M c=true) (N:Nat) (T:Nat->St->Prop) (u:qmx (T 0) S)
  (round:∀ i S,i < N->T i S->EX C (.code c::.stop (fun S'=>qmx (T (i+1)) S')::k) S Q) (last:∀ S,T N S->EX C (.code c::.stop (fun _=>False)::k) S Q):xo C (.loop c) S (zM C k Q):=by
 refine xo.loopS (fun m S=>∃ i,i<=N/\m=N - i/\T i S) N (by obtain⟨d,o,j,n,h⟩:=u;exact⟨d,o,j,n,0,KM _,rfl,h⟩) fun m S ⟨i,z,A,q⟩=>?_;have mono:∀ {K p:St->Prop},(∀ S,K S->p S)->EX C (.code c::.stop K::k) S Q->xo C c S (kw p (zM C k Q)):=fun w h=>by
  refine wH y c S _ x (ku (fun e S' a=>?_) (show ue C c S _ from h));cases e <;> first | exact w _ a | exact a
 rcases qNb i N with h | h
 ·exact mono (fun S' ⟨d,o,j,n,a⟩=>⟨N - (i+1),by omega,d,o,j,n,i+1,h,rfl,a⟩) (round i S h q)
 ·obtain rfl:i=N:=by omega
  exact mono (fun S' a=>a.elim) (last S q)
theorem Qi (z:C.P.follows .mixedOrders=true) (w:xH C.N C.M c=true) (a:α->Nat) (T:α->St->Prop) (x:α) (q:qmx (T x) S)
  (round:∀ x S,T x S->EX C (.code c::.stop (fun S'=>∃ y,a y < a x/\qmx (T y) S')::k) S Q):xo C (.loop c) S (zM C k Q):=by
 refine xo.loopS (fun m S=>∃ x,a x=m/\T x S) (a x) (by obtain⟨j,p,n,o,h⟩:=q;exact⟨j,p,n,o,x,rfl,h⟩) fun m S ⟨x,A,u⟩=>?_;subst A;refine wH z c S _ w (ku (fun e S' d=>?_) (show ue C c S _ from round x S u));cases e <;> first | exact d | (obtain⟨y,D,j,p,n,o,d⟩:=d;exact⟨a y,D,j,p,n,o,y,rfl,d⟩)
theorem ZJ {x:Value} {k:Nat} {e:TypeId} {l2:List Row}:∀ {l1:List Row} {K:Row->List Row->Prop} {p:xp K},K ⟨x,k,e⟩ (l1++l2)->Yc (l1++⟨x,k,e⟩::l2) x K p
 | [],_,_,h=>.inl ⟨rfl,h⟩
 | r::l1,K,_,h=>.inr (ZJ (l1:=l1) (K:=fun a d=>K a (r::d)) (p:=.mk) h)
theorem kS.permB {C S w I bs} (h:kS C S w I) (d:S.boxes.Perm bs):kS C (S.setBoxes bs) w I:=by
 have a:(qL S.boxes S.rows).Perm (qL bs S.rows):=qOl _ (d.map _);exact⟨⟨fun p j=>h.heap.bx p (d.mem_iff.2 j),h.heap.rw,a.nodup_iff.1 h.heap.nodup,h.heap.inn,h.heap.glob⟩,fun b e=>h.mine b (a.mem_iff.2 e),h.keeps,h.lo⟩
theorem Γ.permP {C S a w I bs rs} (h:Γ C S a w I) (hb:S.boxes.Perm bs) (d:S.rows.Perm rs):Γ C ((S.setBoxes bs).setRows rs) a w I :=
 ⟨h.1,(h.2.permB hb).perm d⟩
def Qg (T:St->Prop) (S:St):Prop:=∃ (a:Bx) (e:List Row) (d:Bx) (h:List Row),a.Sublist S.boxes/\e.Sublist S.rows/\a.Perm d/\e.Perm h/\T ((S.setBoxes d).setRows h)
theorem Γ.loseP {C S a w I} {T:St->Prop} (h:Γ C S a w I) (d:Qg T S):∃ S',Γ C S' a w I/\T S':=by
 obtain⟨o,q,p,u,e,j,k,n,d⟩:=d;exact⟨_,(h.lose e j).permP k n,d⟩
theorem xo.loopP {C c S Q} (J:Nat->St->Prop) (n:Nat) (k:Qg (J n) S) (round:∀ n S,J n S->xo C c S (kw (fun S'=>∃ m,m < n/\Qg (J m) S') Q)):xo C (.loop c) S Q:=by
 have main:∀ S,J n S->xo C (.loop c) S Q:=fun S k=>xo.loop J n k fun n S x=>by
  intro a w I o;refine wpIn_mono (round n S x a w I o) fun e A D ⟨S',p,q,u⟩=>?_;cases e with
  | normal =>
   obtain⟨m,z,y⟩:=u;obtain⟨d,h,j⟩:=q.loseP y;exact⟨d,p,h,m,z,j⟩
  | _=>assumption
 intro a w I o;obtain⟨d,h,j⟩:=o.loseP k;exact main d j a w I h
theorem zI (G:C.P.follows .mixedOrders=true) (F:xH C.N C.M c=true) (N:Nat) (T:Nat->St->Prop) (q:Qg (T 0) S)
  (round:∀ i S,i < N->T i S->EX C (.code c::.stop (fun S'=>Qg (T (i+1)) S')::k) S Q) (last:∀ S,T N S->EX C (.code c::.stop (fun _=>False)::k) S Q):xo C (.loop c) S (zM C k Q):=by
 have n:∀ {A B:St->Prop} {S},(∀ S,A S->B S)->Qg A S->Qg B S:=fun D ⟨o,H,p,I,u,w,x,y,h⟩=>⟨o,H,p,I,u,w,x,y,D _ h⟩;refine xo.loopP (fun m S=>∃ i,i<=N/\m=N - i/\T i S) N (n (fun S h=>⟨0,KM _,rfl,h⟩) q) fun m S ⟨i,J,L,j⟩=>?_;have mono:∀ {K d:St->Prop},(∀ S,K S->d S)->EX C (.code c::.stop K::k) S Q->xo C c S (kw d (zM C k Q)):=fun z h=>by
  refine wH G c S _ F (ku (fun e S' a=>?_) (show ue C c S _ from h));cases e <;> first | exact z _ a | exact a
 rcases qNb i N with h | h
 ·exact mono (fun S' a=>⟨N - (i+1),by omega,n (fun S a=>⟨i+1,h,rfl,a⟩) a⟩) (round i S h j)
 ·obtain rfl:i=N:=by omega
  exact mono (fun S' a=>a.elim) (last S j)
theorem yf.refl:∀ l:List V,yf l l
 | []=>.nil
 | v::l=>.cons (Le.refl v) (yf.refl l)
theorem Ok.list0 {f:FuncId} {own:Option Value} {k:Nat} {d:List V} {e:Bx} {Q:V->Bx->List Row->Prop} (h:∀ c,Ok P f (.lit (.slice none 0 c)::d) e Q)
  (q:∀ p c,Ok P f (.list (some (.slice (some p) 0 c)) k []::d) e Q):Ok P f (.list own k []::d) e Q:=by
 intro w I o j n;cases o with
 | nil=>exact qD
 | cons x o =>
  simp only [V.reps,V.rep,List.length_nil] at j;obtain⟨⟨_,a,c,rfl,_⟩,j⟩:=j;cases a with
  | none=>exact h c w I _ (by exact qD) n
  | some p=>exact q p c w I _ (by simp only [V.reps,V.rep,List.length_nil];simp_all) n
end Go.VL
open Go.VL
namespace Go.Proofs.YtkdgbjhbpbgdeaaGreatDoor.Ty
theorem mixed:prog.follows .mixedOrders=true:=qy
theorem ag3:xO prog 3=some false:=qy
theorem un3:prog.underlying 3=some (.int .i64):=qy
theorem un4:prog.underlying 4=some .bool:=qy
theorem ag9:xO prog 9=some false:=qy
theorem un9:prog.underlying 9=some .string:=qy
theorem ag22:xO prog 22=some false:=qy
theorem un22:prog.underlying 22=some (.slice 114):=qy
theorem un31:prog.underlying 31=some (.slice 41):=qy
theorem un33:prog.underlying 33=some (.slice 294):=qy
theorem sz37:zK prog 37=some 3:=qy
theorem by41:QN prog 41=some 160:=qy
theorem sz43:zK prog 43=some 18:=qy
theorem by43:QN prog 43=some 248:=qy
theorem zr43:kG prog 43=some [.string ⟨#[]⟩,.string ⟨#[]⟩,.int .i64 0,.slice none 0 0,.string ⟨#[]⟩,.int .i64 0,.string ⟨#[]⟩,.string ⟨#[]⟩,.string ⟨#[]⟩,.int .i64 0,.int .i64 0,.string ⟨#[]⟩,.slice none 0 0,.int .i64 0,.int .i64 0,.int .i64 0,.slice none 0 0,.int .i64 0]:=qy
theorem un45:prog.underlying 45=some (.slice 93):=qy
theorem un57:prog.underlying 57=some (.slice 37):=qy
theorem cb46:zg prog 46=true:=qy
theorem cb57:zg prog 57=true:=qy
theorem cb92:zg prog 92=true:=qy
theorem cb135:zg prog 135=true:=qy
theorem cb234:zg prog 234=true:=qy
theorem cb267:zg prog 267=true:=qy
theorem c108:zg prog 108=false :=
 qy
theorem c236:zg prog 236=false :=
 qy
theorem c248:zg prog 248=false :=
 qy
theorem c268:zg prog 268=false :=
 qy
theorem c313:zg prog 313=false :=
 qy
theorem t104:prog.underlying 104=some (.slice 60) :=
 qy
theorem t110:xO prog 110=some true/\fld prog 110 0=some (0,60)/\fld prog 110 1=some (2,3)/\fld prog 110 2=some (3,3)/\fld prog 110 3=some (4,9)/\fld prog 110 4=some (5,9)/\fld prog 110 5=some (6,3)/\fld prog 110 6=some (7,57)/\zK prog 110=some 8/\kG prog 110=some [.string ⟨#[]⟩,.int .i64 0,.int .i64 0,.int .i64 0,.string ⟨#[]⟩,.string ⟨#[]⟩,.int .i64 0,.slice none 0 0] :=
 ⟨qy,qy,qy,qy,qy,qy,qy,qy,qy,qy⟩
theorem t112:xO prog 112=some true/\eqT prog 112=some [.i .i64,.s,.s,.s,.i .i64]/\fld prog 112 0=some (0,3)/\fld prog 112 1=some (1,9)/\fld prog 112 2=some (2,9)/\fld prog 112 3=some (3,60)/\qx prog 112 0=some (0,1)/\zK prog 112=some 5/\kG prog 112=some [.int .i64 0,.string ⟨#[]⟩,.string ⟨#[]⟩,.string ⟨#[]⟩,.int .i64 0] :=
 ⟨qy,qy,qy,qy,qy,qy,qy,qy,qy⟩
theorem t114:xO prog 114=some true/\fld prog 114 0=some (0,3)/\fld prog 114 1=some (1,3)/\fld prog 114 2=some (2,3)/\fld prog 114 3=some (3,110)/\fld prog 114 4=some (11,112)/\fld prog 114 5=some (16,71)/\zK prog 114=some 40/\kG prog 114=some [.int .i64 0,.int .i64 0,.int .i64 0,.string ⟨#[]⟩,.int .i64 0,.int .i64 0,.int .i64 0,.string ⟨#[]⟩,.string ⟨#[]⟩,.int .i64 0,.slice none 0 0,.int .i64 0,.string ⟨#[]⟩,.string ⟨#[]⟩,.string ⟨#[]⟩,.int .i64 0,.int .i64 0,.string ⟨#[]⟩,.string ⟨#[]⟩,.slice none 0 0,.int .i64 0,.string ⟨#[]⟩,.string ⟨#[]⟩,.int .i64 0,.slice none 0 0,.string ⟨#[]⟩,.int .i64 0,.string ⟨#[]⟩,.string ⟨#[]⟩,.string ⟨#[]⟩,.int .i64 0,.int .i64 0,.string ⟨#[]⟩,.slice none 0 0,.int .i64 0,.int .i64 0,.int .i64 0,.slice none 0 0,.int .i64 0,.string ⟨#[]⟩] :=
 ⟨qy,qy,qy,qy,qy,qy,qy,qy,qy⟩
theorem t115:xO prog 115=some false/\zK prog 115=some 1 :=
 ⟨qy,qy⟩
theorem t118:xO prog 118=some false/\jG prog 118=some (60,([.s,.i .i64],true),.agg [.lit (.bool false),.lit (.int .i64 0),.lit (.int .i64 0),.lit (.int .i64 0),.lit (.string ⟨#[]⟩),.lit (.int .i64 0),.lit (.int .i64 0),.lit (.int .i64 0),.lit (.string ⟨#[]⟩),.lit (.string ⟨#[]⟩),.lit (.int .i64 0),.lit (.slice none 0 0),.lit (.int .i64 0),.lit (.string ⟨#[]⟩),.lit (.string ⟨#[]⟩),.lit (.string ⟨#[]⟩),.lit (.int .i64 0),.lit (.int .i64 0),.lit (.string ⟨#[]⟩),.lit (.string ⟨#[]⟩),.lit (.slice none 0 0),.lit (.int .i64 0),.lit (.string ⟨#[]⟩),.lit (.string ⟨#[]⟩),.lit (.int .i64 0),.lit (.slice none 0 0),.lit (.string ⟨#[]⟩),.lit (.int .i64 0),.lit (.string ⟨#[]⟩),.lit (.string ⟨#[]⟩),.lit (.string ⟨#[]⟩),.lit (.int .i64 0),.lit (.int .i64 0),.lit (.string ⟨#[]⟩),.lit (.slice none 0 0),.lit (.int .i64 0),.lit (.int .i64 0),.lit (.int .i64 0),.lit (.slice none 0 0),.lit (.int .i64 0),.lit (.string ⟨#[]⟩)])/\zK prog 118=some 1/\prog.underlying 118=some (.map 60 121)/\kG prog 118=some [.map none] :=
 ⟨qy,qy,qy,qy,qy⟩
theorem t121:xO prog 121=some true/\fld prog 121 0=some (0,4)/\fld prog 121 1=some (1,114)/\zK prog 121=some 41/\kG prog 121=some [.bool false,.int .i64 0,.int .i64 0,.int .i64 0,.string ⟨#[]⟩,.int .i64 0,.int .i64 0,.int .i64 0,.string ⟨#[]⟩,.string ⟨#[]⟩,.int .i64 0,.slice none 0 0,.int .i64 0,.string ⟨#[]⟩,.string ⟨#[]⟩,.string ⟨#[]⟩,.int .i64 0,.int .i64 0,.string ⟨#[]⟩,.string ⟨#[]⟩,.slice none 0 0,.int .i64 0,.string ⟨#[]⟩,.string ⟨#[]⟩,.int .i64 0,.slice none 0 0,.string ⟨#[]⟩,.int .i64 0,.string ⟨#[]⟩,.string ⟨#[]⟩,.string ⟨#[]⟩,.int .i64 0,.int .i64 0,.string ⟨#[]⟩,.slice none 0 0,.int .i64 0,.int .i64 0,.int .i64 0,.slice none 0 0,.int .i64 0,.string ⟨#[]⟩] :=
 ⟨qy,qy,qy,qy,qy⟩
theorem t133:xO prog 133=some false/\zK prog 133=some 1 :=
 ⟨qy,qy⟩
theorem t134:xO prog 134=some false/\jG prog 134=some (207,([.s,.s],true),.agg [.lit (.int .i64 0),.lit (.int .i64 0),.lit (.string ⟨#[]⟩),.lit (.map none)])/\zK prog 134=some 1 :=
 ⟨qy,qy,qy⟩
theorem t135:xO prog 135=some false/\jG prog 135=some (9,([.s],false),.lit (.bool false))/\zK prog 135=some 1/\prog.underlying 135=some (.map 9 4) :=
 ⟨qy,qy,qy,qy⟩
theorem t137:fld prog 137 0=some (0,27)/\fld prog 137 1=some (4,29)/\fld prog 137 2=some (5,3)/\fld prog 137 3=some (6,134)/\fld prog 137 4=some (7,135)/\qx prog 137 0=some (0,4)/\qx prog 137 1=some (4,1)/\qx prog 137 2=some (5,1)/\qx prog 137 3=some (6,1)/\qx prog 137 4=some (7,1)/\kG prog 137=some [.slice none 0 0,.slice none 0 0,.slice none 0 0,.slice none 0 0,.slice none 0 0,.int .i64 0,.map none,.map none] :=
 ⟨qy,qy,qy,qy,qy,qy,qy,qy,qy,qy,qy⟩
theorem t143:jG prog 143=some (3,([.i .i64],false),.lit (.int .i64 0)) :=
 qy
theorem t157:xO prog 157=some false/\zK prog 157=some 1 :=
 ⟨qy,qy⟩
theorem t159:fld prog 159 0=some (0,115)/\fld prog 159 1=some (1,157)/\qx prog 159 0=some (0,1)/\qx prog 159 1=some (1,1)/\zK prog 159=some 2/\kG prog 159=some [.nilFunc,.nilFunc] :=
 ⟨qy,qy,qy,qy,qy,qy⟩
theorem t161:jG prog 161=some (3,([.i .i64],false),.agg [.lit (.nilFunc),.lit (.nilFunc)]) :=
 qy
theorem t164:jG prog 164=some (167,([.s,.s],true),.lit (.slice none 0 0)) :=
 qy
theorem t165:jG prog 165=some (9,([.s],false),.lit (.string ⟨#[]⟩)) :=
 qy
theorem t167:xO prog 167=some true/\qx prog 167 0=some (0,1)/\qx prog 167 1=some (1,1)/\zK prog 167=some 2/\kG prog 167=some [.string ⟨#[]⟩,.string ⟨#[]⟩] :=
 ⟨qy,qy,qy,qy,qy⟩
theorem t174:prog.underlying 174=some (.int .u64) :=
 qy
theorem t205:xO prog 205=some false/\zK prog 205=some 1/\prog.underlying 205=some (.int .u64) :=
 ⟨qy,qy,qy⟩
theorem t207:xO prog 207=some true/\qx prog 207 0=some (0,1)/\qx prog 207 1=some (1,1)/\zK prog 207=some 2/\kG prog 207=some [.string ⟨#[]⟩,.string ⟨#[]⟩] :=
 ⟨qy,qy,qy,qy,qy⟩
theorem t209:jG prog 209=some (37,([.i .i64,.i .i64,.s],true),.lit (.bool false))/\prog.underlying 209=some (.map 37 4) :=
 ⟨qy,qy⟩
theorem t216:xO prog 216=some true/\eqT prog 216=some [.i .i64,.i .u64]/\fld prog 216 0=some (0,3)/\fld prog 216 1=some (1,205)/\qx prog 216 0=some (0,1)/\qx prog 216 1=some (1,1)/\zK prog 216=some 2/\kG prog 216=some [.int .i64 0,.int .u64 0] :=
 ⟨qy,qy,qy,qy,qy,qy,qy,qy⟩
theorem t22:xO prog 22=some false/\zK prog 22=some 1/\prog.underlying 22=some (.slice 114) :=
 ⟨ag22,qy,un22⟩
theorem t224:prog.underlying 224=some (.slice 5) :=
 qy
theorem t230:xO prog 230=some false/\zK prog 230=some 1/\kG prog 230=some [.pointer none] :=
 ⟨qy,qy,qy⟩
theorem t231:prog.underlying 231=some (.slice 230) :=
 qy
theorem t24:xO prog 24=some false/\zK prog 24=some 1/\prog.underlying 24=some (.slice 47) :=
 ⟨qy,qy,qy⟩
theorem t25:xO prog 25=some false/\zK prog 25=some 1/\prog.underlying 25=some (.slice 43)/\kG prog 25=some [.slice none 0 0] :=
 ⟨qy,qy,qy,qy⟩
theorem t258:jG prog 258=some (261,([.s,.i .i64],true),.lit (.bool false)) :=
 qy
theorem t259:prog.underlying 259=some (.slice 25) :=
 qy
theorem t261:xO prog 261=some true/\qx prog 261 0=some (0,1)/\qx prog 261 1=some (1,1)/\zK prog 261=some 2/\kG prog 261=some [.string ⟨#[]⟩,.int .i64 0] :=
 ⟨qy,qy,qy,qy,qy⟩
theorem t265:xO prog 265=some false/\jG prog 265=some (9,([.s],false),.lit (.map none))/\zK prog 265=some 1/\prog.underlying 265=some (.map 9 135)/\kG prog 265=some [.map none] :=
 ⟨qy,qy,qy,qy,qy⟩
theorem t27:xO prog 27=some true/\fld prog 27 0=some (0,24)/\fld prog 27 1=some (1,25)/\fld prog 27 2=some (2,25)/\fld prog 27 3=some (3,25)/\qx prog 27 0=some (0,1)/\qx prog 27 1=some (1,1)/\zK prog 27=some 4/\kG prog 27=some [.slice none 0 0,.slice none 0 0,.slice none 0 0,.slice none 0 0] :=
 ⟨qy,qy,qy,qy,qy,qy,qy,qy,qy⟩
theorem t29:xO prog 29=some false/\zK prog 29=some 1/\prog.underlying 29=some (.slice 62) :=
 ⟨qy,qy,qy⟩
theorem t294:xO prog 294=some true/\QN prog 294=some 24/\eqT prog 294=some [.s,.i .i64]/\fld prog 294 0=some (0,9)/\fld prog 294 1=some (1,3)/\qx prog 294 0=some (0,1)/\qx prog 294 1=some (1,1)/\zK prog 294=some 2/\kG prog 294=some [.string ⟨#[]⟩,.int .i64 0] :=
 ⟨qy,qy,qy,qy,qy,qy,qy,qy,qy⟩
theorem t3:xO prog 3=some false/\QN prog 3=some 8/\zK prog 3=some 1/\prog.underlying 3=some (.int .i64)/\kG prog 3=some [.int .i64 0] :=
 ⟨ag3,qy,qy,un3,qy⟩
theorem t305:prog.underlying 305=some (.slice 82) :=
 qy
theorem t31:xO prog 31=some false/\zK prog 31=some 1/\prog.underlying 31=some (.slice 41) :=
 ⟨qy,qy,un31⟩
theorem t318:xO prog 318=some false/\zK prog 318=some 1 :=
 ⟨qy,qy⟩
theorem t320:xO prog 320=some true/\fld prog 320 0=some (0,27)/\fld prog 320 1=some (4,9)/\fld prog 320 2=some (5,318)/\qx prog 320 0=some (0,4)/\qx prog 320 1=some (4,1)/\zK prog 320=some 6/\kG prog 320=some [.slice none 0 0,.slice none 0 0,.slice none 0 0,.slice none 0 0,.string ⟨#[]⟩,.nilFunc] :=
 ⟨qy,qy,qy,qy,qy,qy,qy,qy⟩
theorem t326:prog.underlying 326=some (.slice 56) :=
 qy
theorem t33:xO prog 33=some false/\zK prog 33=some 1/\prog.underlying 33=some (.slice 294) :=
 ⟨qy,qy,un33⟩
theorem t337:xO prog 337=some true/\qx prog 337 0=some (0,1)/\qx prog 337 1=some (1,1)/\zK prog 337=some 2/\prog.underlying 337=some (.array 2 205)/\kG prog 337=some [.int .u64 0,.int .u64 0] :=
 ⟨qy,qy,qy,qy,qy,qy⟩
theorem t343:xO prog 343=some true/\fld prog 343 0=some (0,27)/\fld prog 343 1=some (4,9)/\fld prog 343 2=some (5,47)/\qx prog 343 0=some (0,4)/\qx prog 343 1=some (4,1)/\qx prog 343 2=some (5,4)/\zK prog 343=some 9/\kG prog 343=some [.slice none 0 0,.slice none 0 0,.slice none 0 0,.slice none 0 0,.string ⟨#[]⟩,.string ⟨#[]⟩,.string ⟨#[]⟩,.slice none 0 0,.int .i64 0] :=
 ⟨qy,qy,qy,qy,qy,qy,qy,qy,qy⟩
theorem t35:xO prog 35=some true/\QN prog 35=some 48/\fld prog 35 0=some (0,3)/\fld prog 35 1=some (1,33)/\fld prog 35 2=some (2,9)/\qx prog 35 0=some (0,1)/\qx prog 35 1=some (1,1)/\qx prog 35 2=some (2,1)/\zK prog 35=some 3/\kG prog 35=some [.int .i64 0,.slice none 0 0,.string ⟨#[]⟩] :=
 ⟨qy,qy,qy,qy,qy,qy,qy,qy,qy,qy⟩
theorem t351:prog.underlying 351=some (.slice 35) :=
 qy
theorem t37:xO prog 37=some true/\QN prog 37=some 32/\eqT prog 37=some [.i .i64,.i .i64,.s]/\fld prog 37 0=some (0,3)/\fld prog 37 1=some (1,3)/\fld prog 37 2=some (2,9)/\qx prog 37 0=some (0,1)/\qx prog 37 1=some (1,1)/\qx prog 37 2=some (2,1)/\zK prog 37=some 3/\kG prog 37=some [.int .i64 0,.int .i64 0,.string ⟨#[]⟩] :=
 ⟨qy,qy,qy,qy,qy,qy,qy,qy,qy,sz37,qy⟩
theorem t372:jG prog 372=some (3,([.i .i64],false),.lit (.nilFunc)) :=
 qy
theorem t39:xO prog 39=some true/\eqT prog 39=some [.i .i64,.i .i64]/\fld prog 39 0=some (0,3)/\fld prog 39 1=some (1,3)/\qx prog 39 0=some (0,1)/\qx prog 39 1=some (1,1)/\zK prog 39=some 2/\kG prog 39=some [.int .i64 0,.int .i64 0] :=
 ⟨qy,qy,qy,qy,qy,qy,qy,qy⟩
theorem t398:jG prog 398=some (9,([.s],false),.agg [.lit (.int .i64 0),.lit (.int .u64 0)])/\prog.underlying 398=some (.map 9 216) :=
 ⟨qy,qy⟩
theorem t4:xO prog 4=some false/\zK prog 4=some 1/\prog.underlying 4=some .bool/\kG prog 4=some [.bool false] :=
 ⟨qy,qy,un4,qy⟩
theorem t41:xO prog 41=some true/\fld prog 41 0=some (0,3)/\fld prog 41 1=some (1,9)/\fld prog 41 2=some (2,9)/\fld prog 41 3=some (3,9)/\fld prog 41 4=some (4,37)/\fld prog 41 5=some (7,33)/\fld prog 41 6=some (8,3)/\fld prog 41 7=some (9,39)/\fld prog 41 8=some (11,31)/\qx prog 41 0=some (0,1)/\qx prog 41 1=some (1,1)/\qx prog 41 2=some (2,1)/\qx prog 41 3=some (3,1)/\qx prog 41 4=some (4,3)/\qx prog 41 5=some (7,1)/\qx prog 41 6=some (8,1)/\qx prog 41 7=some (9,2)/\qx prog 41 8=some (11,1)/\zK prog 41=some 12/\kG prog 41=some [.int .i64 0,.string ⟨#[]⟩,.string ⟨#[]⟩,.string ⟨#[]⟩,.int .i64 0,.int .i64 0,.string ⟨#[]⟩,.slice none 0 0,.int .i64 0,.int .i64 0,.int .i64 0,.slice none 0 0] :=
 ⟨qy,qy,qy,qy,qy,qy,qy,qy,qy,qy,qy,qy,qy,qy,qy,qy,qy,qy,qy,qy,qy⟩
theorem t43:xO prog 43=some true/\QN prog 43=some 248/\fld prog 43 0=some (0,9)/\fld prog 43 1=some (1,9)/\fld prog 43 2=some (2,35)/\fld prog 43 3=some (5,41)/\fld prog 43 4=some (17,3)/\qx prog 43 0=some (0,1)/\qx prog 43 1=some (1,1)/\qx prog 43 2=some (2,3)/\qx prog 43 3=some (5,12)/\qx prog 43 4=some (17,1)/\zK prog 43=some 18/\kG prog 43=some [.string ⟨#[]⟩,.string ⟨#[]⟩,.int .i64 0,.slice none 0 0,.string ⟨#[]⟩,.int .i64 0,.string ⟨#[]⟩,.string ⟨#[]⟩,.string ⟨#[]⟩,.int .i64 0,.int .i64 0,.string ⟨#[]⟩,.slice none 0 0,.int .i64 0,.int .i64 0,.int .i64 0,.slice none 0 0,.int .i64 0] :=
 ⟨qy,by43,qy,qy,qy,qy,qy,qy,qy,qy,qy,qy,sz43,zr43⟩
theorem t45:xO prog 45=some false/\zK prog 45=some 1/\prog.underlying 45=some (.slice 93) :=
 ⟨qy,qy,un45⟩
theorem t47:xO prog 47=some true/\QN prog 47=some 64/\fld prog 47 0=some (0,9)/\fld prog 47 1=some (1,9)/\fld prog 47 2=some (2,45)/\fld prog 47 3=some (3,3)/\qx prog 47 0=some (0,1)/\qx prog 47 1=some (1,1)/\qx prog 47 2=some (2,1)/\zK prog 47=some 4/\kG prog 47=some [.string ⟨#[]⟩,.string ⟨#[]⟩,.slice none 0 0,.int .i64 0] :=
 ⟨qy,qy,qy,qy,qy,qy,qy,qy,qy,qy,qy⟩
theorem t5:xO prog 5=some false/\zK prog 5=some 1/\prog.underlying 5=some (.int .u8) :=
 ⟨qy,qy,qy⟩
theorem t53:xO prog 53=some false/\zK prog 53=some 1/\kG prog 53=some [.int .i64 0] :=
 ⟨qy,qy,qy⟩
theorem t56:xO prog 56=some false/\QN prog 56=some 24/\zK prog 56=some 1/\prog.underlying 56=some (.slice 9)/\kG prog 56=some [.slice none 0 0] :=
 ⟨qy,qy,qy,qy,qy⟩
theorem t57:xO prog 57=some false/\zK prog 57=some 1/\prog.underlying 57=some (.slice 37) :=
 ⟨qy,qy,un57⟩
theorem t60:xO prog 60=some true/\QN prog 60=some 24/\eqT prog 60=some [.s,.i .i64]/\fld prog 60 0=some (0,9)/\fld prog 60 1=some (1,3)/\qx prog 60 0=some (0,1)/\qx prog 60 1=some (1,1)/\zK prog 60=some 2/\kG prog 60=some [.string ⟨#[]⟩,.int .i64 0] :=
 ⟨qy,qy,qy,qy,qy,qy,qy,qy,qy⟩
theorem t62:xO prog 62=some true/\QN prog 62=some 104/\fld prog 62 0=some (0,60)/\fld prog 62 1=some (2,9)/\fld prog 62 2=some (3,9)/\fld prog 62 3=some (4,3)/\fld prog 62 4=some (5,57)/\qx prog 62 0=some (0,2)/\qx prog 62 1=some (2,1)/\qx prog 62 2=some (3,1)/\qx prog 62 3=some (4,1)/\qx prog 62 4=some (5,1)/\qx prog 62 5=some (6,1)/\qx prog 62 6=some (7,1)/\zK prog 62=some 8/\kG prog 62=some [.string ⟨#[]⟩,.int .i64 0,.string ⟨#[]⟩,.string ⟨#[]⟩,.int .i64 0,.slice none 0 0,.int .i64 0,.int .i64 0] :=
 ⟨qy,qy,qy,qy,qy,qy,qy,qy,qy,qy,qy,qy,qy,qy,qy,qy⟩
theorem t71:xO prog 71=some true/\fld prog 71 0=some (0,3)/\fld prog 71 1=some (1,47)/\fld prog 71 2=some (5,43)/\fld prog 71 3=some (23,9)/\qx prog 71 0=some (0,1)/\zK prog 71=some 24/\kG prog 71=some [.int .i64 0,.string ⟨#[]⟩,.string ⟨#[]⟩,.slice none 0 0,.int .i64 0,.string ⟨#[]⟩,.string ⟨#[]⟩,.int .i64 0,.slice none 0 0,.string ⟨#[]⟩,.int .i64 0,.string ⟨#[]⟩,.string ⟨#[]⟩,.string ⟨#[]⟩,.int .i64 0,.int .i64 0,.string ⟨#[]⟩,.slice none 0 0,.int .i64 0,.int .i64 0,.int .i64 0,.slice none 0 0,.int .i64 0,.string ⟨#[]⟩] :=
 ⟨qy,qy,qy,qy,qy,qy,qy,qy⟩
theorem t73:xO prog 73=some false/\zK prog 73=some 1/\kG prog 73=some [.nilFunc] :=
 ⟨qy,qy,qy⟩
theorem t79:xO prog 79=some true/\fld prog 79 0=some (0,3)/\fld prog 79 1=some (1,3)/\qx prog 79 0=some (0,1)/\qx prog 79 1=some (1,1)/\zK prog 79=some 2/\kG prog 79=some [.int .i64 0,.int .i64 0] :=
 ⟨qy,qy,qy,qy,qy,qy,qy⟩
theorem t82:xO prog 82=some false/\QN prog 82=some 24/\zK prog 82=some 1/\prog.underlying 82=some (.slice 3)/\kG prog 82=some [.slice none 0 0] :=
 ⟨qy,qy,qy,qy,qy⟩
theorem t85:xO prog 85=some false/\jG prog 85=some (60,([.s,.i .i64],true),.lit (.bool false))/\zK prog 85=some 1/\prog.underlying 85=some (.map 60 4) :=
 ⟨qy,qy,qy,qy⟩
theorem t87:xO prog 87=some true/\fld prog 87 0=some (0,37)/\fld prog 87 1=some (3,85)/\qx prog 87 0=some (0,3)/\qx prog 87 1=some (3,1)/\zK prog 87=some 4/\kG prog 87=some [.int .i64 0,.int .i64 0,.string ⟨#[]⟩,.map none] :=
 ⟨qy,qy,qy,qy,qy,qy,qy⟩
theorem t9:xO prog 9=some false/\QN prog 9=some 16/\zK prog 9=some 1/\prog.underlying 9=some .string/\kG prog 9=some [.string ⟨#[]⟩] :=
 ⟨ag9,qy,qy,un9,qy⟩
theorem t93:xO prog 93=some true/\fld prog 93 0=some (0,9)/\fld prog 93 1=some (1,35)/\qx prog 93 0=some (0,1)/\qx prog 93 1=some (1,3)/\zK prog 93=some 4/\kG prog 93=some [.string ⟨#[]⟩,.int .i64 0,.slice none 0 0,.string ⟨#[]⟩] :=
 ⟨qy,qy,qy,qy,qy,qy,qy⟩
end Go.Proofs.YtkdgbjhbpbgdeaaGreatDoor.Ty
namespace Go.Proofs.YtkdgbjhbpbgdeaaGreatDoor
theorem qL0:(List.range 417).all (fun k=>!((338458599402409253058173203343830441765863612316417715644172357519713794045740716084900758694644775582737083043468794545569784 >>> k) % 2 == 1) || zg prog k)=true:=by kernel_rfl
theorem qHg (k:Nat) (h:(338458599402409253058173203343830441765863612316417715644172357519713794045740716084900758694644775582737083043468794545569784 >>> k) % 2=1):zg prog k=true:=by
 by_cases a:k < 417
 ·have:=qNh.1 qL0 k (qHj.2 a);rw [h] at this;exact this
 ·rw [Nat.shiftRight_eq_div_pow,Nat.div_eq_of_lt (qMn (m:=2 ^ 417) (by decide +kernel) (qNr (by decide) (by omega)))] at h;cases h
theorem qJl {α:Type} (c:α->List V) (l:List α) (i:Nat) (h:i < l.length):(l.map c).getD i []=c l[i]:=by simp [List.getD,h]
theorem a9 {a b c d e f g h i:Prop} (p:a) (q:b) (r:c) (s:d) (t:e) (u:f) (v:g) (w:h) (x:i):a/\b/\c/\d/\e/\f/\g/\h/\i:=⟨p,q,r,s,t,u,v,w,x⟩
def qGf:=(aN (aN Ty.c108 Ty.c236 Ty.c248 Ty.c268 Ty.c313 Ty.t104 Ty.t110 Ty.t112 Ty.t114) (aN Ty.t115 Ty.t118 Ty.t121 Ty.t133 Ty.t134 Ty.t135 Ty.t137 Ty.t143 Ty.t157) (aN Ty.t159 Ty.t161 Ty.t164 Ty.t165 Ty.t167 Ty.t174 Ty.t205 Ty.t207 Ty.t209) (aN Ty.t216 Ty.t22 Ty.t224 Ty.t230 Ty.t231 Ty.t24 Ty.t25 Ty.t258 Ty.t259) (aN Ty.t261 Ty.t265 Ty.t27 Ty.t29 Ty.t294 Ty.t3 Ty.t305 Ty.t31 Ty.t318) (aN Ty.t320 Ty.t326 Ty.t33 Ty.t337 Ty.t343 Ty.t35 Ty.t351 Ty.t37 Ty.t372) (aN Ty.t39 Ty.t398 Ty.t4 Ty.t41 Ty.t43 Ty.t45 Ty.t47 Ty.t5 Ty.t53) (aN Ty.t56 Ty.t57 Ty.t60 Ty.t62 Ty.t71 Ty.t73 Ty.t79 Ty.t82 Ty.t85) (aI Ty.t87 (aI Ty.t9 Ty.t93)))
def rU1:=(a9 (a9 (a9 results3 results7 results10 results12 results26 results60 results61 results62 results63) (a9 results89 results90 results91 results92 results25 results23 results24 results27 results33) (a9 results34 results36 results147 results148 results16 results17 results103 results149 results150) (a9 results151 results152 results153 results154 results155 results156 results157 results18 results158) (a9 results68 results69 results56 results174 results175 results19 results184 results185 results186) (a9 results187 results188 results159 results20 results160 results189 results190 results191 results192) (a9 results193 results194 results195 results196 results197 results21 results198 results199 results200) (a9 results201 results202 results203 results204 results205 results206 results207 results22 results208) (a9 results209 results210 results211 results212 results213 results214 results215 results216 results217)) (a9 (a9 results9 results53 results55 results57 results29 results232 results234 results39 results235) (a9 results168 results237 results58 results238 results105 results239 results240 results102 results104) (a9 results106 results107 results59 results254 results255 results256 results162 results241 results242) (a9 results257 results258 results259 results40 results260 results261 results262 results163 results13) (a9 results263 results264 results265 results266 results267 results41 results270 results272 results273) (a9 results274 results275 results276 results277 results42 results278 results279 results280 results281) (a9 results282 results283 results284 results285 results286 results287 results43 results288 results289) (a9 results290 results292 results293 results294 results44 results299 results71 results301 results302) (a9 results166 results167 results169 results45 results170 results171 results172 results173 results307)) (a9 (a9 results243 results244 results245 results246 results46 results247 results30 results31 results32) (a9 results308 results161 results309 results310 results311 results47 results316 results317 results318) (a9 results319 results320 results321 results322 results48 results323 results324 results325 results326) (a9 results327 results328 results330 results0 results49 results340 results341 results50 results249) (a9 results250 results303 results304 results65 results66 results67 results342 results343 results344) (a9 results345 results346 results350 results351 results352 results353 results52 results354 results355) (a9 results356 results357 results358 results359 results54 results64 results305 results97 results98) (a9 results72 results99 results100 results101 results372 results373 results374 results375 results376) (a9 results73 results379 results380 results381 results74 results164 results165 results386 results387)) (a9 (a9 results388 results393 results75 results394 results396 results397 results400 results401 results402) (a9 results4 results403 results404 results405 results406 results407 results408 results409 results410) (a9 results411 results412 results77 results413 results414 results415 results416 results78 results79) (a9 results80 results81 results82 results83 results84 results85 results5 results86 results37) (a9 results38 results93 results8 results15 results94 results35 results6 results95 results109) (a9 results111 results112 results113 results114 results115 results116 results96 results28 results117) (a9 results118 results119 results120 results121 results122 results123 results124 results125 results126) (a9 results11 results127 results128 results129 results130 results131 results132 results133 results134) (a9 results135 results14 results145 results70 trivial trivial trivial trivial trivial)) trivial trivial trivial trivial trivial)
def rU2:=(aI (aI (aI @zz.{0,0} @z7.{0,0}) (aI @Jx.{0,0} @qKv.{0})) (aI (aI qGs @yo.eq_1) (aI @Nb.eq_1 (aI @Nb.eq_2 @qJl))))
def rU:=aI rB (aI qGf (aI @qHg (aI rU1 rU2)))
variable {p:Prop}
theorem qa {q:Prop} (h:q) (e:p=q:=by(try simp only [↓rA,rU, *,simprocAttr]);exact rfl):p:=e▸h
theorem kK (h:p:=by simp only [↓rA,rU, *,simprocAttr]):p:=h
theorem qB {q:Prop} (h:q) (e:p=q:=by(try simp only [rU, *,simprocAttr]);exact rfl):p:=e▸h
theorem qA (h:p:=by simp only [rU, *,simprocAttr]):p:=h
theorem qn {q:Prop} (h:q) (e:p=q:=by(try simp only [↓rA,rU, *,zq,WR,simprocAttr]);exact rfl):p:=e▸h
theorem qnh (h:p:=by simp only [↓rA,rU, *,zq,WR,simprocAttr]):p:=h
variable {Q:V->Bx->List Row->Prop}
theorem oE {f:FuncId} {fn:Func} {c:Code} {args:List V} {a:Bx} (d:prog.funcs[f]? = some fn)
  (h:∀ F w0 I0,EX { P:=prog,N:=fn.ntmps,F:=F,w0:=w0,I0:=I0,M:=[] } [.code c] (S0 args a) (qp6 prog fn.results.toList Q)) (hb:fn.body=some c:=by rfl)
  (j:Nat.ble args.length fn.ntmps=true:=by kernel_rfl) (e:xH fn.ntmps [] c=true:=by kernel_rfl):Ok prog f args a Q :=
 Ok.of_ex Ty.mixed d hb (Nat.le_of_ble_eq_true j) e h
variable {rs:List Row}
theorem qX {a:Bx} {q r:Nat->Prop} (h:∀ b,q b->r b) (e:∀ b,Nb b a=q b:=by intro b;(try simp only [Nb]);exact rfl):∀ b,b ∉ qL a rs->r b :=
 fun b d=>h b (e b▸zS d)
theorem qQ {a b:Bool} (h:a=b):V.lit (.bool a)=.lit (.bool b):=by rw [h]
def tU:=aI qGf @qHg
theorem qb {a:Bx} {q r:Nat->Prop} (h:∀ b,q b->r b) (e:p=∀ b,b ∉ qL a rs->r b:=by(try simp only [↓rA,rU, *,simprocAttr]);exact rfl) (d:∀ b,Nb b a=q b:=by intro b;(try simp only [Nb]);exact rfl):p:=by
 rw [e];exact qX h d
theorem qe {v x:V} {j:Bx} (e:p=∃ w a d,Le v w/\a.Sublist j/\d.Sublist rs/\w=x/\a=[]/\d=[]:=by(try simp only [↓rA,rU, *,simprocAttr]);exact rfl) (h:v=x:=by rfl):p:=by
 rw [e];exact⟨v,[],[],Le.refl _,zn _,zn _,h,rfl,rfl⟩
theorem qi {P:Program} {g:FuncId} {d:List V} {a:Bx} {x:xp Q} (v:V) (h:zk P g d v) (j:Q v a []) (e:p=OkF P g d a Q x:=by(try simp only [↓rA,rU, *,simprocAttr]);exact rfl):p:=by
 rw [e];exact qo v h j
theorem qF {P:Program} {g:FuncId} {e:List V} {d:Bx} {x:xp Q} {Q0:V->Bx->List Row->Prop} (h:Ok P g e [] Q0) (j:∀ v a rs,Q0 v a rs->Q v (a++d) rs):OkF P g e d Q x:=qr [] _ (zp _) h j
theorem qW {P:Program} {g:FuncId} {j:List V} {d:Bx} {x:xp Q} {Q0:V->Bx->List Row->Prop} (h:Ok P g j [] Q0) (k:∀ v a rs,Q0 v a rs->Q v (a++d) rs) (e:p=OkF P g j d Q x:=by(try simp only [↓rA,rU, *,simprocAttr]);exact rfl):p:=by
 rw [e];exact qF h k
theorem lP {A:Bx} {B:List Row} {T:Bx->List Row->Prop} (h:T A B):∃ (a:Bx) (rs:List Row) (d:Bx) (e:List Row),a.Sublist A/\rs.Sublist B/\a.Perm d/\rs.Perm e/\T d e:=⟨_,_,_,_,zc _,zc _,zp _,zp _,h⟩
theorem r0 {v:V} {A:Bx} {B:List Row} (h:Q v [] []):∃ w a d,Le v w/\a.Sublist A/\d.Sublist B/\Q w a d:=⟨v,[],[],Le.refl _,zn _,zn _,h⟩
theorem pF {a b:Prop} (x:¬a:=by decide) (y:¬b:=by decide):a=b:=propext (iff_of_false x y)
end Go.Proofs.YtkdgbjhbpbgdeaaGreatDoor
namespace Go.VL
variable {P:Program} {Q:V->Bx->List Row->Prop}
theorem Ok.permR {f:FuncId} {args:List V} {a:Bx} {Q':V->Bx->List Row->Prop} (h:Ok P f args a Q) (F:∀ v a rs,Q v a rs->∃ d,a.Perm d/\Q' v d rs):Ok P f args a Q':=by
 intro w I J G q;refine(h w I J G q).mono fun e K ⟨x,v,d,n,o,z,H,C,A,D,u⟩=>?_;obtain⟨p,k,y⟩:=F v d n u;refine⟨x,v,p,n,o,z,H,C,A.perm k,fun b j=>D b ?_,y⟩;simp only [qL,z6] at j ⊢;exact j.imp (fun h=>(k.map (·.1)).mem_iff.2 h) id
theorem Ok.permL {f:FuncId} {args:List V} {d j:Bx} (h:Ok P f args d Q) (p:j.Perm d):Ok P f args j Q:=by
 intro w I K G y;have o:∀ b,b ∈ d.map (·.1)↔b ∈ j.map (·.1):=fun b=>(p.map (·.1)).mem_iff.symm;refine(h w I K G (y.perm p)).mono fun e L ⟨x,v,u,J,q,A,H,D,C,F,z⟩=>?_;exact⟨x,v,u,J,q,A,H,D.mono fun b a=>⟨a.1,fun k=>a.2 ((o b).1 k)⟩,C,fun b a n=>F b a ⟨n.1,fun k=>n.2 ((o b).1 k)⟩,z⟩
theorem Ok.frame {f:FuncId} {args:List V} {j:Bx} (lf:Bx) (h:Ok P f args j Q):Ok P f args (lf++j) fun v a rs=>∃ k,a=lf++k/\((lf++k).map (·.1)).Nodup/\Q v k rs:=by
 intro w I O G y
 let C:Ctx:={ P:=P,N:=0,F:=fun b=>b < w.heap.size/\b ∉ (lf++j).map (·.1),w0:=w,I0:=I,M:=[] }
 have A:kS C ⟨fun _=>.any,lf++j,[]⟩ w I:=⟨y,fun b d u=>u.2 (by simpa [qL] using d),qV.refl _ _ _,fun b d=>d.1⟩;refine(Ok.apply (C:=C) h A x8 G).mono fun e L ⟨x,v,a,J,q,D,H,K,n,z⟩=>?_;have p:(a++lf).Perm (lf++a):=x8;have o:=n.heap.perm p;rw [wl] at o;refine⟨x,v,lf++a,J,q,D,H,n.keeps,o,fun b d=>n.mine b ?_,a,rfl,(w4.1 o.nodup).1,z⟩;simp only [qL,z6,wl] at d ⊢;exact d.imp (fun h=>(p.map (·.1)).mem_iff.2 h) id
open Go.RowKit
theorem Ym {l:Nat} {y z:B}:∀ {l1 l2:Bx},l ∉ l1.map (·.1)->setX (l1++(l,y)::l2) l z=l1++(l,z)::l2
 | [],l2,_=>by simp [setX]
 | (b,c)::l1,l2,h=>by
  simp only [z7,xb,not_or] at h;simp only [List.cons_append,setX];rw [if_neg h.1,Ym h.2]
theorem kS.record {C S w I} {l:Nat} {x x':Obj} {l1 l2:Bx} (h:kS C S w I) (hb:S.boxes=l1++(l,.obj x)::l2) (o:∀ y,x' ≠ .deferred y) :
  w.heap[l]? = some x/\kS C (S.setBoxes (l1++(l,.obj x')::l2)) (w.putObj l x') I/\zf w I (w.putObj l x') I:=by
 have d:(l,B.obj x) ∈ S.boxes:=by rw [hb];simp
 have a:=h.heap.bx _ d;have k:l ∉ l1.map (·.1):=by
  have:=(w4.1 h.heap.nodup).1;rw [hb,k8,z7] at this;exact fun j=>(w4.1 this).2.2 l j l x6 rfl
 have n:VL.setX S.boxes l (.obj x')=l1++(l,.obj x')::l2:=by rw [hb,Ym k]
 have:=h.setX (o':=x') (z:=.obj x') (x9.2 ⟨_,d,rfl⟩) a.1 (fun p _ e _=>⟨e,o,a.2.2⟩);rw [n] at this;exact⟨a.1,this⟩
def qw3 (σ:Nat->V):Nat->V:=fun i=>match σ i with | .lit x=>.lit x | _=>.any
structure VK (N:Nat) (σ:Nat->V) (r:Loop):Prop where
 ready:r.state=.ready
 none:r.pending=none
 size:r.tmps.size=N
 lits:∀ i x,σ i=.lit x->r.tmps.getD i undef=x
def wV (σ:Nat->V) (ps:List Nat) (args:List V):Nat->V:=(ps.zip args).foldl (fun s q=>UI s (some q.1) q.2) (qw3 σ)
def qvt (l:Nat) (r:Loop) (Q:V->Bx->List Row->Prop):Exit->St->Prop
 | .normal,S=>∃ l1 l2 a,S.boxes=l1++(l,.obj (.loop { r with state:=.busy }))::l2/\a.Sublist (l1++l2)/\Q (.lit (.bool true)) ((l,.obj (.loop r))::a) []
 | .ret,S=>∃ l1 l2 a,S.boxes=l1++(l,.obj (.loop { r with state:=.busy }))::l2/\a.Sublist (l1++l2)/\Q (.lit (.bool false)) ((l,.obj (.loop { r with state:=.done,pending:=some .ret }))::a) []
 | .exit i,S=>∃ l1 l2 a,S.boxes=l1++(l,.obj (.loop { r with state:=.busy }))::l2/\a.Sublist (l1++l2)/\Q (.lit (.bool false)) ((l,.obj (.loop { r with state:=.done,pending:=some (.exit i) }))::a) []
 | _,_=>False
theorem qgg {w:World} {I:Cells}:∀ {ps:List Nat} {args:List V} {xs:List Value} {σ:Nat->V} {tmps:Array Value},(∀ p ∈ ps,p < tmps.size)->V.reps w I args xs->(∀ i,V.rep w I (σ i) (tmps.getD i undef)) ->
  ((ps.zip xs).foldl (fun t q=>t.setIfInBounds q.1 q.2) tmps).size=tmps.size/\∀ i,V.rep w I ((ps.zip args).foldl (fun s q=>UI s (some q.1) q.2) σ i) (((ps.zip xs).foldl (fun t q=>t.setIfInBounds q.1 q.2) tmps).getD i undef)
 | [],_,_,_,_,_,_,h=>⟨by simp,by simp_all⟩
 | p::ps,[],[],_,_,_,_,h=>⟨by simp,by simp_all⟩
 | p::ps,v::args,x::xs,σ,tmps,hp,hr,h=>by
  simp only [V.reps] at hr;simp only [List.zip_cons_cons,List.foldl_cons];have j:(tmps.setIfInBounds p x).size=tmps.size:=by simp
  have:=qgg (ps:=ps) (args:=args) (xs:=xs) (σ:=UI σ (some p) v) (tmps:=tmps.setIfInBounds p x) (fun q d=>by simp_all) hr.2 fun i=>by
   by_cases e:p=i
   ·subst e;have a:=hp p x6;simp only [UI,if_true,qOs, qQc a,Option.getD_some];exact hr.1
   ·simp only [UI,qAo,e,if_false,qOs, qQt e];simp_all
  simp_all
 | _::_,[],_::_,_,_,_,hr,_=>by simp [V.reps] at hr
 | _::_,_::_,[],_,_,_,hr,_=>by exact qD
theorem wX.front {w I rows} {l:Nat} {z:B} {l1 l2 a:Bx} (h:wX w I (l1++(l,z)::l2) rows) (d:a.Sublist (l1++l2)):wX w I ((l,z)::a) [] :=
 (h.perm ux).sub (List.Sublist.cons_cons _ d) (zn _)
variable {ps:Array Tmp}
theorem Q3.of_round {l N:Nat} {M:List (Nat × Nat)} {σ:Nat->V} {r:Loop} {args:List V} {G:Bx} {assign body:Code} (Z:P.follows .mixedOrders=true) (z:VK N σ r) (ai:r.params=ps) (has:r.assign=assign) (ae:r.body=body)
  (aq:ps.size=args.length) (ap:∀ p ∈ ps.toList,p < N) (ag:xH N M assign=true) (ah:xH N M body=true)
  (h:∀ F w0 I0,EX { P:=P,N:=N,F:=F,w0:=w0,I0:=I0,M:=M,r:=some l } [.code assign,.stop fun S=>∃ l1 l2,S.boxes=l1++(l,.obj (.loop r))::l2 /\
   EX { P:=P,N:=N,F:=F,w0:=w0,I0:=I0,M:=M,r:=some l } [.code body] (S.setBoxes (l1++(l,.obj (.loop { r with state:=.busy }))::l2)) (qvt l r Q)] ⟨wV σ ps.toList args,(l,.obj (.loop r))::G,[]⟩ (fun _ _=>False)) :
  Q3 P l args ((l,.obj (.loop r))::G) Q:=by
 subst ai has ae;intro w I xs aa X;have hw:w.heap[l]? = some (.loop r):=(X.bx (l,.obj (.loop r)) x6).1;have ar:=qM aa;refine⟨r.fn,_,r.assign,r.body,run_yield hw (by simp_all),roundIn_of_wpIn trivial ?_⟩
 let C:Ctx:={ P:=P,N:=N,F:=fun b=>b < w.heap.size/\b ∉ (((l,B.obj (.loop r))::G).map (·.1)),w0:=w,I0:=I,M:=M,r:=some l }
 have Y:=qgg (w:=w) (I:=I) (ps:=r.params.toList) (args:=args) (xs:=xs) (σ:=qw3 σ) (tmps:=r.tmps) (fun p hp=>by rw [z.size];simp_all) aa fun i=>by
  unfold qw3;split
  ·rename_i x hx;simp only [V.rep];exact z.lits i x hx
  ·simp only [V.rep]
 have ad:(r.params.zip xs.toArray).foldl (fun tmps (t,a)=>tmps.setIfInBounds t a) r.tmps=(r.params.toList.zip xs).foldl (fun t q=>t.setIfInBounds q.1 q.2) r.tmps:=by
  rw [<-qPt,Array.toList_zip]
 rw [ad];have an:Γ C ⟨wV σ r.params.toList args,(l,.obj (.loop r))::G,[]⟩ { tmps:=(r.params.toList.zip xs).foldl (fun t q=>t.setIfInBounds q.1 q.2) r.tmps,defers:=[] } w I :=
  ⟨⟨Y.1.trans z.size,⟨qOb,fun d hd=>by cases hd⟩,Y.2⟩,⟨X,fun b A hF=>hF.2 (by simpa [qL] using A),qV.refl _ _ _,fun b A=>A.1⟩⟩
 refine wpIn_mono (wH (C:=C) Z r.assign _ _ ag (h _ _ _) _ w I an) fun e a1 w1 ⟨S1,I1,ac,hq⟩=>?_;cases e with
 | normal =>
  obtain⟨l1,l2,A,af⟩:=hq;obtain⟨al,hW,ak⟩:=ac.2.record A (x':=.loop { r with state:=.busy }) (fun y e=>by cases e);refine⟨_,run_beginRound al z.ready,?_⟩;refine wpIn_mono (wH (C:=C) Z r.body _ _ ah af a1 _ I1 ⟨ac.1.mono ak,hW⟩) fun e2 a2 w2 ⟨S2,I2,ao,J⟩=>?_;have fin:∀ (j:Option Code) (D:Loop) (l1 l2 k:Bx),S2.boxes=l1++(l,.obj (.loop { r with state:=.busy }))::l2->k.Sublist (l1++l2)->Q (.lit (.bool j.isNone)) ((l,.obj (.loop D))::k) [] ->
    ({ ({ r with state:=.busy }:Loop) with state:=if j.isNone then .ready else .done,pending:=j }:Loop)=D ->
    ∃ v K,(Instr.endRound l j).run P w2=.ok v K/\∃ x v' O T L,Ending.returned v=.returned x/\V.rep K L v' x/\qV C.F w I K L/\wX K L O T/\(∀ b ∈ qL O T,¬ C.F b)/\Q v' O T:=by
   intro j D l1 l2 k u n o aj;obtain⟨am,R,_⟩:=ao.2.record u (x':=.loop D) (fun y e=>by cases e);have ab:=run_endRound (P:=P) j am;rw [aj] at ab;refine⟨_,_,ab,_,.lit (.bool j.isNone),(l,.obj (.loop D))::k,[],I2,rfl,by rfl,R.keeps,R.heap.front n,fun b H=>R.mine b ?_,o⟩;simp only [qL,z7,List.filterMap_nil,wl,xb,St.setBoxes,k8,z6] at H ⊢;rcases H with rfl | H
   ·simp
   ·have:=(n.map (·.1)).subset H;rw [k8,z6] at this;exact .inl (this.imp id .inr)
  cases e2 with
  | normal =>
   obtain⟨l1,l2,k,u,n,o⟩:=J;exact fin none r l1 l2 k u n o (by
    have U:=z.ready;have W:=z.none;cases r;simp only at U W;subst U;subst W;rfl)
  | ret =>
   obtain⟨l1,l2,k,u,n,o⟩:=J;exact fin (some .ret) _ l1 l2 k u n o rfl
  | exit i =>
   obtain⟨l1,l2,k,u,n,o⟩:=J;exact fin (some (.exit i)) _ l1 l2 k u n o rfl
  | goto t=>exact J.elim
  | panic c=>assumption
  | outgrown=>assumption
 | ret=>assumption
 | exit i=>assumption
 | goto t=>assumption
 | panic c=>assumption
 | outgrown=>assumption
theorem kS.addObj {C S w I} (h:kS C S w I) (o:Obj) (k:∀ y,o ≠ .deferred y):kS C (S.addB w.heap.size (.obj o)) (w.alloc o) I/\zf w I (w.alloc o) I:=by
 have a:=h.alloc o;have n:zf w I (w.alloc o) I:=(qV.new o h.heap.inn).stays;refine⟨⟨⟨fun p e=>?_,a.heap.rw,?_,a.heap.inn,a.heap.glob⟩,fun b d=>?_,a.keeps,a.lo⟩,n⟩
 ·rcases xb.1 e with rfl | e
  ·exact⟨yB w _,k,fun i j=>by have:=h.heap.inn _ _ j;omega⟩
  ·exact a.heap.bx p e
 ·simp only [qL,St.addB,z7,List.cons_append,js];exact⟨h.fresh,h.heap.nodup⟩
 ·simp only [qL,St.addB,z7,List.cons_append,xb] at d;rcases d with rfl | d
  ·exact h.notF
  ·exact h.mine b d
theorem UD {C:Ctx} {k:List It} {S:St} {Q:Exit->St->Prop} {g:Operand} {assign body:Code} (hr:C.r=none) {gf:FuncId} {first cap:Array Value} (hg:ev S.σ g=.lit (.func (.func gf) first cap)) (hB:zg C.P gf=true)
  (Z lf:Bx) (hp:S.boxes.Perm (Z++lf)) (Y:Nat->Loop->V->Bx->List Row->Prop)
  (it:∀ (l:Nat) (r:Loop),l ∉ qL S.boxes S.rows->VK C.N S.σ r->r.params=ps->r.assign=assign->r.body=body ->
   Ok C.P gf (first.toList.map .lit++[.lit (.func (.yield l) #[] #[])]++cap.toList.map .lit) ((l,.obj (.loop r))::Z) (Y l r))
  (H:∀ (l:Nat) (r:Loop) v q rs,VK C.N S.σ r->Y l r v q rs->∃ j,(q=(l,.obj (.loop r))::j/\(((j++lf).map (·.1)).Nodup->EX C k ((S.setBoxes (j++lf)).setRows (rs++S.rows)) Q))∨(q=(l,.obj (.loop { r with state:=.done,pending:=some .ret }))::j/\(((j++lf).map (·.1)).Nodup->EX C (.code .ret::k) ((S.setBoxes (j++lf)).setRows (rs++S.rows)) Q))) :
  xo C (.rangeFunc g ps assign body) S (zM C k Q):=by
 intro a w I h;have ak:C.fe=Fence.wide:=by unfold Ctx.fe;rw [hr]
 refine wpIn_rangeFunc fun fn _=>?_;have W:=h.ev g;rw [hg] at W;simp only [V.rep] at W
 let r:Loop:={ state:=.ready,pending:=none,fn,tmps:=a.tmps,params:=ps,assign,body,defers:=w.heap.size }
 have af:VK C.N S.σ r:=⟨rfl,rfl,h.1.size,fun i x U=>by
  have:=h.1.tmps i;rw [U] at this;assumption⟩
 have ac:=h.2.alloc (.deferred (some []));have aa:zf w I (w.alloc (.deferred (some []))) I:=(qV.new _ h.2.heap.inn).stays;obtain⟨ad,L⟩:=ac.addObj (.loop r) (fun y e=>by cases e);have ag:(w.alloc (.deferred (some []))).heap.size=w.heap.size+1:=by simp
 rw [ag] at ad;have ai:w.heap.size+1 ∉ qL S.boxes S.rows:=by have:=ac.fresh;rwa [ag] at this
 have aj:(resolve a.eval (rangeCall g (w.heap.size+1)) 0).run C.P ((w.alloc (.deferred (some []))).alloc (.loop r))=.ok { target:=.fn (.func gf) cap,args:=first++#[.func (.yield (w.heap.size+1)) #[] #[]] } ((w.alloc (.deferred (some []))).alloc (.loop r)):=by
  simp only [resolve,W,Deferred.ofValue,Sem.run_pure,List.map_toArray,z7,Jx];rfl
 have ah:(Instr.enterLoop fn a.tmps ps assign body C.fe.round).run C.P w=.ok (w.heap.size+1,[{ target:=.collected w.heap.size,args:=#[] }]) ((w.alloc (.deferred (some []))).alloc (.loop r)):=by
  rw [C.fe_round,hr];exact run_enterLoop_outer fn a.tmps ps assign body
 refine⟨w.heap.size+1,_,_,_,_,gf,first++#[.func (.yield (w.heap.size+1)) #[] #[]]++cap,(w.alloc (.deferred (some []))).alloc (.loop r),ah,aj,fun f' _=>C.fe_fn f',?_,fun hd=>absurd hd (by rw [C.fe_depth];decide),?_⟩
 ·simp only [invoke];exact yW hB
 have hD:(w.alloc (.deferred (some []))).heap[w.heap.size]? = some (.deferred (some [])):=yB w _;have ae:=(it (w.heap.size+1) r ai af rfl rfl rfl).apply (C:=C) (lf:=lf) ad (List.Perm.cons _ hp) (xs:=first.toList++[.func (.yield (w.heap.size+1)) #[] #[]]++cap.toList)
  (qC (qC (xg first.toList) (by simp [V.reps,V.rep])) (xg cap.toList))
 have e:(first.toList++[Value.func (.yield (w.heap.size+1)) #[] #[]]++cap.toList).toArray=first++#[.func (.yield (w.heap.size+1)) #[] #[]]++cap:=by
  apply qMc;simp
 rw [e] at ae;refine ya (ae.mono fun en p U=>?_);obtain⟨x,v,q,X,o,he,hv,M,ab,hQ⟩:=U;subst he;obtain⟨j,⟨rfl,H⟩ | ⟨rfl,H⟩⟩:=H _ r v q X af hQ
 ·obtain⟨T,n,F⟩:=ab.record (l1:=[]) (l2:=j++lf) (x:=.loop r) (x':=.loop { r with state:=.exhausted }) rfl (fun y e=>by cases e);refine⟨_,_,run_endLoop T (by simp),?_⟩;have G:zf w I (p.putObj (w.heap.size+1) (.loop { r with state:=.exhausted })) o:=((aa.trans L).trans M).trans F;have O:(p.putObj (w.heap.size+1) (.loop { r with state:=.exhausted })).heap[w.heap.size]? = some (.deferred (some [])):=F.2 _ _ (M.2 _ _ (L.2 _ _ hD));have K:Γ C ((S.setBoxes (j++lf)).setRows (X++S.rows)) { a with defers:=[{ target:=.collected w.heap.size,args:=#[] }]++a.defers } (p.putObj (w.heap.size+1) (.loop { r with state:=.exhausted })) o:=by
   refine⟨⟨h.1.size,⟨?_,fun d hd=>?_⟩,fun i=>V.rep_mono G _ _ (h.1.tmps i)⟩,?_⟩
   ·simp only [List.singleton_append,js];refine⟨fun R=>?_,h.1.defers.1⟩;obtain⟨D,u,z,A⟩:=h.1.defers.2 _ R;simp_all
   ·simp only [List.singleton_append,xb] at hd;rcases hd with rfl | hd
    ·exact⟨_,rfl,h.2.keeps.size,O⟩
    ·obtain⟨D,u,z,A⟩:=h.1.defers.2 d hd;exact⟨D,u,z,G.2 _ _ A⟩
   ·have N:=n.heap;have J:(j++lf).Sublist ((w.heap.size+1,B.obj (.loop { r with state:=.exhausted }))::(j++lf)):=qN7 _ _;exact⟨N.sub J (zc _),fun b P=>n.mine b ((qMs (J.map _) (zc _)).subset P),n.keeps,n.lo⟩
  exact⟨_,o,K,H (w4.1 K.2.heap.nodup).1⟩
 ·obtain⟨T,n,F⟩:=ab.record (l1:=[]) (l2:=j++lf) (x:=.loop { r with state:=.done,pending:=some .ret }) (x':=.loop { ({ r with state:=.done,pending:=some .ret }:Loop) with state:=.exhausted }) rfl (fun y e=>by cases e);refine⟨_,_,run_endLoop T (by simp),?_⟩;have G:zf w I (p.putObj (w.heap.size+1) (.loop { ({ r with state:=.done,pending:=some .ret }:Loop) with state:=.exhausted })) o:=((aa.trans L).trans M).trans F;have O:(p.putObj (w.heap.size+1) (.loop { ({ r with state:=.done,pending:=some .ret }:Loop) with state:=.exhausted })).heap[w.heap.size]? = some (.deferred (some [])):=F.2 _ _ (M.2 _ _ (L.2 _ _ hD));have K:Γ C ((S.setBoxes (j++lf)).setRows (X++S.rows)) { a with defers:=[{ target:=.collected w.heap.size,args:=#[] }]++a.defers } (p.putObj (w.heap.size+1) (.loop { ({ r with state:=.done,pending:=some .ret }:Loop) with state:=.exhausted })) o:=by
   refine⟨⟨h.1.size,⟨?_,fun d hd=>?_⟩,fun i=>V.rep_mono G _ _ (h.1.tmps i)⟩,?_⟩
   ·simp only [List.singleton_append,js];refine⟨fun R=>?_,h.1.defers.1⟩;obtain⟨D,u,z,A⟩:=h.1.defers.2 _ R;simp_all
   ·simp only [List.singleton_append,xb] at hd;rcases hd with rfl | hd
    ·exact⟨_,rfl,h.2.keeps.size,O⟩
    ·obtain⟨D,u,z,A⟩:=h.1.defers.2 d hd;exact⟨D,u,z,G.2 _ _ A⟩
   ·have N:=n.heap;have J:(j++lf).Sublist ((w.heap.size+1,B.obj (.loop { ({ r with state:=.done,pending:=some .ret }:Loop) with state:=.exhausted }))::(j++lf)):=qN7 _ _;exact⟨N.sub J (zc _),fun b P=>n.mine b ((qMs (J.map _) (zc _)).subset P),n.keeps,n.lo⟩
  exact wpIn_ret ⟨_,o,K,H (w4.1 K.2.heap.nodup).1⟩
theorem wY {C:Ctx} {k:List It} {S:St} {Q:Exit->St->Prop} {g:Operand} {assign body:Code} (w:C.r=none) {gf:FuncId} {first cap:Array Value} (p:ev S.σ g=.lit (.func (.func gf) first cap)) (o:zg C.P gf=true)
  (e lf:Bx) (u:S.boxes.Perm (e++lf)) (d:Nat->Loop->V->Bx->List Row->Prop)
  (it:∀ (l:Nat) (r:Loop),l ∉ qL S.boxes S.rows->VK C.N S.σ r->r.params=ps->r.assign=assign->r.body=body ->
   Ok C.P gf (first.toList.map .lit++[.lit (.func (.yield l) #[] #[])]++cap.toList.map .lit) ((l,.obj (.loop r))::e) (d l r))
  (q:∀ (l:Nat) (r:Loop) v a rs,VK C.N S.σ r->d l r v a rs->∃ h,a=(l,.obj (.loop r))::h/\(((h++lf).map (·.1)).Nodup->EX C k ((S.setBoxes (h++lf)).setRows (rs++S.rows)) Q)) :
  xo C (.rangeFunc g ps assign body) S (zM C k Q) :=
 UD w p o e lf u d it fun l r v a rs j n=>let ⟨b,h3⟩:=q l r v a rs j n;⟨b,.inl h3⟩
theorem jE {C:Ctx} {c:Code} {k:List It} {S:St} {Q:Exit->St->Prop} {α:Type} (H:C.P.follows .mixedOrders=true) (G:xH C.N C.M c=true) (a:α->Nat) (T:α->St->Prop) (x:α) (p:Qg (T x) S)
  (round:∀ x S,T x S->EX C (.code c::.stop (fun S'=>∃ y,a y < a x/\Qg (T y) S')::k) S Q):xo C (.loop c) S (zM C k Q):=by
 have j:∀ {A B:St->Prop} {S},(∀ S,A S->B S)->Qg A S->Qg B S:=fun F ⟨n,K,o,L,q,u,w,z,h⟩=>⟨n,K,o,L,q,u,w,z,F _ h⟩;refine xo.loopP (fun m S=>∃ x,a x=m/\T x S) (a x) (j (fun S h=>⟨x,rfl,h⟩) p) fun m S ⟨x,I,D⟩=>?_;subst I;refine wH H c S _ G (ku (fun e S' d=>?_) (show ue C c S _ from round x S D));cases e <;> first | exact d | (obtain⟨y,J,d⟩:=d;exact⟨a y,J,j (fun S h=>⟨y,rfl,h⟩) d⟩)
theorem Ys {w:World} {I:Cells}:∀ {vs us:List V} {xs:List Value},V.reps w I (vs++us) xs->V.reps w I vs (xs.take vs.length)/\V.reps w I us (xs.drop vs.length)
 | [],us,xs,h=>⟨by simp [V.reps],by simp_all⟩
 | v::vs,us,[],h=>by simp [V.reps] at h
 | v::vs,us,x::xs,h=>by
  simp only [List.cons_append,V.reps] at h;obtain⟨a,d⟩:=Ys h.2;exact⟨by simp only [List.length_cons,List.take_succ_cons,V.reps];simp_all,by simp_all⟩
theorem U2 {w:World} {I:Cells}:∀ {vs us:List V} {xs a:List Value},V.reps w I vs xs->V.reps w I us a->V.reps w I (vs++us) (xs++a)
 | [],us,[],a,_,h=>by simp_all
 | [],us,_::_,a,h,_=>by simp [V.reps] at h
 | v::vs,us,[],a,h,_=>by simp [V.reps] at h
 | v::vs,us,x::xs,a,h,h'=>by
  simp only [List.cons_append,V.reps] at h ⊢;exact⟨h.1,U2 h.2 h'⟩
theorem X9 {w:World} {I:Cells}:∀ {ls xs:List Value},V.reps w I (ls.map .lit) xs->xs=ls
 | [],[],_=>rfl
 | [],_::_,h=>by simp [V.reps] at h
 | _::_,[],h=>by simp [V.reps] at h
 | l::ls,x::xs,h=>by
  simp only [z7,V.reps,V.rep] at h;rw [h.1,X9 h.2]
section
variable {α β:Type}
theorem Jd {c:α->List β} {k:Nat} (hc:∀ x,(c x).length=k):∀ (l:List α) (i:Nat),(l.map c).flatten.drop (i * k)=((l.drop i).map c).flatten
 | l,0=>by simp
 | [],i+1=>by simp
 | x::l,i+1=>by
  have:=Jd hc l i;rw [z7,qKs,qL1,<-this,uu,qOo,qQu,<-qK1,qK3 (hc x)]
theorem qsv {c:α->List β} {k:Nat} (hc:∀ x,(c x).length=k) (l:List α) (rest:List β) (i:Nat) (a:i < l.length):(((l.map c).flatten++rest).drop (i * k)).take k=c l[i]:=by
 have d:∀ l:List α,(l.map c).flatten.length=l.length * k:=fun l=>by
  induction l with
  | nil=>simp
  | cons x l e=>simp only [z7,List.flatten_cons,zr,hc,e,List.length_cons,uu,qOo];omega
 rw [qPe (by rw [d];exact qG4 _ (qO9 a)),Jd hc,qGt a,z7,qKs,jm,qBf (hc _)]
end
theorem yf.ats:∀ {l a:List V},yf l a->∀ {w I b o},V.ats w I l b o->V.ats w I a b o
 | _,_,.nil,_,_,_,_,h=>h
 | _,_,.cons h r,w,I,b,o,h'=>by
  simp only [V.ats] at h' ⊢;obtain⟨⟨x,d,e,j,k⟩,n⟩:=h';exact⟨⟨x,d,e,j,h w I x k⟩,r.ats n⟩
theorem yf.length:∀ {l a:List V},yf l a->a.length=l.length
 | _,_,.nil=>rfl
 | _,_,.cons _ r=>by simp [r.length]
inductive LeR:List (List V)->List (List V)->Prop
 | nil:LeR [] []
 | cons {e e':List V} {l l':List (List V)} (h:yf e e') (r:LeR l l'):LeR (e::l) (e'::l')
theorem LeR.length:∀ {l l'},LeR l l'->l'.length=l.length
 | _,_,.nil=>rfl
 | _,_,.cons _ r=>by simp [r.length]
theorem LeR.lies {k:Nat}:∀ {l l'},LeR l l'->∀ {w I b o},V.lies w I k l b o->V.lies w I k l' b o
 | _,_,.nil,_,_,_,_,h=>h
 | _,_,.cons h r,w,I,b,o,h'=>by
  simp only [V.lies] at h' ⊢;exact⟨h.ats h'.1,by rw [h.length];omega,r.lies h'.2.2⟩
theorem yf.same:∀ l:List V,yf l l
 | []=>.nil
 | v::l=>.cons (Le.refl v) (yf.same l)
theorem LeR.same:∀ l:List (List V),LeR l l
 | []=>.nil
 | e::l=>.cons (yf.same e) (LeR.same l)
theorem LeR.append {l l' m m'}:LeR l l'->LeR m m'->LeR (l++m) (l'++m')
 | .nil,h=>h
 | .cons h r,h'=>.cons h (r.append h')
theorem Le.rows {own:Option Value} {k:Nat} {es d:List (List V)} (h:LeR es d):Le (.list own k es) (.list own k d):=fun w I x e=>by
 simp only [V.rep] at e ⊢;obtain⟨j,a,c,u,y,n⟩:=e;refine⟨j,a,c,by rw [h.length];omega,by rw [h.length];omega,?_⟩;rcases n with rfl | ⟨b,o,p,q⟩
 ·cases h;simp
 ·exact .inr ⟨b,o,p,h.lies q⟩
theorem Γ.le {C S a w I} (h:Γ C S a w I) {i:Nat} {v:V} (e:Le (S.σ i) v):Γ C (S.put (some i) v) a w I:=by
 refine⟨⟨h.1.size,h.1.defers,fun j=>?_⟩,⟨h.2.heap,h.2.mine,h.2.keeps,h.2.lo⟩⟩;have:=h.1.tmps j;simp only [St.put,UI];by_cases d:i=j
 ·subst d;simpa using e _ _ _ this
 simp_all
theorem xo.le {C c S Q} (i:Nat) (v:V) (d:Le (S.σ i) v) (h:xo C c (S.put (some i) v) Q):xo C c S Q :=
 fun a w I e=>h a w I (e.le d)
def qos (T:St->Prop) (S:St):Prop:=∃ i v,Le (S.σ i) v/\qmx T (S.put (some i) v)
theorem xo.loopW {C c S Q} (J:Nat->St->Prop) (n:Nat) (d:qos (J n) S) (round:∀ n S,J n S->xo C c S (kw (fun S'=>∃ m,m < n/\qos (J m) S') Q)):xo C (.loop c) S Q:=by
 obtain⟨i,v,j,p,q,h,k,d⟩:=d;have main:xo C (.loop c) (((S.put (some i) v).setBoxes p).setRows q) Q:=xo.loop J n d fun n S z=>by
  intro a w I o;refine wpIn_mono (round n S z a w I o) fun e F G ⟨S',u,x,y⟩=>?_;cases e with
  | normal =>
   obtain⟨m,D,i,v,j,p,q,h,k,A⟩:=y;exact⟨_,u,(x.le j).lose h k,m,D,A⟩
  | _=>assumption
 exact fun a w I o=>main a w I ((o.le j).lose h k)
theorem qF7 {C:Ctx} {c:Code} {k:List It} {S:St} {Q:Exit->St->Prop} (z:C.P.follows .mixedOrders=true) (y:xH C.N C.M c=true) (N:Nat) (T:Nat->St->Prop) (w:qos (T 0) S)
  (round:∀ i S,i < N->T i S->EX C (.code c::.stop (fun S'=>qos (T (i+1)) S')::k) S Q) (last:∀ S,T N S->EX C (.code c::.stop (fun _=>False)::k) S Q):xo C (.loop c) S (zM C k Q):=by
 refine xo.loopW (fun m S=>∃ i,i<=N/\m=N - i/\T i S) N (by obtain⟨i,v,n,d,p,j,o,h⟩:=w;exact⟨i,v,n,d,p,j,o,0,KM _,rfl,h⟩) fun m S ⟨i,D,F,u⟩=>?_;have mono:∀ {K q:St->Prop},(∀ S,K S->q S)->EX C (.code c::.stop K::k) S Q->xo C c S (kw q (zM C k Q)):=fun x h=>by
  refine wH z c S _ y (ku (fun e S' a=>?_) (show ue C c S _ from h));cases e <;> first | exact x _ a | exact a
 rcases qNb i N with h | h
 ·exact mono (fun S' ⟨A,v,n,d,p,j,o,a⟩=>⟨N - (i+1),by omega,A,v,n,d,p,j,o,i+1,h,rfl,a⟩) (round i S h u)
 ·obtain rfl:i=N:=by omega
  exact mono (fun S' a=>a.elim) (last S u)
abbrev dl (L:List Nat) (f:Nat->B):Bx:=L.map fun b=>(b,f b)
def Zb (f:Nat->B) (b:Nat) (z:B):Nat->B:=fun x=>if x=b then z else f x
theorem vh (f:Nat->B) (b:Nat) (z:B):Zb f b z b=z:=if_pos rfl
variable {b:Nat}
theorem JG (f:Nat->B) {x:Nat} (z:B) (h:x ≠ b):Zb f b z x=f x:=if_neg h
variable {f:Nat->B} {L:List Nat}
theorem qlr {z:B} (h:b ∉ L):dl L (Zb f b z)=dl L f :=
 qLu fun x a=>by rw [JG _ _ fun e:x=b=>h (by simp_all)]
theorem JL (hb:b ∈ L):(dl L f).Perm ((b,f b)::dl (L.erase b) f):=(List.perm_cons_erase hb).map _
theorem qyr {z:B} (hb:b ∈ L) (a:L.Nodup):(dl L (Zb f b z)).Perm ((b,z)::dl (L.erase b) f):=by
 have h:=JL (f:=Zb f b z) hb;rw [vh,qlr (L:=L.erase b) (fun h=>(List.Nodup.mem_erase_iff a).1 h |>.1 rfl)] at h;exact h
theorem qcv {f:Nat->B} {b:Nat}:∀ {L:List Nat} {ks es cl},b ∈ L->f b=.m ks es cl->wq (dl L f) b=some (ks,es,cl)
 | x::L,ks,es,cl,hb,h=>by
  by_cases e:b=x
  ·subst e;simp only [dl,z7,h,wq,if_true]
  ·have d:b ∈ L:=(xb.1 hb).resolve_left e;have a:=qcv (L:=L) d h;simp only [dl,z7] at a ⊢;cases j:f x <;> simp only [wq,e,if_false] <;> exact a
theorem Ok.dl {P:Program} {fn:FuncId} {args:List V} {X:Bx} {Q0:V->B->List Row->Prop} (hb:b ∈ L) (j:L.Nodup)
  (h:Ok P fn args (X++[(b,f b)]) fun v d rs=>∃ a,d=X++[(b,a)]/\Q0 v a rs):Ok P fn args (X++VL.dl L f) fun v d rs=>∃ a,d=X++VL.dl L (Zb f b a)/\Q0 v a rs:=by
 refine Ok.permR (Ok.permL (Ok.frame (VL.dl (L.erase b) f) h) ?_) ?_
 ·refine((JL (f:=f) hb).append_left X).trans ?_;refine(qN9 X (x8 (l₁:=[(b,f b)]) (l₂:=VL.dl (L.erase b) f))).trans ?_;rw [<-jm];exact(x8.append_right _).trans (qKy (jm _ _ _))
 ·rintro v d rs ⟨k,rfl,_,a,rfl,e⟩;refine⟨X++VL.dl L (Zb f b a),?_,a,rfl,e⟩;refine List.Perm.trans ?_ ((qyr (f:=f) (z:=a) hb j).symm.append_left X);refine List.Perm.trans ?_ (qN9 X (x8 (l₁:=VL.dl (L.erase b) f) (l₂:=[(b,a)])));rw [<-jm,<-jm];exact x8.append_right _
section
variable {hc:Option Bool} {ops:Array Oper} {md:Region.Mode}
def j7 (listed:Array Bool):Nat->Bool:=fun i=>listed.getD i false
def qdk (L:Nat->Bool) (i:Nat):Nat->Bool:=fun j=>if j=i then true else L j
theorem uC {C:Ctx} {Q:Exit->Act->World->Prop} (Inv:(Nat->Bool)->St->Prop) (ac:qcl md ops=true) (_hd:∀ (i:Nat) (o:Oper),ops[i]? = some o->zH C.N o=true)
  (step:∀ (L:Nat->Bool) (S:St) (i:Nat) (o:Oper),ops[i]? = some o->L i=false->(∀ e ∈ o.after,Region.binds md e=true->L e.on=true)->Inv L S->∀ (a:Act) (w:World) (I:Cells) (O:Act->World->Prop),Γ C S a w I->(∀ S' x G H,Γ C S' x G H->Inv (qdk L i) S'->O x G)->wpOpIn C.fe 0 C.P ops Q i O a w)
  (hQ:∀ (L:Nat->Bool) S a w I,(∀ i,i < ops.size->L i=true)->Γ C S a w I->Inv L S->Q .normal a w) :
  ∀ (f:Nat) (listed:Array Bool) (S:St) (a:Act) (w:World) (I:Cells),listed.size=ops.size->qoy md ops listed->(leftOf ops listed).length=f->Γ C S a w I->Inv (j7 listed) S->wpAnyIn C.fe 0 C.P md ops Q f listed a w:=by
 intro f
 induction f with
 | zero =>
  intro listed S a w I ag U y N h;have ak:leftOf ops listed=[]:=qMy.1 y;have ai:∀ i,i < ops.size->listed.getD i true=true:=fun i z=>by
   by_cases ab:listed.getD i true=true
   ·omega
   ·have:i ∈ leftOf ops listed:=by simp only [leftOf,qA6,qHj];exact⟨z,by simp_all⟩
    simp_all
  refine⟨?_,hQ _ S a w I (fun i z=>by unfold j7;simp_all) N h⟩;cases hr:Region.ready md ops listed with
  | nil=>rfl
  | cons i r =>
   obtain⟨J,P,_⟩:=Kc (md:=md) (ops:=ops) (listed:=listed) (i:=i) (by simp_all);simp_all
 | succ f ih =>
  intro listed S a w I ag U y N h;refine⟨fun h0=>?_,fun i z=>?_⟩
  ·cases X:leftOf ops listed with
   | nil=>simp_all
   | cons i r =>
    have q:i ∈ leftOf ops listed:=by rw [X];exact x6
    simp only [leftOf,qA6,qHj,qMv] at q;have aj:∀ j,j < i->listed.getD j true=true:=fun j hj=>by
     by_cases ab:listed.getD j true=true
     ·omega
     ·have D:j ∈ leftOf ops listed:=by simp only [leftOf,qA6,qHj];exact⟨by omega,by simp_all⟩
      have u:(leftOf ops listed).Pairwise (· < ·):=qOd _ qO6;rw [X] at D u;rcases xb.1 D with rfl | D
      ·omega
      ·have:=(vt.1 u).1 j D;omega
    have:i ∈ Region.ready md ops listed:=qe2 q.1 q.2 fun o F e p n=>by
     have J:=qah ac F p n;rw [Kx (by omega)];simp_all
    simp_all
  ·obtain⟨J,P,R⟩:=Kc z;have aa:∀ k,(listed.setIfInBounds i true).getD k true=(if k=i then true else listed.getD k true):=fun k=>by
    by_cases d:k=i
    ·simp_all
    ·by_cases W:k < listed.size
     ·simp [Array.getD,W,d,qQx _ (qKh d)]
     simp_all
   have M:j7 (listed.setIfInBounds i true)=qdk (j7 listed) i:=by
    funext k;unfold j7 qdk;by_cases W:k < listed.size
    ·rw [Kx (by simp_all),aa];simp_all
    ·have K:k ≠ i:=by omega
     simp_all
   obtain⟨o,F⟩:∃ o,ops[i]? = some o:=⟨ops[i],by simp⟩;refine step (j7 listed) S i o F (by unfold j7;simp_all) (fun e p n=>R o F e p n) h a w I _ N (fun S' x G H ah d=>?_);rw [<-M] at d;have q:i ∈ leftOf ops listed:=by simp only [leftOf,qA6,qHj,P];exact⟨J,rfl⟩
   refine ih (listed.setIfInBounds i true) S' x G H (by simp_all) ?_ ?_ ah d
   ·intro k d o' Z e p n;have af:∀ m,listed.getD m false=true->(listed.setIfInBounds i true).getD m false=true:=fun m q=>by
     have:=congrFun M m;unfold j7 qdk at this;simp_all
    refine af _ ?_;by_cases K:k=i
    ·subst K;exact R o' Z e p n
    ·have:=congrFun M k;unfold j7 qdk at this;rw [this,if_neg K] at d;exact U k d o' Z e p n
   ·have e:leftOf ops (listed.setIfInBounds i true)=(leftOf ops listed).filter fun k=>decide (k ≠ i):=by
     unfold leftOf;rw [qO2];refine qN6 fun k _=>?_;rw [aa];by_cases d:k=i <;> simp [d]
    obtain⟨A,B,T⟩:=qQp q;have u:(leftOf ops listed).Pairwise (· < ·):=qOd _ qO6;rw [e,T];rw [T] at u y;have Y:(A++i::B).Nodup:=u.imp fun h=>qRu h;have ad:i ∉ A:=fun hA=>(w4.1 Y).2.2 i hA i x6 rfl;have ae:i ∉ B:=(js.1 (w4.1 Y).2.1).1;rw [qQo,J0];simp only [ne_eq,not_true_eq_false,decide_false,kA,if_false];rw [qLv.2 fun k d=>by simpa using fun e=>ad (by simp_all),qLv.2 fun k d=>by simpa using fun e=>ae (by simp_all)];simp only [zr,List.length_cons] at y ⊢;omega
theorem qbp {C:Ctx} {Q:Exit->Act->World->Prop} (Inv:(Nat->Bool)->St->Prop) (j:qcl md ops=true) (hd:∀ (i:Nat) (o:Oper),ops[i]? = some o->zH C.N o=true)
  (step:∀ (L:Nat->Bool) (S:St) (i:Nat) (o:Oper),ops[i]? = some o->L i=false->(∀ e ∈ o.after,Region.binds md e=true->L e.on=true)->Inv L S->xi C.P hc ops o (Inv (qdk L i)) S)
  (d:∀ (L:Nat->Bool) S a w I,(∀ i,i < ops.size->L i=true)->Γ C S a w I->Inv L S->Q .normal a w) :
  ∀ (f:Nat) (listed:Array Bool) (S:St) (a:Act) (w:World) (I:Cells),listed.size=ops.size->qoy md ops listed->(leftOf ops listed).length=f->Γ C S a w I->Inv (j7 listed) S->wpAnyIn C.fe 0 C.P md ops Q f listed a w :=
 uC Inv j hd (fun L S i o x q u p a w I n k h=>qao (hc:=hc) (hd i) k h (by unfold kC;simp_all)) d
theorem XU {C:Ctx} {i:Nat} {o:Oper} {S:St} {a:Act} {w:World} {I:Cells} {K:St->Prop} {p:Act->World->Prop} {Q':Exit->Act->World->Prop} (y:ops[i]? = some o) (q:zH C.N o=true) (d:Γ C S a w I)
  (u:∀ S' e j k,Γ C S' e j k->K S'->p e j) (h:Xb C.P ops K [o] S):wpOpIn C.fe 0 C.P ops Q' i p a w:=by
 unfold wpOpIn;simp only [y];simp only [Xb] at h;split at h
 ·rename_i n;rw [if_pos (wv d n)];exact Oper.wpIn_mono (fun e j ⟨S',k,z,x⟩=>u S' e j k z x) (VG q h a w I d Q')
 ·rename_i n;rw [if_neg (by rw [wv d n];simp)];exact⟨fun f _=>C.fe_fn f,u _ _ _ I ⟨d.1.put o.dst (qz q) (by rfl),d.2.put _ _⟩ h⟩
 simp_all
end
variable {Q:Exit->St->Prop}
theorem qAw {C:Ctx} {k:List It} {S:St} {l:List Oper} {id:Nat} (hc:Option Bool) (z:C.P.follows .mixedOrders=true) (y:qcl .any l.toArray=true) (hd:l.all (zH C.N)=true) (Inv:(Nat->Bool)->St->Prop)
  (F:Inv (fun _=>false) S)
  (step:∀ (L:Nat->Bool) (S:St) (i:Nat) (o:Oper),l[i]? = some o->L i=false->(∀ e ∈ o.after,Region.binds .any e=true->L e.on=true)->Inv L S->EX C [.ops (.g hc) l.toArray [o],.stop (Inv (qdk L i))] S (fun _ _=>False))
  (last:∀ (L:Nat->Bool) S,(∀ i,i < l.length->L i=true)->Inv L S->EX C k S Q):xo C (.region id l.toArray true) S (zM C k Q):=by
 intro a w I d;refine wpIn_region_any z ?_;have A:∀ i,(Array.replicate l.toArray.size false).getD i false=false:=fun i=>by
  simp [Array.getD]
 have D:Γ C S a { w with drawn:=w.drawn+1 } I:=⟨d.1.mono (qV.drew (fun _=>True) w I).stays,d.2.quiet (fun _=>True) (fun _ _=>trivial) (qV.drew _ w I) d.2.heap.inn⟩;have H:leftOf l.toArray (Array.replicate l.toArray.size false)=List.range l.toArray.size:=by
  unfold leftOf;refine qLv.2 fun i p=>?_;have q:i < l.length:=by have:=qHj.1 p;simpa using this
  simp [Array.getD,q]
 refine qbp (C:=C) (hc:=hc) Inv y (fun i o n=>?_) (fun L S i o n u x j=>?_) (fun L S a w I G d j=>⟨S,I,d,last L S (by omega) j⟩) l.toArray.size _ S a _ I (by simp) (fun i p=>by simp_all) (by simp_all) D ?_
 ·have:o ∈ l:=by
   have h:l[i]? = some o:=by simpa using n
   exact qMm h
  simp_all
 ·have h:l[i]? = some o:=by simpa using n
  have:=step L S i o h u x j;assumption
 ·have:j7 (Array.replicate l.toArray.size false)=fun _=>false:=by funext i;exact A i
  simp_all
theorem JP {C:Ctx} {k:List It} {S:St} {l:List Oper} {id:Nat} (A:C.P.follows .mixedOrders=true) (z:qcl .any l.toArray=true) (hd:l.all (zH C.N)=true) (Inv:(Nat->Bool)->St->Prop)
  (H:Inv (fun _=>false) S)
  (step:∀ (L:Nat->Bool) (S:St) (i:Nat) (o:Oper),l[i]? = some o->L i=false->(∀ e ∈ o.after,Region.binds .any e=true->L e.on=true)->Inv L S->EX C [.ops .f l.toArray [o],.stop (Inv (qdk L i))] S (fun _ _=>False))
  (last:∀ (L:Nat->Bool) S,(∀ i,i < l.length->L i=true)->Inv L S->EX C k S Q):xo C (.region id l.toArray true) S (zM C k Q):=by
 intro a w I d;refine wpIn_region_any A ?_;have D:∀ i,(Array.replicate l.toArray.size false).getD i false=false:=fun i=>by
  simp [Array.getD]
 have F:Γ C S a { w with drawn:=w.drawn+1 } I:=⟨d.1.mono (qV.drew (fun _=>True) w I).stays,d.2.quiet (fun _=>True) (fun _ _=>trivial) (qV.drew _ w I) d.2.heap.inn⟩;have K:leftOf l.toArray (Array.replicate l.toArray.size false)=List.range l.toArray.size:=by
  unfold leftOf;refine qLv.2 fun i p=>?_;have q:i < l.length:=by have:=qHj.1 p;simpa using this
  simp [Array.getD,q]
 refine uC (C:=C) Inv z (fun i o j=>?_) (fun L S i o j u x n a w I G d y=>?_) (fun L S a w I J d n=>⟨S,I,d,last L S (by omega) n⟩) l.toArray.size _ S a _ I (by simp) (fun i p=>by simp_all) (by simp_all) F ?_
 ·have:o ∈ l:=by
   have h:l[i]? = some o:=by simpa using j
   exact qMm h
  simp_all
 ·have h:l[i]? = some o:=by simpa using j
  have:=step L S i o h u x n;refine XU j ?_ d y this;have:o ∈ l:=qMm h;simp_all
 ·have:j7 (Array.replicate l.toArray.size false)=fun _=>false:=by funext i;exact D i
  simp_all
theorem dt {A:Array Edge} {L:Nat->Bool} (a:∀ e ∈ A,Region.binds .any e=true->L e.on=true) (k:Nat) (h:(⟨k,.data⟩:Edge) ∈ A:=by simp):L k=true:=a _ h rfl
theorem yp {C:Ctx} {k:List It} {S:St} {l:List Oper} {id:Nat} (M:C.P.follows .mixedOrders=true) (K:qcl .any l.toArray=true) (hd:l.all (zH C.N)=true) (Inv:(Nat->Bool)->St->Prop)
  (T:Inv (fun _=>false) S)
  (step:∀ (L:Nat->Bool) (S:St) (i:Nat) (o:Oper),l[i]? = some o->L i=false->(∀ e ∈ o.after,Region.binds .any e=true->L e.on=true)->Inv L S->EX C [.ops .f l.toArray [o],.stop (Qg (Inv (qdk L i)))] S (fun _ _=>False))
  (last:∀ (L:Nat->Bool) S,(∀ i,i < l.length->L i=true)->Inv L S->EX C k S Q):xo C (.region id l.toArray true) S (zM C k Q):=by
 intro a w I d;refine wpIn_region_any M ?_;have N:∀ i,(Array.replicate l.toArray.size false).getD i false=false:=fun i=>by
  simp [Array.getD]
 have p:Γ C S a { w with drawn:=w.drawn+1 } I:=⟨d.1.mono (qV.drew (fun _=>True) w I).stays,d.2.quiet (fun _=>True) (fun _ _=>trivial) (qV.drew _ w I) d.2.heap.inn⟩;have W:leftOf l.toArray (Array.replicate l.toArray.size false)=List.range l.toArray.size:=by
  unfold leftOf;refine qLv.2 fun i q=>?_;have D:i < l.length:=by have:=qHj.1 q;simpa using this
  simp [Array.getD,D]
 refine uC (C:=C) Inv K (fun i o j=>?_) (fun L S i o j G H n a w I P d J=>?_) (fun L S a w I U d n=>⟨S,I,d,last L S (by omega) n⟩) l.toArray.size _ S a _ I (by simp) (fun i q=>by simp_all) (by simp_all) p ?_
 ·have:o ∈ l:=by
   have h:l[i]? = some o:=by simpa using j
   exact qMm h
  simp_all
 ·have h:l[i]? = some o:=by simpa using j
  have:=step L S i o h G H n;refine XU j ?_ d (fun R y O u p F=>by obtain⟨x,z,A⟩:=p.loseP F;exact J x y O u z A) this;have:o ∈ l:=qMm h;simp_all
 ·have:j7 (Array.replicate l.toArray.size false)=fun _=>false:=by funext i;exact N i
  simp_all
end Go.VL
