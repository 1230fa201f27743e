/- Merged out of my text VN. -/
import Derived.Test.YtohdpcjaoiebkaaGreatDoorKV15
set_option linter.unusedSimpArgs false
set_option linter.unusedVariables false
namespace Go.VL
open Go.RowKit
def wI (o:Option (TypeId × (List Sh × Bool) × V)) (k:(List Sh × Bool)→V→Prop):Prop:=match o with | some (_,ks,z)=>k ks z | none=>False
@[congr] theorem quv {o o':Option (TypeId × (List Sh × Bool) × V)} {k:(List Sh × Bool)→V→Prop} (h:qc o=o'):wI (qc o) k=wI o' k:=by rw [← h]
theorem qa6 (t:TypeId) (ks:List Sh × Bool) (z:V) (k:(List Sh × Bool)→V→Prop):wI (some (t,ks,z)) k=k ks z:=qh rfl
def VV (o:Option ((List Sh × Bool) × List Ent × Nat)) (k:(List Sh × Bool)→List Ent→Nat→Prop):Prop:=match o with | some (ks,es,cl)=>k ks es cl | none=>False
@[congr] theorem qBq {o o':Option ((List Sh × Bool) × List Ent × Nat)} {k:(List Sh × Bool)→List Ent→Nat→Prop} (h:qc o=o'):VV (qc o) k=VV o' k:=by rw [← h]
theorem qp6 (ks:List Sh × Bool) (es:List Ent) (cl:Nat) (k:(List Sh × Bool)→List Ent→Nat→Prop):VV (some (ks,es,cl)) k=k ks es cl:=qh rfl
def onI (o:Option (Nat × Nat × List Nat × Nat)) (k:Nat→Nat→List Nat→Nat→Prop):Prop:=match o with | some (a,b,c,d)=>k a b c d | none=>False
@[congr] theorem qBs {o o':Option (Nat × Nat × List Nat × Nat)} {k:Nat→Nat→List Nat→Nat→Prop} (h:qc o=o'):onI (qc o) k=onI o' k:=by rw [← h]
theorem qp8 (a b:Nat) (c:List Nat) (d:Nat) (k:Nat→Nat→List Nat→Nat→Prop):onI (some (a,b,c,d)) k=k a b c d:=qh rfl
theorem qa8 (v:V) (A:V→Prop) (B:Prop) (p:zH A) (q:zH B):yx (some v) A B p q=A v:=qh rfl
theorem qa9 (A:V→Prop) (B:Prop) (p:zH A) (q:zH B):yx none A B p q=B:=qh rfl
theorem qfa (e:Ent) (A:Ent→Prop) (B:Prop) (p:zH A) (q:zH B):WA (some e) A B p q=A e:=qh rfl
theorem qfb (A:Ent→Prop) (B:Prop) (p:zH A) (q:zH B):WA none A B p q=B:=qh rfl
section
variable {P:Program} {S:St} {d:Option Nat}
theorem qbl (t:TypeId) (K:St→Prop):xX P S d t none K=wI (qc (yS P t)) fun ks _=>ub (qA S.boxes S.rows) (fun b=>K ((S.addB b (.m ks [] 0)).put d (.lit (.map (some b))))) .mk:=by
 simp only [qs]
 unfold xX wI ub
 cases yS P t with
 | none=>rfl
 | some x=>obtain⟨a,b,c⟩:=x;simp
theorem V0 (t:TypeId) (k:IntKind) (n:Int) (K:St→Prop):xX P S d t (some (.lit (.int k n))) K=wI (qc (yS P t)) fun ks _=>ub (qA S.boxes S.rows) (fun b=>K ((S.addB b (.m ks [] 0)).put d (.lit (.map (some b))))) .mk:=by
 simp only [qs]
 unfold xX wI ub
 cases yS P t with
 | none=>rfl
 | some x=>obtain⟨a,b,c⟩:=x;simp
theorem qqq (t:TypeId) (x k:V) (ok:Bool) (K:V→Prop):QG P S t x k ok K=wI (qc (yS P t)) fun ks z=>qj (qc (Qr k)) fun kv=>qy (qc (kF ks kv=true)) (vW S ks z kv (qc x) ok K):=by
 simp only [qs]
 unfold QG wI
 cases yS P t with
 | none=>rfl
 | some y=>obtain⟨a,b,c⟩:=y;simp only [];cases Qr k <;> rfl
@[congr] theorem qyf {ks:List Sh × Bool} {z:V} {kv:Value} {x x':V} {ok:Bool} {K:V→Prop} (h:qc x=x'):vW S ks z kv (qc x) ok K=vW S ks z kv x' ok K:=by rw [← h]
theorem qky (ks:List Sh × Bool) (z:V) (kv:Value) (K:V→Prop):vW S ks z kv (.lit (.map none)) true K=K (.tup [z,.lit (.bool false)]):=qh rfl
theorem qfq (ks:List Sh × Bool) (z:V) (kv:Value) (K:V→Prop):vW S ks z kv (.lit (.map none)) false K=K z:=qh rfl
theorem qkz (ks:List Sh × Bool) (z:V) (kv:Value) (b:Nat) (K:V→Prop):vW S ks z kv (.lit (.map (some b))) true K=VV (qc (xG S.boxes b)) fun ks' es _=>qy (qc (ks'=ks)) (yx (zb es kv) (fun v=>K (.tup [v,.lit (.bool true)])) (K (.tup [z,.lit (.bool false)])) .mk .mk):=by
 simp only [qs,vW]
 unfold VV
 generalize xG S.boxes b=o
 cases o with
 | none=>rfl
 | some y=>obtain⟨a,b,c⟩:=y;rfl
theorem qfr (ks:List Sh × Bool) (z:V) (kv:Value) (b:Nat) (K:V→Prop):vW S ks z kv (.lit (.map (some b))) false K=VV (qc (xG S.boxes b)) fun ks' es _=>qy (qc (ks'=ks)) (yx (zb es kv) (fun v=>K v) (K z) .mk .mk):=by
 simp only [qs,vW]
 unfold VV
 generalize xG S.boxes b=o
 cases o with
 | none=>rfl
 | some y=>obtain⟨a,b,c⟩:=y;rfl
theorem qt5 (t:TypeId) (x k v:V) (K:St→Prop):KO P S d t x k v K=wI (qc (yS P t)) fun ks _=>qj (qc (Qr k)) fun kv=>qy (qc (kF ks kv=true)) (UH S d ks kv (qc x) (qc v) K):=by
 simp only [qs]
 unfold KO wI
 cases yS P t with
 | none=>rfl
 | some y=>obtain⟨a,b,c⟩:=y;simp only [];cases Qr k <;> rfl
@[congr] theorem qzd {ks:List Sh × Bool} {kv:Value} {x x' v v':V} {K:St→Prop} (h:qc x=x') (h':qc v=v'):UH S d ks kv (qc x) (qc v) K=UH S d ks kv x' v' K:=by rw [← h,← h']
theorem qn3 (ks:List Sh × Bool) (kv:Value) (b:Nat) (v:V) (K:St→Prop):UH S d ks kv (.lit (.map (some b))) v K=VV (qc (xG S.boxes b)) fun ks' es cl=>qy (qc (ks'=ks))
  (yx (zb es kv) (fun _=>K ((S.setBoxes (setX S.boxes b (.m ks (Qp kv v es) cl))).put d .any)) (K ((S.setBoxes (setX S.boxes b (.m ks (es++[(cl,kv,v)]) (cl+1)))).put d .any)) .mk .mk):=by
 simp only [qs,UH]
 unfold VV
 generalize xG S.boxes b=o
 cases o with
 | none=>rfl
 | some y=>obtain⟨a,b,c⟩:=y;rfl
theorem qlf (t:TypeId) (x:V) (K:St→Prop):uI P S d t x K=qy (qc (Ku P t=true)) (qj (qc (Qr x)) fun v=>K (S.put d (.lit (.iface t v)))):=by
 simp only [qs]
 unfold uI
 cases Qr x <;> rfl
@[congr] theorem qAo {r r':V} {n:String} {as as':List V} {K:St→Prop} (h:qc r=r') (h':qc as=as'):J6 P S d (qc r) n (qc as) K=J6 P S d r' n as' K:=by rw [← h,← h']
def qEn (P:Program) (S:St) (d:Option Nat) (t:TypeId) (v:Value) (n:String) (as:List V) (K:St→Prop) (_:zH K):Prop:=∃ g u,(∀ w,(Go.method (P.types.size+Made.depth) t v n).run P w=.ok (g,u) w)∧ql P g=true∧ja P S d (.lit (.func (.func g) #[] #[])) (Ql u::as) K
theorem qf2 (t:TypeId) (v:Value) (n:String) (as:List V) (K:St→Prop):J6 P S d (.lit (.iface t v)) n as K=qEn P S d t v n as K .mk:=qh rfl
theorem qqk (t:TypeId) (x k:V) (K:St→Prop):ZG P S d t x k K=wI (qc (yS P t)) fun ks z=>qj (qc (Qr k)) fun kv=>qy (qc (kF ks kv=true)) (X4 S d ks z kv (qc x) K):=by
 simp only [qs]
 unfold ZG wI
 cases yS P t with
 | none=>rfl
 | some y=>obtain⟨a,b,c⟩:=y;simp only [];cases Qr k <;> rfl
@[congr] theorem qye {ks:List Sh × Bool} {z:V} {kv:Value} {x x':V} {K:St→Prop} (h:qc x=x'):X4 S d ks z kv (qc x) K=X4 S d ks z kv x' K:=by rw [← h]
theorem qkv (ks:List Sh × Bool) (z:V) (kv:Value) (b:Nat) (K:St→Prop):X4 S d ks z kv (.lit (.map (some b))) K=VV (qc (xG S.boxes b)) fun ks' es cl=>qy (qc (ks'=ks))
  (WA (ZL es kv) (fun e=>K (S.put d (.tup [e.2.2,.lit (.int .i64 e.1)]))) (K ((S.setBoxes (setX S.boxes b (.m ks (es++[(cl,kv,z)]) (cl+1)))).put d (.tup [z,.lit (.int .i64 cl)]))) .mk .mk):=by
 simp only [qs,X4]
 unfold VV
 generalize xG S.boxes b=o
 cases o with
 | none=>rfl
 | some y=>obtain⟨a,b,c⟩:=y;rfl
@[congr] theorem qAv {x x' s s' v v':V} {K:St→Prop} (h:qc x=x') (h1:qc s=s') (h2:qc v=v'):W5 S d (qc x) (qc s) (qc v) K=W5 S d x' s' v' K:=by rw [← h,← h1,← h2]
theorem qrx (b:Nat) (n:Int) (v:V) (K:St→Prop):W5 S d (.lit (.map (some b))) (.lit (.int .i64 n)) v K=VV (qc (xG S.boxes b)) fun ks es cl=>(∃ e ∈ es,(e.1:Int)=n)∧K ((S.setBoxes (setX S.boxes b (.m ks (Qo n.toNat v es) cl))).put d .any):=by
 simp only [qs,W5]
 unfold VV
 generalize xG S.boxes b=o
 cases o with
 | none=>rfl
 | some y=>obtain⟨a,b,c⟩:=y;rfl
def qqn (u:TypeDesc) (A:Prop) (_:zH A):Prop:=match u with | .map _ _=>A | _=>False
theorem qkw (k e:TypeId) (A:Prop) (p:zH A):qqn (.map k e) A p=A:=qh rfl
def Xb (S:St) (d:Option Nat) (x:V) (K:St→Prop):Prop :=
 match x with
 | .lit (.map (some b))=>match xG S.boxes b with
  | some (_,_,cl)=>∀ ib,ib ∉ qA S.boxes S.rows→K ((S.addB ib (.it b cl [] cl)).put d (.lit (.pointer (some ⟨ib,0,none⟩))))
  | none=>False
 | _=>False
@[congr] theorem quk {x x':V} {K:St→Prop} (h:qc x=x'):Xb S d (qc x) K=Xb S d x' K:=by rw [← h]
theorem qka (t:TypeId) (x:V) (K:St→Prop):vr P S d t x K=qj (qc (P.underlying t)) fun u=>qqn u (Xb S d (qc x) K) .mk:=by
 simp only [qs]
 unfold vr qj qqn Xb
 cases P.underlying t with
 | none=>rfl
 | some u =>
   cases u <;> (first | rfl | skip)
   case map k e=>cases x with
    | lit y=>cases y with
     | map b=>cases b <;> rfl
     | _=>rfl
    | _=>rfl
theorem qet (b:Nat) (K:St→Prop):Xb S d (.lit (.map (some b))) K=VV (qc (xG S.boxes b)) fun _ _ cl=>ub (qA S.boxes S.rows) (fun ib=>K ((S.addB ib (.it b cl [] cl)).put d (.lit (.pointer (some ⟨ib,0,none⟩))))) .mk:=by
 simp only [qs,Xb]
 unfold VV ub
 generalize xG S.boxes b=o
 cases o with
 | none=>rfl
 | some y=>obtain⟨a,b,c⟩:=y;rfl
def qDt (es:List Ent) (seen:List Nat) (A:Prop) (B:Ent→Prop) (_:zH A) (_:zH B):Prop:=(yi es seen=[]→A)∧∀ e,e ∈ yi es seen→es.find? (fun x=>x.1 == e.1)=some e→B e
@[congr] theorem qyc {x x':V} {K:St→Prop} (h:qc x=x'):uE S d (qc x) K=uE S d x' K:=by rw [← h]
theorem qqe (ib:Nat) (K:St→Prop):uE S d (.lit (.pointer (some ⟨ib,0,none⟩))) K=onI (qc (uc S.boxes ib)) fun mb since seen last=>VV (qc (xG S.boxes mb)) fun _ es cl=>qy (qc (since=cl∧last=cl))
  (qDt es seen (K (S.put d (.tup [.lit (.bool false)]))) (fun e=>K ((S.setBoxes (setX S.boxes ib (.it mb since (seen++[e.1]) cl))).put d (.tup [.lit (.bool true),Ql e.2.1,e.2.2]))) .mk .mk):=by
 simp only [qs]
 simp only [uE]
 unfold onI VV
 cases uc S.boxes ib with
 | none=>rfl
 | some y =>
  obtain⟨a,b,c,e⟩:=y
  simp only []
  cases xG S.boxes a with
  | none=>rfl
  | some y=>obtain⟨p,q,r⟩:=y;rfl
@[congr] theorem qv0 {x x':V} {K:V→Prop} (h:qc x=x'):jY S (qc x) K=jY S x' K:=by rw [← h]
theorem ql4 (ib:Nat) (K:V→Prop):jY S (.lit (.pointer (some ⟨ib,0,none⟩))) K=onI (qc (uc S.boxes ib)) fun mb _ seen last=>qj (qc seen.getLast?) fun stamp=>VV (qc (xG S.boxes mb)) fun _ es cl =>
  qj (qc (es.find? fun x=>x.1 == stamp)) fun e=>qy (qc (cl=last)) (K (.tup [Ql e.2.1,e.2.2])):=by
 simp only [qs]
 simp only [jY]
 unfold onI VV qj
 cases uc S.boxes ib with
 | none=>rfl
 | some y =>
  obtain⟨a,b,c,e⟩:=y
  simp only []
  cases c.getLast? with
  | none=>rfl
  | some st =>
   simp only []
   cases xG S.boxes a with
   | none=>rfl
   | some y =>
    obtain⟨p,q,r⟩:=y
    simp only []
    cases List.find? (fun x=>x.1 == st) q <;> rfl
end
theorem qlm (b:Nat) (ks:List Sh × Bool) (es:List Ent) (cl:Nat) (r:List (Nat × B)):xG ((b,.m ks es cl)::r) b=some (ks,es,cl):=by simp [xG]
theorem qgb (b b':Nat) (x:B) (r:List (Nat × B)) (h:b' ≠ b):xG ((b,x)::r) b'=xG r b':=by cases x <;> simp [xG,h]
theorem qlo (b a s l:Nat) (c:List Nat) (r:List (Nat × B)):uc ((b,.it a s c l)::r) b=some (a,s,c,l):=by simp [uc]
theorem qgc (b b':Nat) (x:B) (r:List (Nat × B)) (h:b' ≠ b):uc ((b,x)::r) b'=uc r b':=by cases x <;> simp [uc,h]
theorem qj1 (b:Nat) (x y:B) (r:List (Nat × B)):setX ((b,x)::r) b y=(b,y)::r:=by simp [setX]
theorem qem (b b':Nat) (x y:B) (r:List (Nat × B)) (h:b' ≠ b):setX ((b,x)::r) b' y=(b,x)::setX r b' y:=by simp [setX,h]
theorem qn0 (xs:List Value):Ql (.agg xs.toArray)=.agg (xs.map .lit):=by simp [Ql]
theorem qny (s:ByteArray):Ql (.string s)=.lit (.string s):=qh rfl
theorem qnz (k:IntKind) (n:Int):Ql (.int k n)=.lit (.int k n):=qh rfl
theorem qqz (v:Value):Qr (.lit v)=some v:=qh rfl
theorem qq0 (vs:List V):Qr (.agg vs)=(vals vs).map fun l=>.agg l.toArray:=qh rfl
theorem qq3 (ks:List Sh) (xs:List Value):kF (ks,true) (.agg xs.toArray)=zk ks xs:=by simp [kF,Value.cells]
theorem qq1 (s:ByteArray):kF ([.s],false) (.string s)=true:=by simp [kF,Value.cells,zk,fit]
theorem qq2 (k:IntKind) (n:Int):kF ([.i k],false) (.int k n)=true:=by simp [kF,Value.cells,zk,fit]
theorem qwq (S:St) (b:Nat) (x:B):(S.addB b x).σ=S.σ:=qh rfl
theorem qhe (S:St) (b:Nat) (x:B):(S.addB b x).boxes=(b,x)::S.boxes:=qh rfl
theorem qnb (S:St) (b:Nat) (x:B):(S.addB b x).rows=S.rows:=qh rfl
end Go.VL
