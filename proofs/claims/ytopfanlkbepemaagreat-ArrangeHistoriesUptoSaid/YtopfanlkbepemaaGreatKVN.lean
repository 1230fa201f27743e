/- Merged out of my text VN. -/
import Derived.Test.YtopfanlkbepemaaGreatKV15
namespace Go.VL
open Go.RowKit
def onMapT (o:Option (TypeId × (List Sh × Bool) × V)) (k:(List Sh × Bool)→V→Prop):Prop:=match o with | some (_,ks,z)=>k ks z | none=>False
@[congr] theorem onMapT_congr {o o':Option (TypeId × (List Sh × Bool) × V)} {k:(List Sh × Bool)→V→Prop} (h:Todo o=o'):onMapT (Todo o) k=onMapT o' k:=by rw [← h]
theorem onMapT_some (t:TypeId) (ks:List Sh × Bool) (z:V) (k:(List Sh × Bool)→V→Prop):onMapT (some (t,ks,z)) k=k ks z:=eqq rfl
def onM (o:Option ((List Sh × Bool) × List Ent × Nat)) (k:(List Sh × Bool)→List Ent→Nat→Prop):Prop:=match o with | some (ks,es,cl)=>k ks es cl | none=>False
@[congr] theorem onM_congr {o o':Option ((List Sh × Bool) × List Ent × Nat)} {k:(List Sh × Bool)→List Ent→Nat→Prop} (h:Todo o=o'):onM (Todo o) k=onM o' k:=by rw [← h]
theorem onM_some (ks:List Sh × Bool) (es:List Ent) (cl:Nat) (k:(List Sh × Bool)→List Ent→Nat→Prop):onM (some (ks,es,cl)) k=k ks es cl:=eqq rfl
def onI (o:Option (Nat × Nat × List Nat × Nat)) (k:Nat→Nat→List Nat→Nat→Prop):Prop:=match o with | some (a,b,c,d)=>k a b c d | none=>False
@[congr] theorem onI_congr {o o':Option (Nat × Nat × List Nat × Nat)} {k:Nat→Nat→List Nat→Nat→Prop} (h:Todo o=o'):onI (Todo o) k=onI o' k:=by rw [← h]
theorem onI_some (a b:Nat) (c:List Nat) (d:Nat) (k:Nat→Nat→List Nat→Nat→Prop):onI (some (a,b,c,d)) k=k a b c d:=eqq rfl
theorem onFind_some (v:V) (A:V→Prop) (B:Prop) (p:Fix A) (q:Fix B):onFind (some v) A B p q=A v:=eqq rfl
theorem onFind_none (A:V→Prop) (B:Prop) (p:Fix A) (q:Fix B):onFind none A B p q=B:=eqq rfl
theorem onEnt_some (e:Ent) (A:Ent→Prop) (B:Prop) (p:Fix A) (q:Fix B):onEnt (some e) A B p q=A e:=eqq rfl
theorem onEnt_none (A:Ent→Prop) (B:Prop) (p:Fix A) (q:Fix B):onEnt none A B p q=B:=eqq rfl
section
variable {P:Program} {S:St} {d:Option Nat}
theorem makeMapK_eq (t:TypeId) (K:St→Prop):makeMapK P S d t none K=onMapT (Todo (mapT P t)) fun ks _=>Fresh (blks S.boxes S.rows) (fun b=>K ((S.addB b (.m ks [] 0)).put d (.lit (.map (some b))))) .mk:=by
 simp only [Todo_eq]
 unfold makeMapK onMapT Fresh
 cases mapT P t with
 | none=>rfl
 | some x=>obtain⟨a,b,c⟩:=x;simp
theorem makeMapK_eqr (t:TypeId) (k:IntKind) (n:Int) (K:St→Prop):makeMapK P S d t (some (.lit (.int k n))) K=onMapT (Todo (mapT P t)) fun ks _=>Fresh (blks S.boxes S.rows) (fun b=>K ((S.addB b (.m ks [] 0)).put d (.lit (.map (some b))))) .mk:=by
 simp only [Todo_eq]
 unfold makeMapK onMapT Fresh
 cases mapT P t with
 | none=>rfl
 | some x=>obtain⟨a,b,c⟩:=x;simp
theorem lookK_eq (t:TypeId) (x k:V) (ok:Bool) (K:V→Prop):lookK P S t x k ok K=onMapT (Todo (mapT P t)) fun ks z=>onSome (Todo (keyV k)) fun kv=>And2 (Todo (keyS ks kv=true)) (lookD S ks z kv (Todo x) ok K):=by
 simp only [Todo_eq]
 unfold lookK onMapT
 cases mapT P t with
 | none=>rfl
 | some y=>obtain⟨a,b,c⟩:=y;simp only [];cases keyV k <;> rfl
@[congr] theorem lookD_congr {ks:List Sh × Bool} {z:V} {kv:Value} {x x':V} {ok:Bool} {K:V→Prop} (h:Todo x=x'):lookD S ks z kv (Todo x) ok K=lookD S ks z kv x' ok K:=by rw [← h]
theorem lookD_nil (ks:List Sh × Bool) (z:V) (kv:Value) (K:V→Prop):lookD S ks z kv (.lit (.map none)) true K=K (.tup [z,.lit (.bool false)]):=eqq rfl
theorem lookD_nil' (ks:List Sh × Bool) (z:V) (kv:Value) (K:V→Prop):lookD S ks z kv (.lit (.map none)) false K=K z:=eqq rfl
theorem lookD_box (ks:List Sh × Bool) (z:V) (kv:Value) (b:Nat) (K:V→Prop):lookD S ks z kv (.lit (.map (some b))) true K=onM (Todo (getM S.boxes b)) fun ks' es _=>And2 (Todo (ks'=ks)) (onFind (findM es kv) (fun v=>K (.tup [v,.lit (.bool true)])) (K (.tup [z,.lit (.bool false)])) .mk .mk):=by
 simp only [Todo_eq,lookD]
 unfold onM
 generalize getM S.boxes b=o
 cases o with
 | none=>rfl
 | some y=>obtain⟨a,b,c⟩:=y;rfl
theorem lookD_box' (ks:List Sh × Bool) (z:V) (kv:Value) (b:Nat) (K:V→Prop):lookD S ks z kv (.lit (.map (some b))) false K=onM (Todo (getM S.boxes b)) fun ks' es _=>And2 (Todo (ks'=ks)) (onFind (findM es kv) (fun v=>K v) (K z) .mk .mk):=by
 simp only [Todo_eq,lookD]
 unfold onM
 generalize getM S.boxes b=o
 cases o with
 | none=>rfl
 | some y=>obtain⟨a,b,c⟩:=y;rfl
theorem updK_eq (t:TypeId) (x k v:V) (K:St→Prop):updK P S d t x k v K=onMapT (Todo (mapT P t)) fun ks _=>onSome (Todo (keyV k)) fun kv=>And2 (Todo (keyS ks kv=true)) (updD S d ks kv (Todo x) (Todo v) K):=by
 simp only [Todo_eq]
 unfold updK onMapT
 cases mapT P t with
 | none=>rfl
 | some y=>obtain⟨a,b,c⟩:=y;simp only [];cases keyV k <;> rfl
@[congr] theorem updD_congr {ks:List Sh × Bool} {kv:Value} {x x' v v':V} {K:St→Prop} (h:Todo x=x') (h':Todo v=v'):updD S d ks kv (Todo x) (Todo v) K=updD S d ks kv x' v' K:=by rw [← h,← h']
theorem updD_box (ks:List Sh × Bool) (kv:Value) (b:Nat) (v:V) (K:St→Prop):updD S d ks kv (.lit (.map (some b))) v K=onM (Todo (getM S.boxes b)) fun ks' es cl=>And2 (Todo (ks'=ks))
  (onFind (findM es kv) (fun _=>K ((S.setBoxes (setX S.boxes b (.m ks (modM kv v es) cl))).put d .any)) (K ((S.setBoxes (setX S.boxes b (.m ks (es++[(cl,kv,v)]) (cl+1)))).put d .any)) .mk .mk):=by
 simp only [Todo_eq,updD]
 unfold onM
 generalize getM S.boxes b=o
 cases o with
 | none=>rfl
 | some y=>obtain⟨a,b,c⟩:=y;rfl
theorem mentK_eq (t:TypeId) (x k:V) (K:St→Prop):mentK P S d t x k K=onMapT (Todo (mapT P t)) fun ks z=>onSome (Todo (keyV k)) fun kv=>And2 (Todo (keyS ks kv=true)) (mentD S d ks z kv (Todo x) K):=by
 simp only [Todo_eq]
 unfold mentK onMapT
 cases mapT P t with
 | none=>rfl
 | some y=>obtain⟨a,b,c⟩:=y;simp only [];cases keyV k <;> rfl
@[congr] theorem mentD_congr {ks:List Sh × Bool} {z:V} {kv:Value} {x x':V} {K:St→Prop} (h:Todo x=x'):mentD S d ks z kv (Todo x) K=mentD S d ks z kv x' K:=by rw [← h]
theorem mentD_box (ks:List Sh × Bool) (z:V) (kv:Value) (b:Nat) (K:St→Prop):mentD S d ks z kv (.lit (.map (some b))) K=onM (Todo (getM S.boxes b)) fun ks' es cl=>And2 (Todo (ks'=ks))
  (onEnt (findE es kv) (fun e=>K (S.put d (.tup [e.2.2,.lit (.int .i64 e.1)]))) (K ((S.setBoxes (setX S.boxes b (.m ks (es++[(cl,kv,z)]) (cl+1)))).put d (.tup [z,.lit (.int .i64 cl)]))) .mk .mk):=by
 simp only [Todo_eq,mentD]
 unfold onM
 generalize getM S.boxes b=o
 cases o with
 | none=>rfl
 | some y=>obtain⟨a,b,c⟩:=y;rfl
@[congr] theorem estD_congr {x x' s s' v v':V} {K:St→Prop} (h:Todo x=x') (h1:Todo s=s') (h2:Todo v=v'):estD S d (Todo x) (Todo s) (Todo v) K=estD S d x' s' v' K:=by rw [← h,← h1,← h2]
theorem estD_box (b:Nat) (n:Int) (v:V) (K:St→Prop):estD S d (.lit (.map (some b))) (.lit (.int .i64 n)) v K=onM (Todo (getM S.boxes b)) fun ks es cl=>(∃ e ∈ es,(e.1:Int)=n)∧K ((S.setBoxes (setX S.boxes b (.m ks (setE n.toNat v es) cl))).put d .any):=by
 simp only [Todo_eq,estD]
 unfold onM
 generalize getM S.boxes b=o
 cases o with
 | none=>rfl
 | some y=>obtain⟨a,b,c⟩:=y;rfl
def mapOf (u:TypeDesc) (A:Prop) (_:Fix A):Prop:=match u with | .map _ _=>A | _=>False
theorem mapOf_map (k e:TypeId) (A:Prop) (p:Fix A):mapOf (.map k e) A p=A:=eqq rfl
def rangeD (S:St) (d:Option Nat) (x:V) (K:St→Prop):Prop :=
 match x with
 | .lit (.map (some b))=>match getM S.boxes b with
  | some (_,_,cl)=>∀ ib,ib ∉ blks S.boxes S.rows→K ((S.addB ib (.it b cl [] cl)).put d (.lit (.pointer (some ⟨ib,0,none⟩))))
  | none=>False
 | _=>False
@[congr] theorem rangeD_congr {x x':V} {K:St→Prop} (h:Todo x=x'):rangeD S d (Todo x) K=rangeD S d x' K:=by rw [← h]
theorem rangeK_eq (t:TypeId) (x:V) (K:St→Prop):rangeK P S d t x K=onSome (Todo (P.underlying t)) fun u=>mapOf u (rangeD S d (Todo x) K) .mk:=by
 simp only [Todo_eq]
 unfold rangeK onSome mapOf rangeD
 cases P.underlying t with
 | none=>rfl
 | some u =>
   cases u <;> (first | rfl | skip)
   case map k e=>cases x with
    | lit y=>cases y with
     | map b=>cases b <;> rfl
     | _=>rfl
    | _=>rfl
theorem rangeD_box (b:Nat) (K:St→Prop):rangeD S d (.lit (.map (some b))) K=onM (Todo (getM S.boxes b)) fun _ _ cl=>Fresh (blks S.boxes S.rows) (fun ib=>K ((S.addB ib (.it b cl [] cl)).put d (.lit (.pointer (some ⟨ib,0,none⟩))))) .mk:=by
 simp only [Todo_eq,rangeD]
 unfold onM Fresh
 generalize getM S.boxes b=o
 cases o with
 | none=>rfl
 | some y=>obtain⟨a,b,c⟩:=y;rfl
def NextF (es:List Ent) (seen:List Nat) (A:Prop) (B:Ent→Prop) (_:Fix A) (_:Fix B):Prop:=(leftE es seen=[]→A)∧∀ e,e ∈ leftE es seen→es.find? (fun x=>x.1 == e.1)=some e→B e
@[congr] theorem nextK_congr {x x':V} {K:St→Prop} (h:Todo x=x'):nextK S d (Todo x) K=nextK S d x' K:=by rw [← h]
theorem nextK_it (ib:Nat) (K:St→Prop):nextK S d (.lit (.pointer (some ⟨ib,0,none⟩))) K=onI (Todo (getI S.boxes ib)) fun mb since seen last=>onM (Todo (getM S.boxes mb)) fun _ es cl=>And2 (Todo (since=cl∧last=cl))
  (NextF es seen (K (S.put d (.tup [.lit (.bool false)]))) (fun e=>K ((S.setBoxes (setX S.boxes ib (.it mb since (seen++[e.1]) cl))).put d (.tup [.lit (.bool true),valV e.2.1,e.2.2]))) .mk .mk):=by
 simp only [Todo_eq]
 simp only [nextK]
 unfold onI onM
 cases getI S.boxes ib with
 | none=>rfl
 | some y =>
  obtain⟨a,b,c,e⟩:=y
  simp only []
  cases getM S.boxes a with
  | none=>rfl
  | some y=>obtain⟨p,q,r⟩:=y;rfl
@[congr] theorem entryK_congr {x x':V} {K:V→Prop} (h:Todo x=x'):entryK S (Todo x) K=entryK S x' K:=by rw [← h]
theorem entryK_it (ib:Nat) (K:V→Prop):entryK S (.lit (.pointer (some ⟨ib,0,none⟩))) K=onI (Todo (getI S.boxes ib)) fun mb _ seen last=>onSome (Todo seen.getLast?) fun stamp=>onM (Todo (getM S.boxes mb)) fun _ es cl =>
  onSome (Todo (es.find? fun x=>x.1 == stamp)) fun e=>And2 (Todo (cl=last)) (K (.tup [valV e.2.1,e.2.2])):=by
 simp only [Todo_eq]
 simp only [entryK]
 unfold onI onM onSome
 cases getI S.boxes ib with
 | none=>rfl
 | some y =>
  obtain⟨a,b,c,e⟩:=y
  simp only []
  cases c.getLast? with
  | none=>rfl
  | some st =>
   simp only []
   cases getM S.boxes a with
   | none=>rfl
   | some y =>
    obtain⟨p,q,r⟩:=y
    simp only []
    cases List.find? (fun x=>x.1 == st) q <;> rfl
end
theorem getM_same (b:Nat) (ks:List Sh × Bool) (es:List Ent) (cl:Nat) (r:List (Nat × B)):getM ((b,.m ks es cl)::r) b=some (ks,es,cl):=by simp [getM]
theorem getM_other (b b':Nat) (x:B) (r:List (Nat × B)) (h:b' ≠ b):getM ((b,x)::r) b'=getM r b':=by cases x <;> simp [getM,h]
theorem getI_same (b a s l:Nat) (c:List Nat) (r:List (Nat × B)):getI ((b,.it a s c l)::r) b=some (a,s,c,l):=by simp [getI]
theorem getI_other (b b':Nat) (x:B) (r:List (Nat × B)) (h:b' ≠ b):getI ((b,x)::r) b'=getI r b':=by cases x <;> simp [getI,h]
theorem setX_same (b:Nat) (x y:B) (r:List (Nat × B)):setX ((b,x)::r) b y=(b,y)::r:=by simp [setX]
theorem setX_other (b b':Nat) (x y:B) (r:List (Nat × B)) (h:b' ≠ b):setX ((b,x)::r) b' y=(b,x)::setX r b' y:=by simp [setX,h]
theorem valV_agg (xs:List Value):valV (.agg xs.toArray)=.agg (xs.map .lit):=by simp [valV]
theorem valV_str (s:ByteArray):valV (.string s)=.lit (.string s):=eqq rfl
theorem valV_int (k:IntKind) (n:Int):valV (.int k n)=.lit (.int k n):=eqq rfl
theorem keyV_lit (v:Value):keyV (.lit v)=some v:=eqq rfl
theorem keyV_agg (vs:List V):keyV (.agg vs)=(vals vs).map fun l=>.agg l.toArray:=eqq rfl
theorem keyS_agg (ks:List Sh) (xs:List Value):keyS (ks,true) (.agg xs.toArray)=fitL ks xs:=by simp [keyS,Value.cells]
theorem keyS_str (s:ByteArray):keyS ([.s],false) (.string s)=true:=by simp [keyS,Value.cells,fitL,fit]
theorem keyS_int (k:IntKind) (n:Int):keyS ([.i k],false) (.int k n)=true:=by simp [keyS,Value.cells,fitL,fit]
theorem addB_σ (S:St) (b:Nat) (x:B):(S.addB b x).σ=S.σ:=eqq rfl
theorem addB_boxes (S:St) (b:Nat) (x:B):(S.addB b x).boxes=(b,x)::S.boxes:=eqq rfl
theorem addB_rows (S:St) (b:Nat) (x:B):(S.addB b x).rows=S.rows:=eqq rfl
end Go.VL
