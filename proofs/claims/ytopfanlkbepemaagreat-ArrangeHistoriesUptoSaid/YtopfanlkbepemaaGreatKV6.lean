/- Merged out of my text V6. -/
import Derived.Test.YtopfanlkbepemaaGreatKV5
import Derived.Laws.Slices
namespace Go.VL
open Go.RowKit
theorem ats_drop' {w:World} {I:Cells} {vs:List V} {b o:Nat} (h:V.ats w I vs b o) (n:Nat):V.ats w I (vs.drop n) b (o+n):=by
 by_cases hn:n≤vs.length
 ·exact ats_drop h n hn
 ·rw [List.drop_eq_nil_of_le (by omega)];simp only [V.ats]
theorem lies_drop {w:World} {I:Cells} {k:Nat} {es:List (List V)} {b o:Nat} (h:V.lies w I k es b o) (n:Nat) (hn:n≤es.length):V.lies w I k (es.drop n) b (o+n * k):=by
 have:=lies_append (w:=w) (I:=I) (k:=k) (es:=es.take n) (fs:=es.drop n) (b:=b) (o:=o)
 rw [List.take_append_drop] at this
 have h2:=(this.1 h).2
 rwa [List.length_take,Nat.min_eq_left hn] at h2
theorem lies_take {w:World} {I:Cells} {k:Nat} {es:List (List V)} {b o:Nat} (h:V.lies w I k es b o) (n:Nat):V.lies w I k (es.take n) b o:=by
 have:=lies_append (w:=w) (I:=I) (k:=k) (es:=es.take n) (fs:=es.drop n) (b:=b) (o:=o)
 rw [List.take_append_drop] at this
 exact(this.1 h).1
def shiftP (v:V) (off:Nat) (k:V→Prop):Prop :=
 match v with
 | .ref cs=>k (.ref (cs.drop off))
 | .lit (.pointer (some ⟨b,o,none⟩))=>k (.lit (.pointer (some ⟨b,o+off,none⟩)))
 | _=>False
theorem shiftP_spec {v:V} {off:Nat} {k:V→Prop} (h:shiftP v off k) :
  ∃ u,k u∧∀ w I x,V.rep w I v x→∃ b o,x=.pointer (some ⟨b,o,none⟩)∧V.rep w I u (.pointer (some ⟨b,o+off,none⟩)):=by
 unfold shiftP at h
 split at h
 ·refine⟨_,h,fun w I x hx=>?_⟩
  simp only [V.rep] at hx
  obtain⟨b,o,rfl,h2⟩:=hx
  refine⟨b,o,rfl,?_⟩
  simp only [V.rep]
  exact⟨b,o+off,rfl,ats_drop' h2 off⟩
 ·refine⟨_,h,fun w I x hx=>?_⟩
  simp only [V.rep] at hx
  subst hx
  exact⟨_,_,rfl,by simp only [V.rep]⟩
 ·exact h.elim
def Le (r v:V):Prop:=∀ w I x,V.rep w I r x→V.rep w I v x
theorem Le.refl (v:V):Le v v:=fun _ _ _ h=>h
theorem Le.list (a:Option Value) (k:Nat) (es:List (List V)):Le (.list a k es) (.list none k es):=fun w I x h=>by
 simp only [V.rep] at h ⊢
 exact⟨(fun y hy=>nomatch hy),h.2⟩
theorem Le.any (v:V):Le v .any:=fun _ _ _ _=>by simp only [V.rep]
def callB (P:Program) (g:FuncId):Bool :=
 match P.funcs[g]? with
 | some fn => !(fn.name == "runtime.NumGoroutine") && fn.body.isSome
 | none=>false
def OkV (P:Program) (g:FuncId) (args:List V) (v:V):Prop:=Ok P g args [] fun r _ _=>Le r v
def bnd (x:Option V) (d:Nat) (K:Nat→Prop):Prop :=
 match x with
 | none=>K d
 | some (.lit (.int _ j))=>0≤j∧K j.toNat
 | some _=>False
def onS (v:V) (n:Nat) (KL:List (List V)→Prop) (KM:Nat→Nat→Nat→Nat→Prop):Prop :=
 match v with
 | .lit (.slice (some ⟨b,o,none⟩) l c)=>KM b o l c
 | v=>onL v n KL
theorem onS_spec {v:V} {n:Nat} {KL:List (List V)→Prop} {KM:Nat→Nat→Nat→Nat→Prop} (h:onS v n KL KM):onL v n KL∨∃ b o l c,v=.lit (.slice (some ⟨b,o,none⟩) l c)∧KM b o l c:=by
 unfold onS at h
 split at h
 ·exact .inr ⟨_,_,_,_,rfl,h⟩
 ·exact .inl h
def sliceK (P:Program) (t:TypeId) (v:V) (lo hi mx:Option V) (k:V→Prop):Prop :=
 match P.underlying t,v with
 | some .string,.lit (.string s)=>mx=none∧bnd hi s.size fun h=>bnd lo 0 fun l=>l≤h∧h≤s.size∧k (.lit (.string (s.extract l h)))
 | some (.slice e),v=>match tsz P e with
  | some n=>onS v n (fun es=>bnd hi es.length fun h=>bnd lo 0 fun l=>l≤h∧h≤es.length∧(∀ x,mx=some x→hi.isSome∧bnd mx 0 fun m=>h≤m∧m≤es.length)∧k (.list none n ((es.drop l).take (h - l))))
    fun b o ln c=>bnd mx c fun m=>bnd hi ln fun h=>bnd lo 0 fun l=>l≤h∧h≤m∧m≤c∧(mx.isSome=true→hi.isSome=true)∧k (.lit (.slice (some ⟨b,if m=l then o else o+l * n,none⟩) (h - l) (m - l)))
  | none=>False
 | _,_=>False
def lenK (P:Program) (t:TypeId) (v:V) (k:V→Prop):Prop :=
 match P.underlying t,v with
 | some .string,.lit (.string s)=>k (.lit (.int .i64 s.size))
 | some (.slice e),v=>match tsz P e with
  | some n=>onS v n (fun es=>k (.lit (.int .i64 es.length))) fun _ _ l _=>k (.lit (.int .i64 l))
  | none=>False
 | _,_=>False
def capK (P:Program) (t:TypeId) (v:V) (k:V→Prop):Prop :=
 match P.underlying t,v with
 | some (.slice _),.lit (.slice _ _ c)=>k (.lit (.int .i64 c))
 | _,_=>False
def convK (P:Program) (src dst:TypeId) (v:V) (k:V→Prop):Prop :=
 match P.underlying src,P.underlying dst,v with
 | some _,some (.int kk),.lit (.int _ n)=>k (.lit (.int kk (kk.wrap n)))
 | some _,some .string,.lit (.string s)=>k (.lit (.string s))
 | _,_,_=>False
def idxAddrK (P:Program) (t:TypeId) (v i:V) (k:V→Prop):Prop :=
 match P.underlying t,i with
 | some (.slice e),.lit (.int _ j)=>match tsz P e with
  | some n=>onS v n (fun es=>0≤j∧j < es.length∧k (.ref (es.getD j.toNat []))) fun b o l _=>0≤j∧j < l∧k (.lit (.pointer (some ⟨b,o+j.toNat * n,none⟩)))
  | none=>False
 | some (.array len e),.lit (.int _ j)=>match tsz P e with
  | some n=>0≤j∧j < len∧shiftP v (j.toNat * n) k
  | none=>False
 | _,_=>False
def idxK (P:Program) (t:TypeId) (v i:V) (k:V→Prop):Prop :=
 match P.underlying t,v,i with
 | some .string,.lit (.string s),.lit (.int _ j)=>0≤j∧j < s.size∧k (.lit (.int .u8 (s.data.toList.getD j.toNat 0).toNat))
 | some (.array len e),.agg cs,.lit (.int _ j)=>match tsz P e with
  | some n=>0≤j∧j < len∧partK P e cs (j.toNat * n) k
  | none=>False
 | _,_,_=>False
def fld (P:Program) (s:TypeId) (f:Nat):Option (Nat × TypeId) :=
 match P.underlying s with
 | some (.struct fs)=>(fs[f]?).map fun fd=>(fd.offset,fd.type)
 | _=>none
theorem fld_spec {P:Program} {s:TypeId} {f off:Nat} {t:TypeId} (h:fld P s f=some (off,t)):∃ fs fd,P.underlying s=some (.struct fs)∧fs[f]? = some fd∧fd.offset=off∧fd.type=t:=by
 unfold fld at h
 split at h
 ·rename_i fs hd
  cases hf:fs[f]? with
  | none=>simp [hf] at h
  | some fd=>simp [hf] at h;exact⟨fs,fd,hd,hf,h.1,h.2⟩
 ·cases h
def fieldAddrK (P:Program) (s:TypeId) (f:Nat) (v:V) (k:V→Prop):Prop :=
 match fld P s f with
 | some (off,t)=>match tsz P t with
  | some (_+1)=>shiftP v off k
  | _=>False
 | none=>False
def fieldK (P:Program) (s:TypeId) (f:Nat) (v:V) (k:V→Prop):Prop :=
 match fld P s f,v with
 | some (off,t),.agg cs=>partK P t cs off k
 | _,_=>False
def callK (P:Program) (f:V) (args:List V) (k:V→Prop):Prop :=
 match f with
 | .lit (.func (.func g) first cap)=>callB P g=true∧∃ v,OkV P g (first.toList.map .lit++args++cap.toList.map .lit) v∧k v
 | _=>False
def nilK (v:V) (k:V→Prop):Prop :=
 match v with
 | .lit (.pointer (some a))=>k (.lit (.pointer (some a)))
 | .ref cs=>k (.ref cs)
 | .lit (.func (.func g) first cap)=>k (.lit (.func (.func g) first cap))
 | _=>False
def detF (P:Program) (S:St) (o:Oper) (k:V→Prop):Prop :=
 match o.op with
 | .move x=>k (ev S.σ x)
 | .assign x=>k (ev S.σ x)
 | .pick c a b=>match ev S.σ c with
  | .lit (.bool t)=>k (if t=true then ev S.σ a else ev S.σ b)
  | _=>False
 | .load t a=>atP S (ev S.σ a) fun cs=>loadK P t cs k
 | .fieldAddr s x f=>fieldAddrK P s f (ev S.σ x) k
 | .field s x f=>fieldK P s f (ev S.σ x) k
 | .indexAddr t x i=>idxAddrK P t (ev S.σ x) (ev S.σ i) k
 | .index t x i=>idxK P t (ev S.σ x) (ev S.σ i) k
 | .binOp op t x y _=>binK P op t (ev S.σ x) (ev S.σ y) k
 | .unOp op _ x=>match ev S.σ x with
  | .lit a=>∃ v,sun op a=some v∧k (.lit v)
  | _=>False
 | .convert src dst x=>convK P src dst (ev S.σ x) k
 | .extract t i=>match ev S.σ t with
  | .tup vs=>match vs[i]? with
   | some v=>k v
   | none=>False
  | _=>False
 | .slice t x lo hi mx=>sliceK P t (ev S.σ x) (lo.map (ev S.σ)) (hi.map (ev S.σ)) (mx.map (ev S.σ)) k
 | .build t parts=>(placeOf P t 0).isSome=true∧buildK P t (parts.toList.map fun p=>(p.1,ev S.σ p.2)) k
 | .makeFunc fn first captured=>∃ l m,vals (first.toList.map (ev S.σ))=some l∧vals (captured.toList.map (ev S.σ))=some m∧k (.lit (.func fn l.toArray m.toArray))
 | .nilCheck x=>nilK (ev S.σ x) k
 | .call c=>match c.callee with
  | .builtin .len=>match c.args.toList,c.argTypes.toList with
   | [x],[t]=>lenK P t (ev S.σ x) k
   | _,_=>False
  | .builtin .cap=>match c.args.toList,c.argTypes.toList with
   | [x],[t]=>capK P t (ev S.σ x) k
   | _,_=>False
  | .builtin .max=>match c.args.toList.map (ev S.σ) with
   | [.lit (.int kk x),.lit (.int _ y)]=>k (.lit (.int kk (if y > x then y else x)))
   | _=>False
  | .builtin .min=>match c.args.toList.map (ev S.σ) with
   | [.lit (.int kk x),.lit (.int _ y)]=>k (.lit (.int kk (if y < x then y else x)))
   | _=>False
  | .value f=>callK P (ev S.σ f) (c.args.toList.map (ev S.σ)) k
  | _=>False
 | _=>False
end Go.VL
