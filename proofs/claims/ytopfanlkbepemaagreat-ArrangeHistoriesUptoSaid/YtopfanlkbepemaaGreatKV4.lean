/- Merged out of my text V4. -/
import Derived.Test.YtopfanlkbepemaaGreatKV3
import Derived.Laws.Strings
import Derived.Laws.Cover3
import Derived.Laws.Small
namespace Go.VL
open Go.RowKit
def sbin:BinOp→Value→Value→Option Value
 | .add,.int k a,.int k' b=>if k=k' then some (.int k (k.wrap (a+b))) else none
 | .sub,.int k a,.int k' b=>if k=k' then some (.int k (k.wrap (a - b))) else none
 | .mul,.int k a,.int k' b=>if k=k' then some (.int k (k.wrap (a * b))) else none
 | .quo,.int k a,.int k' b=>if k=k'∧b ≠ 0 then some (.int k (k.wrap (a.tdiv b))) else none
 | .rem,.int k a,.int k' b=>if k=k'∧b ≠ 0 then some (.int k (a.tmod b)) else none
 | .eql,.int k a,.int k' b=>if k=k' then some (.bool (decide (a=b))) else none
 | .neq,.int k a,.int k' b=>if k=k' then some (.bool (!decide (a=b))) else none
 | .lss,.int k a,.int k' b=>if k=k' then some (.bool (decide (a < b))) else none
 | .leq,.int k a,.int k' b=>if k=k' then some (.bool (decide (a≤b))) else none
 | .gtr,.int k a,.int k' b=>if k=k' then some (.bool (decide (b < a))) else none
 | .geq,.int k a,.int k' b=>if k=k' then some (.bool (decide (b≤a))) else none
 | .and,.int k a,.int k' b=>if k=k' then some (.int k (k.wrap (BitVec.ofInt k.bits a &&& BitVec.ofInt k.bits b).toNat)) else none
 | .or,.int k a,.int k' b=>if k=k' then some (.int k (k.wrap (BitVec.ofInt k.bits a ||| BitVec.ofInt k.bits b).toNat)) else none
 | .xor,.int k a,.int k' b=>if k=k' then some (.int k (k.wrap (BitVec.ofInt k.bits a ^^^ BitVec.ofInt k.bits b).toNat)) else none
 | .shl,.int k a,.int _ b=>if 0≤b then some (.int k (k.wrap (a * 2 ^ min b.toNat k.bits))) else none
 | .shr,.int k a,.int _ b=>if 0≤b then some (.int k (a.fdiv (2 ^ min b.toNat k.bits))) else none
 | .eql,.string a,.string b=>some (.bool (decide (a=b)))
 | .neq,.string a,.string b=>some (.bool (!decide (a=b)))
 | .lss,.string a,.string b=>some (.bool (Op.bytesLess a.data.toList b.data.toList))
 | .leq,.string a,.string b=>some (.bool (Op.bytesLess a.data.toList b.data.toList || decide (a=b)))
 | .gtr,.string a,.string b=>some (.bool (!(Op.bytesLess a.data.toList b.data.toList || decide (a=b))))
 | .geq,.string a,.string b=>some (.bool (!Op.bytesLess a.data.toList b.data.toList))
 | .add,.string a,.string b=>if a.size+b.size≤9223372036854775807 then some (.string (a++b)) else none
 | _,_,_=>none
theorem str_beq (a b:ByteArray):(a.toList == b.toList)=decide (a=b):=by
 rw [ByteArray.toList_eq,ByteArray.toList_eq,Bool.eq_iff_iff]
 simp only [beq_iff_eq,decide_eq_true_eq]
 constructor
 ·intro h;exact ByteArray.ext (Array.ext' h)
 ·rintro rfl;rfl
theorem str_less (a b:ByteArray):Op.bytesLess a.toList b.toList=Op.bytesLess a.data.toList b.data.toList:=by rw [ByteArray.toList_eq,ByteArray.toList_eq]
set_option linter.unusedSimpArgs false in
theorem sbin_spec {op:BinOp} {t:TypeId} {x y:Operand} {a b v:Value} {P:Program} (h:sbin op a b=some v) (w:World) :
  (do eqGuard op t x y a b;binOp op t a b:Sem Value).run P w=.ok v w:=by
 unfold sbin at h
 split at h <;> first
  | (split at h <;> first
    | (rename_i hk;first
      | (obtain⟨rfl,hb⟩:=hk;obtain rfl:=Option.some.inj h;simp [eqGuard,binOp,Op.intDiv,hb];done)
      | (subst hk;obtain rfl:=Option.some.inj h;simp [eqGuard,binOp,Op.intArith,Op.intCmp,Op.intBits,bne];try (first | rfl | done))
      | (obtain rfl:=Option.some.inj h;simp [eqGuard,binOp,Op.shift,Int.not_lt.2 hk];done)
      | (obtain rfl:=Option.some.inj h;simp [eqGuard,binOp,Op.stringOp];omega))
    | cases h)
  | (obtain rfl:=Option.some.inj h;simp [eqGuard,binOp,Op.stringOp,str_beq,str_less];done)
  | cases h
def sun:UnOp→Value→Option Value
 | .neg,.int k a=>some (.int k (k.wrap (0 - a)))
 | .not,.bool b=>some (.bool (!b))
 | _,_=>none
theorem sun_spec {op:UnOp} {a v:Value} {P:Program} (h:sun op a=some v) (w:World):(Op.unary op a).run P w=.ok v w:=by
 unfold sun at h
 split at h <;> first
  | (obtain rfl:=Option.some.inj h;simp [Op.unary,Op.intArith];done)
  | cases h
def vals:List V→Option (List Value)
 | []=>some []
 | .lit v::r=>(vals r).map (v::·)
 | _::_=>none
theorem vals_spec {w:World} {I:Cells}:∀ {vs:List V} {l xs:List Value},vals vs=some l→V.reps w I vs xs→xs=l
 | [],l,xs,h,hr=>by
  cases xs with
  | nil=>simpa [vals] using h
  | cons x xs=>simp [V.reps] at hr
 | .lit v::r,l,xs,h,hr=>by
  cases xs with
  | nil=>simp [V.reps] at hr
  | cons x xs =>
   simp only [V.reps,V.rep] at hr
   cases hv:vals r with
   | none=>simp [vals,hv] at h
   | some l' =>
    simp [vals,hv] at h
    rw [← h,hr.1,vals_spec hv hr.2]
 | .any::_,_,_,h,_=>by simp [vals] at h
 | .agg _::_,_,_,h,_=>by simp [vals] at h
 | .list _ _ _::_,_,_,h,_=>by simp [vals] at h
 | .ref _::_,_,_,h,_=>by simp [vals] at h
 | .tup _::_,_,_,h,_=>by simp [vals] at h
def EqAgg (P:Program) (op:BinOp) (t:TypeId) (xs ys:List Value) (b:Bool):Prop :=
 ∀ x y w,(do eqGuard op t x y (.agg xs.toArray) (.agg ys.toArray);binOp op t (.agg xs.toArray) (.agg ys.toArray):Sem Value).run P w=.ok (.bool b) w
def nilB (op:BinOp) (b:Bool):Option Bool:=match op with | .eql=>some b | .neq=>some (!b) | _=>none
def nilQ (P:Program) (op:BinOp) (t:TypeId) (b:Bool) (k:V→Prop):Prop :=
 ∃ e v,P.underlying t=some (.slice e)∧nilB op b=some v∧k (.lit (.bool v))
theorem nilQ_run {P:Program} {op:BinOp} {t e:TypeId} {x y:Operand} {p:Option Addr} {n c:Nat} {v:Bool} (hu:P.underlying t=some (.slice e)) (h:nilB op p.isNone=some v) (w:World) :
  (do eqGuard op t x y (.slice p n c) (.slice none 0 0);binOp op t (.slice p n c) (.slice none 0 0):Sem Value).run P w=.ok (.bool v) w:=by
 have hq:=run_equal_slice_nil (P:=P) w t e p n c hu
 cases op with
 | eql=>obtain rfl:=Option.some.inj h;simp [eqGuard,binOp,hq]
 | neq=>obtain rfl:=Option.some.inj h;simp [eqGuard,binOp,hq]
 | _=>cases h
def boolK (P:Program) (op:BinOp) (t:TypeId) (a b:Bool) (k:V→Prop):Prop :=
 ∃ v,P.underlying t=some .bool∧nilB op (decide (a=b))=some v∧k (.lit (.bool v))
theorem boolK_run {P:Program} {op:BinOp} {t:TypeId} {x y:Operand} {a b v:Bool} (hu:P.underlying t=some .bool) (h:nilB op (decide (a=b))=some v) (w:World) :
  (do eqGuard op t x y (.bool a) (.bool b);binOp op t (.bool a) (.bool b):Sem Value).run P w=.ok (.bool v) w:=by
 have hq:=run_equal_bool (P:=P) w t a b hu
 cases op with
 | eql=>obtain rfl:=Option.some.inj h;cases a <;> cases b <;> simp [eqGuard,binOp,hq]
 | neq=>obtain rfl:=Option.some.inj h;cases a <;> cases b <;> simp [eqGuard,binOp,hq]
 | _=>cases h
def notNil:Option Value→Bool
 | some (.slice (some _) _ _)=>true
 | _=>false
def binK (P:Program) (op:BinOp) (t:TypeId) (x y:V) (k:V→Prop):Prop :=
 match x,y with
 | .lit (.slice p _ _),.lit (.slice none 0 0)=>nilQ P op t p.isNone k
 | .list o _ es,.lit (.slice none 0 0)=>(es ≠ []∨notNil o=true)∧nilQ P op t false k
 | .lit (.bool a),.lit (.bool b)=>boolK P op t a b k
 | .lit a,.lit b=>∃ v,sbin op a b=some v∧k (.lit v)
 | .agg xs,.agg ys=>∃ l m b,vals xs=some l∧vals ys=some m∧EqAgg P op t l m b∧k (.lit (.bool b))
 | _,_=>False
theorem binK_spec {C:Ctx} {S:St} {o:Oper} {op:BinOp} {t t':TypeId} {x y:Operand} (ho:o.op=.binOp op t x y t') {k:V→Prop}
  (h:binK C.P op t (ev S.σ x) (ev S.σ y) k):∃ v,DetOp C S o v∧k v:=by
 unfold binK at h
 split at h
 ·rename_i p n c h1 h2
  obtain⟨e,v,hu,hv,hk⟩:=h
  refine⟨_,fun ac w I hR hW=>?_,hk⟩
  have r1:=ev_of hR (x:=x) (by simp [ho,Op.operands])
  have r2:=ev_of hR (x:=y) (by simp [ho,Op.operands])
  rw [h1] at r1;rw [h2] at r2
  simp only [V.rep] at r1 r2
  simp only [execOp,ho,r1,r2]
  rw [Sem.run_bind,nilQ_run hu hv w]
  exact Yld.same hW (by simp only [V.rep])
 ·rename_i own kk es h1 h2
  obtain⟨hne,e,v,hu,hv,hk⟩:=h
  refine⟨_,fun ac w I hR hW=>?_,hk⟩
  have r1:=ev_of hR (x:=x) (by simp [ho,Op.operands])
  have r2:=ev_of hR (x:=y) (by simp [ho,Op.operands])
  rw [h1] at r1;rw [h2] at r2
  simp only [V.rep] at r1 r2
  obtain⟨hown,a,c,hx,_,hl⟩:=r1
  obtain⟨p,rfl⟩:∃ p,a=some p:=by
   rcases hne with hne | hn
   ·obtain⟨b,o',rfl,_⟩:=hl.resolve_left hne
    exact⟨_,rfl⟩
   ·unfold notNil at hn
    split at hn
    ·have:=hown _ rfl
     rw [hx] at this
     injection this with h1
     exact⟨_,h1⟩
    ·cases hn
  simp only [execOp,ho,hx,r2]
  rw [Sem.run_bind,nilQ_run hu (p:=some p) hv w]
  exact Yld.same hW (by simp only [V.rep])
 ·rename_i a b h1 h2
  obtain⟨v,hu,hv,hk⟩:=h
  refine⟨_,fun ac w I hR hW=>?_,hk⟩
  have r1:=ev_of hR (x:=x) (by simp [ho,Op.operands])
  have r2:=ev_of hR (x:=y) (by simp [ho,Op.operands])
  rw [h1] at r1;rw [h2] at r2
  simp only [V.rep] at r1 r2
  simp only [execOp,ho,r1,r2]
  rw [Sem.run_bind,boolK_run hu hv w]
  exact Yld.same hW (by simp only [V.rep])
 ·rename_i a b _ _ h1 h2
  obtain⟨v,hv,hk⟩:=h
  refine⟨_,fun ac w I hR hW=>?_,hk⟩
  have r1:=ev_of hR (x:=x) (by simp [ho,Op.operands])
  have r2:=ev_of hR (x:=y) (by simp [ho,Op.operands])
  rw [h1] at r1;rw [h2] at r2
  simp only [V.rep] at r1 r2
  have hrun:=sbin_spec (P:=C.P) (t:=t) (x:=x) (y:=y) hv w
  simp only [execOp,ho,r1,r2]
  rw [Sem.run_bind,hrun]
  exact Yld.same hW (by simp only [V.rep])
 ·rename_i xs ys h1 h2
  obtain⟨l,m,b,e1,e2,he,hk⟩:=h
  refine⟨_,fun ac w I hR hW=>?_,hk⟩
  have r1:=ev_of hR (x:=x) (by simp [ho,Op.operands])
  have r2:=ev_of hR (x:=y) (by simp [ho,Op.operands])
  rw [h1] at r1;rw [h2] at r2
  simp only [V.rep] at r1 r2
  obtain⟨A,hA,hA'⟩:=r1
  obtain⟨B,hB,hB'⟩:=r2
  have eA:=vals_spec e1 hA'
  have eB:=vals_spec e2 hB'
  have hrun:=he x y w
  rw [← eA,← eB] at hrun
  simp only [Array.toArray_toList] at hrun
  simp only [execOp,ho,hA,hB]
  rw [Sem.run_bind,hrun]
  exact Yld.same hW (by simp only [V.rep])
 ·exact h.elim
def partK (P:Program) (t:TypeId) (cs:List V) (off:Nat) (k:V→Prop):Prop :=
 match tag P t,tsz P t with
 | some true,some n=>k (.agg ((cs.drop off).take n))
 | some false,some _=>match cs.drop off with
  | c::_=>k c
  | []=>False
 | _,_=>False
theorem reps_drop {w:World} {I:Cells}:∀ (n:Nat) {vs:List V} {xs:List Value},V.reps w I vs xs→V.reps w I (vs.drop n) (xs.drop n)
 | 0,_,_,h=>h
 | n+1,[],xs,h=>by cases xs with
  | nil=>simpa using h
  | cons=>simp [V.reps] at h
 | n+1,v::vs,xs,h=>by cases xs with
  | nil=>simp [V.reps] at h
  | cons x xs=>simp only [V.reps] at h;simpa using reps_drop n h.2
theorem reps_take {w:World} {I:Cells}:∀ (n:Nat) {vs:List V} {xs:List Value},V.reps w I vs xs→V.reps w I (vs.take n) (xs.take n)
 | 0,_,_,_=>by simp [V.reps]
 | n+1,[],xs,h=>by cases xs with
  | nil=>simp [V.reps]
  | cons=>simp [V.reps] at h
 | n+1,v::vs,xs,h=>by cases xs with
  | nil=>simp [V.reps] at h
  | cons x xs=>simp only [V.reps] at h;simp only [List.take_succ_cons,V.reps];exact⟨h.1,reps_take n h.2⟩
theorem partK_spec {P:Program} {t:TypeId} {cs:List V} {off:Nat} {k:V→Prop} (h:partK P t cs off k) :
  ∃ v,k v∧∀ w I (xs:Array Value),V.reps w I cs xs.toList→∃ x,(part t xs off).run P w=.ok x w∧V.rep w I v x:=by
 unfold partK at h
 split at h
 ·rename_i n h1 h2
  refine⟨_,h,fun w I xs hx=>⟨.agg (xs.extract off (off+n)),by simp [part,run_tag h1,run_tsz h2],?_⟩⟩
  simp only [V.rep]
  refine⟨_,rfl,?_⟩
  have:(xs.extract off (off+n)).toList=(xs.toList.drop off).take n:=by simp [List.extract_eq_take_drop,Nat.add_sub_cancel_left]
  rw [this]
  exact reps_take n (reps_drop off hx)
 ·rename_i h1 h2
  split at h
  ·rename_i c r hc
   refine⟨c,h,fun w I xs hx=>?_⟩
   have:=reps_drop off hx
   rw [hc] at this
   cases hd:xs.toList.drop off with
   | nil=>rw [hd] at this;simp [V.reps] at this
   | cons x r' =>
    rw [hd] at this
    simp only [V.reps] at this
    have hg:xs[off]? = some x:=by
     have:=congrArg (·[0]?) hd
     simpa [List.getElem?_drop] using this
    exact⟨x,by simp [part,run_tag h1,hg],this.1⟩
  ·exact h.elim
 ·exact h.elim
end Go.VL
