/- Merged out of my text V3. -/
import Derived.Test.YtohdpcjaoiebkaaGreatDoorKV2
set_option linter.unusedSimpArgs false
set_option linter.unusedVariables false
set_option linter.defProp false
namespace Go.VL
open Go.RowKit
def qV (P:Program) (t:TypeId):Option Nat:=if t < ntypes then (P.info? t).map (·.size) else none
def xk (P:Program) (t:TypeId):Option Nat:=(P.info? t).map (·.bytes)
def z7 (P:Program) (t:TypeId):Option (List Value):=if t < ntypes then (P.info? t).bind fun i=>i.zero.map fun z=>z.cells.toList else none
theorem VC {P:Program} {t n} (h:qV P t=some n):t < ntypes:=by unfold qV at h;split at h <;> simp_all
theorem yD {P:Program} {t n} (h:qV P t=some n):(P.info? t).map (·.size)=some n:=by unfold qV at h;split at h <;> simp_all
theorem qze {P:Program} {t z} (h:z7 P t=some z):t < ntypes:=by unfold z7 at h;split at h <;> simp_all
theorem Zc {P:Program} {t z} (h:z7 P t=some z):((P.info? t).bind fun i=>i.zero.map fun z=>z.cells.toList)=some z:=by unfold z7 at h;split at h <;> simp_all
def zN (P:Program) (t:TypeId):Option Bool :=
 match P.underlying t with
 | some (.struct _)=>some true
 | some (.array _ _)=>some true
 | some _=>some false
 | none=>none
section
variable {P:Program} {w:World} {t:TypeId}
theorem zx {n:Nat} (h:qV P t=some n):(sizeOf t).run P w=.ok n w:=by
 replace h:=yD h
 cases hi:P.info? t with
 | none=>simp [hi] at h
 | some i=>simp [hi] at h;simp [sizeOf,typeInfo,hi,h]
theorem uY {b:Bool} (h:zN P t=some b):(isAgg t).run P w=.ok b w:=by
 unfold zN at h
 cases hd:P.underlying t with
 | none=>simp [hd] at h
 | some d=>cases d <;> simp [hd] at h <;> simp [isAgg,run_underlying hd,h]
theorem Zw {z:List Value} (h:z7 P t=some z):∃ v,(zeroValue t).run P w=.ok v w∧v.cells.toList=z:=by
 replace h:=Zc h
 cases hi:P.info? t with
 | none=>simp [hi] at h
 | some i =>
  cases hz:i.zero with
  | none=>simp [hi,hz] at h
  | some v=>simp [hi,hz] at h;exact⟨v,by simp [zeroValue,typeInfo,hi,hz],h⟩
end
def Ok (P:Program) (f:FuncId) (args:List V) (bs:List (Nat × B)) (Q:V→List (Nat × B)→List Row→Prop):Prop :=
 ∀ w I xs,V.reps w I args xs→kq w I bs [] →
  Calls P f xs.toArray w fun e w'=>∃ x v bs' rs' I',e=.returned x∧V.rep w' I' v x∧qJ (fun b=>b < w.heap.size∧b ∉ bs.map (·.1)) w I w' I' ∧
   kq w' I' bs' rs'∧(∀ b ∈ qA bs' rs',¬ (b < w.heap.size∧b ∉ bs.map (·.1)))∧Q v bs' rs'
def jn (C:Ctx) (S:St) (w:World) (I:Cells) (v:V):Result Next→Prop
 | .ok (.value x) w'=>∃ I',xE C S w' I'∧qM w I w' I'∧V.rep w' I' v x
 | .ok .skip w'=>∃ I',xE C S w' I'∧qM w I w' I'∧V.rep w' I' v undef
 | .ok (.enter f args) w'=>w'=w∧Calls C.P f args w fun e w''=>∃ x I',e=.returned x∧xE C S w'' I'∧qM w I w'' I'∧V.rep w'' I' v x
 | _=>False
def Oper.tm (o:Oper):List Tmp:=o.op.operands.toList.filterMap fun | .tmp t=>some t | _=>none
def JA (σ:Nat→V) (l:List Tmp) (a:Act) (w:World) (I:Cells):Prop:=(∀ t ∈ l,V.rep w I (σ t) (a.tmps.getD t undef))∧Yi w I
def xh (C:Ctx) (S:St) (o:Oper) (v:V):Prop :=
 ∀ a w I,JA S.σ (Oper.tm o) a w I→xE C S w I→jn C S w I v ((execOp a.eval o).run C.P w)
def ev (σ:Nat→V):Operand→V
 | .tmp t=>σ t
 | .const v=>.lit v
 | .global g=>gvL qir g
 | .func f=>.lit (.func (.func f) #[] #[])
theorem qgj {σ:Nat→V} {l:List Tmp} {a:Act} {w:World} {I:Cells} (h:JA σ l a w I) {x:Operand} (hx:∀ t,x=.tmp t→t ∈ l):V.rep w I (ev σ x) (a.eval x):=by
 cases x with
 | tmp t=>exact h.1 t (hx t rfl)
 | const v=>simp only [ev,V.rep,Act.eval]
 | global g=>exact V6 h.2.1
 | func f=>simp only [ev,V.rep,Act.eval]
theorem vB {o:Oper} {x:Operand} (hx:x ∈ o.op.operands):∀ t,x=.tmp t→t ∈ Oper.tm o:=fun t e=>by
 subst e
 exact List.mem_filterMap.2 ⟨.tmp t,by simpa using hx,rfl⟩
theorem ze {S:St} {o:Oper} {a:Act} {w:World} {I:Cells} (h:JA S.σ (Oper.tm o) a w I) {x:Operand} (hx:x ∈ o.op.operands):V.rep w I (ev S.σ x) (a.eval x) :=
 qgj h (vB hx)
theorem jn.same {C S w I v x} (hW:xE C S w I) (hv:V.rep w I v x):jn C S w I v (.ok (.value x) w):=⟨I,hW,qM.refl _ _,hv⟩
def Has (w:World) (I:Cells) (cs:List V) (b o:Nat):Prop:=∀ j v,cs[j]? = some v→∃ x,w.cell? ⟨b,o+j,none⟩=some x∧V.rep w I v x
theorem Has.of_ats {w I cs b o} (h:V.ats w I cs b o):Has w I cs b o:=fun j v hv=>by
 obtain⟨x,h1,_,_,h2⟩:=qdf h j v hv
 exact⟨x,h1,h2⟩
theorem Has.of_box {w I b cs} (h:xi w I b (.c cs)):Has w I cs b 0:=fun j v hv=>by
 obtain⟨arr,e,h1,_,h3,_⟩:=h
 have hl:=qC h3
 have hj:j < arr.toList.length:=by rw [hl];exact(List.getElem?_eq_some_iff.1 hv).1
 obtain⟨v',e1,e2⟩:=Zy h3 j _ (List.getElem?_eq_getElem hj)
 rw [e1] at hv
 obtain rfl:=Option.some.inj hv
 exact⟨_,by simp [World.cell?, h1],e2⟩
theorem Has.drop {w I cs b o} (h:Has w I cs b o) (n:Nat):Has w I (cs.drop n) b (o+n):=fun j v hv=>by
 have:=h (n+j) v (by simpa [List.getElem?_drop] using hv)
 rwa [show o+(n+j)=o+n+j from by omega] at this
def loadK (P:Program) (t:TypeId) (cs:List V) (k:V→Prop):Prop :=
 match zN P t,qV P t with
 | some true,some n=>n≤cs.length∧k (.agg (cs.take n))
 | some false,some _=>match cs with
  | c::_=>k c
  | []=>False
 | _,_=>False
theorem Zx {w:World} {I:Cells}:∀ {vs:List V} {xs:List Value},xs.length=vs.length→(∀ (j:Nat) (v:V) (x:Value),vs[j]? = some v→xs[j]? = some x→V.rep w I v x)→V.reps w I vs xs
 | [],[],_,_=>by simp only [V.reps]
 | v::vs,x::xs,hl,h=>by
  simp only [V.reps]
  exact⟨h 0 v x rfl rfl,Zx (by simpa using hl) fun j v' x' h1 h2=>h (j+1) v' x' (by simpa using h1) (by simpa using h2)⟩
 | [],_::_,hl,_=>by simp at hl
 | _::_,[],hl,_=>by simp at hl
theorem WO {P:Program} {t:TypeId} {cs:List V} {k:V→Prop} (h:loadK P t cs k) :
  ∃ v,k v∧∀ w I b o,Has w I cs b o→∃ x,(loadVar t ⟨b,o,none⟩).run P w=.ok x w∧V.rep w I v x:=by
 unfold loadK at h
 split at h
 ·rename_i n h1 h2
  refine⟨_,h.2,fun w I b o hh=>?_⟩
  have key:∀ j,j < n→∃ x,w.cell? ⟨b,o+j,none⟩=some x∧V.rep w I (cs.getD j .any) x:=fun j hj=>by
   have hl:j < cs.length:=Nat.lt_of_lt_of_le hj h.1
   have:=hh j cs[j] (List.getElem?_eq_getElem hl)
   simpa [List.getD,List.getElem?_eq_getElem hl] using this
  have hf:∃ f:Nat→Value,∀ j,j < n→w.cell? ⟨b,o+j,none⟩=some (f j)∧V.rep w I (cs.getD j .any) (f j) :=
   ⟨fun j=>if hj:j < n then (key j hj).choose else undef,fun j hj=>by simp only [hj,dif_pos];exact(key j hj).choose_spec⟩
  obtain⟨f,hf⟩:=hf
  refine⟨.agg ((List.range n).map f).toArray,?_,?_⟩
  ·have:=run_loadCells (P:=P) w ⟨b,o,none⟩ n f (fun j hj=>by rw [Addr.add_lit];exact(hf j hj).1)
   simp [loadVar,uY h1,zx h2,this]
  ·simp only [V.rep]
   refine⟨_,rfl,Zx (by simp [Nat.min_eq_left h.1]) fun j v x hv hx=>?_⟩
   rw [List.getElem?_take] at hv
   split at hv
   ·rename_i hj
    have hx':f j=x:=by simpa [List.getElem?_map,List.getElem?_range hj] using hx
    rw [← hx']
    have:=(hf j hj).2
    simpa [List.getD,hv] using this
   ·cases hv
 ·rename_i h1 h2
  cases cs with
  | nil=>exact h.elim
  | cons c cs =>
   refine⟨c,h,fun w I b o hh=>?_⟩
   obtain⟨x,e1,e2⟩:=hh 0 c rfl
   exact⟨x,by simp only [Nat.add_zero] at e1;simp [loadVar,uY h1,e1],e2⟩
 ·exact h.elim
def zu:List (Nat × B)→Nat→Option (List V)
 | [],_=>none
 | (b,.c cs)::r,x=>if x=b then some cs else zu r x
 | (b,_)::r,x=>if x=b then none else zu r x
theorem zX:∀ {bs:List (Nat × B)} {x:Nat} {cs:List V},zu bs x=some cs→(x,.c cs) ∈ bs
 | (b,.c c)::r,x,cs,h=>by
  unfold zu at h
  split at h
  ·rename_i e;subst e;obtain rfl:=Option.some.inj h;exact List.mem_cons_self
  ·exact List.mem_cons_of_mem _ (zX h)
 | (b,.m _ _ _)::r,x,cs,h=>by
  unfold zu at h
  split at h
  ·cases h
  ·exact List.mem_cons_of_mem _ (zX h)
 | (b,.it _ _ _ _)::r,x,cs,h=>by
  unfold zu at h
  split at h
  ·cases h
  ·exact List.mem_cons_of_mem _ (zX h)
 | (b,.obj _)::r,x,cs,h=>by
  unfold zu at h
  split at h
  ·cases h
  ·exact List.mem_cons_of_mem _ (zX h)
def atP (S:St) (p:V) (k:List V→Prop):Prop :=
 match p with
 | .ref cs=>k cs
 | .lit (.pointer (some ⟨b,o,none⟩))=>match zu S.boxes b with
  | some cs=>k (cs.drop o)
  | none=>False
 | _=>False
theorem qdg {C:Ctx} {S:St} {p:V} {k:List V→Prop} (h:atP S p k) :
  ∃ cs,k cs∧∀ w I x,xE C S w I→V.rep w I p x→∃ b o,x=.pointer (some ⟨b,o,none⟩)∧Has w I cs b o:=by
 unfold atP at h
 split at h
 ·rename_i cs
  refine⟨cs,h,fun w I x _ hx=>?_⟩
  simp only [V.rep] at hx
  obtain⟨b,o,rfl,h2⟩:=hx
  exact⟨b,o,rfl,Has.of_ats h2⟩
 ·rename_i b o
  split at h
  ·rename_i cs hb
   refine⟨_,h,fun w I x hW hx=>?_⟩
   simp only [V.rep] at hx
   have:=(Has.of_box (hW.heap.bx _ (zX hb))).drop o
   simp only [Nat.zero_add] at this
   exact⟨b,o,hx,this⟩
  ·exact h.elim
 ·exact h.elim
def onL (v:V) (k:Nat) (K:List (List V)→Prop):Prop :=
 match v with
 | .list _ k' es=>k'=k∧K es
 | .lit (.slice none 0 0)=>K []
 | _=>False
theorem ZD {v:V} {k:Nat} {K:List (List V)→Prop} (h:onL v k K) :
  ∃ es,K es∧∀ w I x,V.rep w I v x→∃ a c,x=.slice a es.length c∧es.length≤c∧(es=[]∨∃ b o,a=some ⟨b,o,none⟩∧V.lies w I k es b o):=by
 unfold onL at h
 split at h
 ·rename_i own k' es
  obtain⟨rfl,h⟩:=h
  refine⟨es,h,fun w I x hx=>?_⟩
  simp only [V.rep] at hx
  obtain⟨_,a,c,h1,h2,h3⟩:=hx
  exact⟨a,c,h1,h2,h3⟩
 ·refine⟨[],h,fun w I x hx=>?_⟩
  simp only [V.rep] at hx
  exact⟨none,0,hx,Nat.le_refl _,.inl rfl⟩
 ·exact h.elim
end Go.VL
