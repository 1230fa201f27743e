/- Merged out of my text V3. -/
import Derived.Test.YtopfanlkbepemaaGreatKV2
set_option linter.defProp false
namespace Go.VL
open Go.RowKit
def tsz (P:Program) (t:TypeId):Option Nat:=(P.info? t).map (·.size)
def tby (P:Program) (t:TypeId):Option Nat:=(P.info? t).map (·.bytes)
def tzr (P:Program) (t:TypeId):Option (List Value):=(P.info? t).bind fun i=>i.zero.map fun z=>z.cells.toList
def tag (P:Program) (t:TypeId):Option Bool :=
 match P.underlying t with
 | some (.struct _)=>some true
 | some (.array _ _)=>some true
 | some _=>some false
 | none=>none
section
variable {P:Program} {w:World} {t:TypeId}
theorem run_tsz {n:Nat} (h:tsz P t=some n):(sizeOf t).run P w=.ok n w:=by
 unfold tsz at h
 cases hi:P.info? t with
 | none=>simp [hi] at h
 | some i=>simp [hi] at h;simp [sizeOf,typeInfo,hi,h]
theorem run_tag {b:Bool} (h:tag P t=some b):(isAgg t).run P w=.ok b w:=by
 unfold tag at h
 cases hd:P.underlying t with
 | none=>simp [hd] at h
 | some d=>cases d <;> simp [hd] at h <;> simp [isAgg,run_underlying hd,h]
theorem run_tzr {z:List Value} (h:tzr P t=some z):∃ v,(zeroValue t).run P w=.ok v w∧v.cells.toList=z:=by
 unfold tzr at h
 cases hi:P.info? t with
 | none=>simp [hi] at h
 | some i =>
  cases hz:i.zero with
  | none=>simp [hi,hz] at h
  | some v=>simp [hi,hz] at h;exact⟨v,by simp [zeroValue,typeInfo,hi,hz],h⟩
end
def Ok (P:Program) (f:FuncId) (args:List V) (bs:List (Nat × B)) (Q:V→List (Nat × B)→List Row→Prop):Prop :=
 ∀ w I xs,V.reps w I args xs→Heap w I bs [] →
  Calls P f xs.toArray w fun e w'=>∃ x v bs' rs' I',e=.returned x∧V.rep w' I' v x∧Keeps (fun b=>b < w.heap.size∧b ∉ bs.map (·.1)) w I w' I' ∧
   Heap w' I' bs' rs'∧(∀ b ∈ blks bs' rs',¬ (b < w.heap.size∧b ∉ bs.map (·.1)))∧Q v bs' rs'
def Yld (C:Ctx) (S:St) (w:World) (I:Cells) (v:V):Result Next→Prop
 | .ok (.value x) w'=>∃ I',ΓW C S w' I'∧Stays w I w' I'∧V.rep w' I' v x
 | .ok .skip w'=>∃ I',ΓW C S w' I'∧Stays w I w' I'∧V.rep w' I' v undef
 | .ok (.enter f args) w'=>w'=w∧Calls C.P f args w fun e w''=>∃ x I',e=.returned x∧ΓW C S w'' I'∧Stays w I w'' I'∧V.rep w'' I' v x
 | _=>False
def Oper.tm (o:Oper):List Tmp:=o.op.operands.toList.filterMap fun | .tmp t=>some t | _=>none
def Reads (σ:Nat→V) (l:List Tmp) (a:Act) (w:World) (I:Cells):Prop:=(∀ t ∈ l,V.rep w I (σ t) (a.tmps.getD t undef))∧Glob w I
def DetOp (C:Ctx) (S:St) (o:Oper) (v:V):Prop :=
 ∀ a w I,Reads S.σ (Oper.tm o) a w I→ΓW C S w I→Yld C S w I v ((execOp a.eval o).run C.P w)
def ev (σ:Nat→V):Operand→V
 | .tmp t=>σ t
 | .const v=>.lit v
 | .global g=>gvL globs g
 | .func f=>.lit (.func (.func f) #[] #[])
theorem ev_rep {σ:Nat→V} {l:List Tmp} {a:Act} {w:World} {I:Cells} (h:Reads σ l a w I) {x:Operand} (hx:∀ t,x=.tmp t→t ∈ l):V.rep w I (ev σ x) (a.eval x):=by
 cases x with
 | tmp t=>exact h.1 t (hx t rfl)
 | const v=>simp only [ev,V.rep,Act.eval]
 | global g=>exact gvL_rep h.2.1
 | func f=>simp only [ev,V.rep,Act.eval]
theorem mem_tm {o:Oper} {x:Operand} (hx:x ∈ o.op.operands):∀ t,x=.tmp t→t ∈ Oper.tm o:=fun t e=>by
 subst e
 exact List.mem_filterMap.2 ⟨.tmp t,by simpa using hx,rfl⟩
theorem ev_of {S:St} {o:Oper} {a:Act} {w:World} {I:Cells} (h:Reads S.σ (Oper.tm o) a w I) {x:Operand} (hx:x ∈ o.op.operands):V.rep w I (ev S.σ x) (a.eval x) :=
 ev_rep h (mem_tm hx)
theorem Yld.same {C S w I v x} (hW:ΓW C S w I) (hv:V.rep w I v x):Yld C S w I v (.ok (.value x) w):=⟨I,hW,Stays.refl _ _,hv⟩
def Has (w:World) (I:Cells) (cs:List V) (b o:Nat):Prop:=∀ j v,cs[j]? = some v→∃ x,w.cell? ⟨b,o+j,none⟩=some x∧V.rep w I v x
theorem Has.of_ats {w I cs b o} (h:V.ats w I cs b o):Has w I cs b o:=fun j v hv=>by
 obtain⟨x,h1,_,_,h2⟩:=ats_cell h j v hv
 exact⟨x,h1,h2⟩
theorem Has.of_box {w I b cs} (h:BoxAt w I b (.c cs)):Has w I cs b 0:=fun j v hv=>by
 obtain⟨arr,e,h1,_,h3,_⟩:=h
 have hl:=reps_length h3
 have hj:j < arr.toList.length:=by rw [hl];exact(List.getElem?_eq_some_iff.1 hv).1
 obtain⟨v',e1,e2⟩:=reps_get h3 j _ (List.getElem?_eq_getElem hj)
 rw [e1] at hv
 obtain rfl:=Option.some.inj hv
 exact⟨_,by simp [World.cell?, h1],e2⟩
theorem Has.drop {w I cs b o} (h:Has w I cs b o) (n:Nat):Has w I (cs.drop n) b (o+n):=fun j v hv=>by
 have:=h (n+j) v (by simpa [List.getElem?_drop] using hv)
 rwa [show o+(n+j)=o+n+j from by omega] at this
def loadK (P:Program) (t:TypeId) (cs:List V) (k:V→Prop):Prop :=
 match tag P t,tsz P t with
 | some true,some n=>n≤cs.length∧k (.agg (cs.take n))
 | some false,some _=>match cs with
  | c::_=>k c
  | []=>False
 | _,_=>False
theorem reps_of_list {w:World} {I:Cells}:∀ {vs:List V} {xs:List Value},xs.length=vs.length→(∀ (j:Nat) (v:V) (x:Value),vs[j]? = some v→xs[j]? = some x→V.rep w I v x)→V.reps w I vs xs
 | [],[],_,_=>by simp only [V.reps]
 | v::vs,x::xs,hl,h=>by
  simp only [V.reps]
  exact⟨h 0 v x rfl rfl,reps_of_list (by simpa using hl) fun j v' x' h1 h2=>h (j+1) v' x' (by simpa using h1) (by simpa using h2)⟩
 | [],_::_,hl,_=>by simp at hl
 | _::_,[],hl,_=>by simp at hl
theorem loadK_spec {P:Program} {t:TypeId} {cs:List V} {k:V→Prop} (h:loadK P t cs k) :
  ∃ v,k v∧∀ w I b o,Has w I cs b o→∃ x,(loadVar t ⟨b,o,none⟩).run P w=.ok x w∧V.rep w I v x:=by
 unfold loadK at h
 split at h
 ·rename_i n h1 h2
  refine⟨_,h.2,fun w I b o hh=>?_⟩
  have key:∀ j,j < n→∃ x,w.cell? ⟨b,o+j,none⟩=some x∧V.rep w I (cs.getD j .any) x:=fun j hj=>by
   have hl:j < cs.length:=Nat.lt_of_lt_of_le hj h.1
   have:=hh j cs[j] (List.getElem?_eq_getElem hl)
   simpa [List.getD,List.getElem?_eq_getElem hl] using this
  have hf:∃ f:Nat→Value,∀ j,j < n→w.cell? ⟨b,o+j,none⟩=some (f j)∧V.rep w I (cs.getD j .any) (f j) :=
   ⟨fun j=>if hj:j < n then (key j hj).choose else undef,fun j hj=>by simp only [hj,dif_pos];exact(key j hj).choose_spec⟩
  obtain⟨f,hf⟩:=hf
  refine⟨.agg ((List.range n).map f).toArray,?_,?_⟩
  ·have:=run_loadCells (P:=P) w ⟨b,o,none⟩ n f (fun j hj=>by rw [Addr.add_lit];exact(hf j hj).1)
   simp [loadVar,run_tag h1,run_tsz h2,this]
  ·simp only [V.rep]
   refine⟨_,rfl,reps_of_list (by simp [Nat.min_eq_left h.1]) fun j v x hv hx=>?_⟩
   rw [List.getElem?_take] at hv
   split at hv
   ·rename_i hj
    have hx':f j=x:=by simpa [List.getElem?_map,List.getElem?_range hj] using hx
    rw [← hx']
    have:=(hf j hj).2
    simpa [List.getD,hv] using this
   ·cases hv
 ·rename_i h1 h2
  cases cs with
  | nil=>exact h.elim
  | cons c cs =>
   refine⟨c,h,fun w I b o hh=>?_⟩
   obtain⟨x,e1,e2⟩:=hh 0 c rfl
   exact⟨x,by simp only [Nat.add_zero] at e1;simp [loadVar,run_tag h1,e1],e2⟩
 ·exact h.elim
def getB:List (Nat × B)→Nat→Option (List V)
 | [],_=>none
 | (b,.c cs)::r,x=>if x=b then some cs else getB r x
 | (b,_)::r,x=>if x=b then none else getB r x
theorem getB_mem:∀ {bs:List (Nat × B)} {x:Nat} {cs:List V},getB bs x=some cs→(x,.c cs) ∈ bs
 | (b,.c c)::r,x,cs,h=>by
  unfold getB at h
  split at h
  ·rename_i e;subst e;obtain rfl:=Option.some.inj h;exact List.mem_cons_self
  ·exact List.mem_cons_of_mem _ (getB_mem h)
 | (b,.m _ _ _)::r,x,cs,h=>by
  unfold getB at h
  split at h
  ·cases h
  ·exact List.mem_cons_of_mem _ (getB_mem h)
 | (b,.it _ _ _ _)::r,x,cs,h=>by
  unfold getB at h
  split at h
  ·cases h
  ·exact List.mem_cons_of_mem _ (getB_mem h)
 | (b,.obj _)::r,x,cs,h=>by
  unfold getB at h
  split at h
  ·cases h
  ·exact List.mem_cons_of_mem _ (getB_mem h)
def atP (S:St) (p:V) (k:List V→Prop):Prop :=
 match p with
 | .ref cs=>k cs
 | .lit (.pointer (some ⟨b,o,none⟩))=>match getB S.boxes b with
  | some cs=>k (cs.drop o)
  | none=>False
 | _=>False
theorem atP_spec {C:Ctx} {S:St} {p:V} {k:List V→Prop} (h:atP S p k) :
  ∃ cs,k cs∧∀ w I x,ΓW C S w I→V.rep w I p x→∃ b o,x=.pointer (some ⟨b,o,none⟩)∧Has w I cs b o:=by
 unfold atP at h
 split at h
 ·rename_i cs
  refine⟨cs,h,fun w I x _ hx=>?_⟩
  simp only [V.rep] at hx
  obtain⟨b,o,rfl,h2⟩:=hx
  exact⟨b,o,rfl,Has.of_ats h2⟩
 ·rename_i b o
  split at h
  ·rename_i cs hb
   refine⟨_,h,fun w I x hW hx=>?_⟩
   simp only [V.rep] at hx
   have:=(Has.of_box (hW.heap.bx _ (getB_mem hb))).drop o
   simp only [Nat.zero_add] at this
   exact⟨b,o,hx,this⟩
  ·exact h.elim
 ·exact h.elim
def onL (v:V) (k:Nat) (K:List (List V)→Prop):Prop :=
 match v with
 | .list _ k' es=>k'=k∧K es
 | .lit (.slice none 0 0)=>K []
 | _=>False
theorem onL_spec {v:V} {k:Nat} {K:List (List V)→Prop} (h:onL v k K) :
  ∃ es,K es∧∀ w I x,V.rep w I v x→∃ a c,x=.slice a es.length c∧es.length≤c∧(es=[]∨∃ b o,a=some ⟨b,o,none⟩∧V.lies w I k es b o):=by
 unfold onL at h
 split at h
 ·rename_i own k' es
  obtain⟨rfl,h⟩:=h
  refine⟨es,h,fun w I x hx=>?_⟩
  simp only [V.rep] at hx
  obtain⟨_,a,c,h1,h2,h3⟩:=hx
  exact⟨a,c,h1,h2,h3⟩
 ·refine⟨[],h,fun w I x hx=>?_⟩
  simp only [V.rep] at hx
  exact⟨none,0,hx,Nat.le_refl _,.inl rfl⟩
 ·exact h.elim
end Go.VL
