/- Merged out of my text V9. -/
import Derived.OrdersIn
import Derived.RangeFuncCalls
import Derived.TacticsIn
import Derived.Test.YtopfanlkbepemaaGreatKV8
import Derived.StillTail
namespace Go.VL
open Go.RowKit
def St.put (S:St) (d:Option Nat) (v:V):St:={ S with σ:=upd S.σ d v }
def isB (x:Value) (want:Bool):Bool:=match x with | .bool b=>b == want | _=>false
def skipV:V:=.lit undef
def wantA (ops:Array Oper) (σ:Nat→V) (o:Oper):Option Bool :=
 match o.guard with
 | none=>some true
 | some (g,want)=>match (ops[g]?).bind (·.dst) with
  | some d=>match σ d with
   | .lit x=>some (isB x want)
   | _=>none
  | none=>none
theorem ΓW.put {C S w I} (h:ΓW C S w I) (d:Option Nat) (v:V):ΓW C (S.put d v) w I:=⟨h.heap,h.mine,h.keeps,h.lo⟩
def Step (C:Ctx) (S:St) (o:Oper) (K:St→Prop):Prop :=
 ∀ a w I,Γ C S a w I→∀ Q,o.wpIn C.fe 0 C.P a w (fun a' w'=>∃ S' I',Γ C S' a' w' I'∧K S') Q
def dstOk (N:Nat) (o:Oper):Bool:=match o.dst with | some d=>decide (d < N) | none=>true
theorem dstOk_spec {N:Nat} {o:Oper} (h:dstOk N o=true):∀ i,o.dst=some i→i < N:=by
 intro i hi
 simpa [dstOk,hi] using h
theorem wantA_spec {C S a w I} {ops:Array Oper} {o:Oper} {b:Bool} (hΓ:Γ C S a w I) (h:wantA ops S.σ o=some b):Region.wanted o (yielded ops a.tmps)=b:=by
 unfold wantA at h
 unfold Region.wanted
 cases hg:o.guard with
 | none=>simp only [hg,Option.some.injEq] at h;simpa using h
 | some gw =>
  obtain⟨g,want⟩:=gw
  simp only [hg] at h ⊢
  cases hd:(ops[g]?).bind (·.dst) with
  | none=>simp [hd] at h
  | some d =>
   simp only [hd] at h
   split at h
   ·rename_i c hc
    simp only [Option.some.injEq] at h
    have r:=hΓ.1.tmps d
    rw [hc] at r
    simp only [V.rep] at r
    rw [← h]
    simp only [yielded,hd,Option.bind_some]
    cases ht:a.tmps[d]? with
    | none =>
     simp [ht] at r
     rw [← r];rfl
    | some x =>
     simp [ht] at r
     rw [← r];cases x <;> (first | rfl | (rename_i b;cases b <;> cases want <;> rfl))
   ·cases h
theorem Γ.reads {C S a w I} (h:Γ C S a w I) (l:List Tmp):Reads S.σ l a w I:=⟨fun t _=>h.1.tmps t,h.2.heap.glob⟩
theorem callsIn_of {C:Ctx} {n:Nat} {f:FuncId} {args:Array Value} {w:World} {R:Ending→World→Prop} (h:Calls C.P f args w R):CallsIn C.fe n C.P f args w R:=by
 unfold Ctx.fe
 split
 ·exact callsIn_wide.2 h
 ·exact CallsIn.inRound _ (callsIn_wide.2 h)
theorem semAt_yld {C S w I v} {a:Act} {o:Oper} (h:Yld C S w I v ((execOp a.eval o).run C.P w)):(o.semAt C.fe.round a.eval).run C.P w=(execOp a.eval o).run C.P w:=by
 unfold Oper.semAt
 split
 ·rename_i l c _ ho
  exfalso
  simp only [execOp,ho,Sem.run_bind] at h
  cases hr:(resolve a.eval c o.type).run C.P w with
  | ok d w'=>rw [hr] at h;simp only [Result.andThen,Sem.run_pure,Yld] at h
  | halt x w'=>rw [hr] at h;simp only [Result.andThen,Yld] at h
 ·rfl
theorem semAt_ok {C:Ctx} {w w':World} {a:Act} {o:Oper} {n:Next} (h:(execOp a.eval o).run C.P w=.ok n w') (hn:∀ d,n ≠ .defer d):(o.semAt C.fe.round a.eval).run C.P w=.ok n w':=by
 unfold Oper.semAt
 split
 ·rename_i l c _ ho
  exfalso
  simp only [execOp,ho,Sem.run_bind] at h
  cases hr:(resolve a.eval c o.type).run C.P w with
  | ok d w'=>rw [hr] at h;simp only [Result.andThen,Sem.run_pure,Result.ok.injEq] at h;exact hn d h.1.symm
  | halt x w'=>rw [hr] at h;simp only [Result.andThen] at h;cases h
 ·exact h
theorem wpAnyIn_of_seq {F:Fence} {n:Nat} {P:Program} {md:Region.Mode} {ops:Array Oper} {Q':Exit→Act→World→Prop}:∀ (l:List Oper) (k:Nat) (listed:Array Bool) (a:Act) (w:World),(∀ j,l[j]? = ops[k+j]?) →
  Region.seqB md ops l.length k listed=true→wpListIn F n P ops Q' l a w→wpAnyIn F n P md ops Q' l.length listed a w
 | [],_,_,_,_,_,hB,h=>⟨by simpa [Region.seqB] using hB,h⟩
 | o::l,k,listed,a,w,hl,hB,h=>by
  have h0:ops[k]? = some o:=by simpa using (hl 0).symm
  simp only [List.length_cons,Region.seqB,Bool.and_eq_true,decide_eq_true_eq] at hB
  refine⟨fun h1=>(by rw [hB.1] at h1;cases h1),fun i hi=>?_⟩
  rw [hB.1] at hi
  have hik:i=k:=by simpa using hi
  subst hik
  have hw:wpOpIn F n P ops Q' i (wpListIn F n P ops Q' l) a w:=by unfold wpOpIn;simp only [h0];exact h
  exact wpOpIn_mono (fun a' w' h'=>wpAnyIn_of_seq l (i+1) _ a' w' (fun j=>by have:=hl (j+1);simpa [Nat.add_assoc,Nat.add_comm 1 j] using this) hB.2 h') hw
theorem Yld.wp {C S a w I v} {o:Oper} {Q:Exit→Act→World→Prop} {K:Act→World→Prop} (hΓ:Γ C S a w I) (hd:dstOk C.N o=true) (h:Yld C S w I v ((execOp a.eval o).run C.P w))
  (hK:∀ a' w' I',Γ C (S.put o.dst v) a' w' I'→K a' w'):o.wpIn C.fe 0 C.P a w K Q:=by
 unfold Oper.wpIn
 refine⟨fun f _=>C.fe_fn f,?_⟩
 rw [semAt_yld h]
 generalize (execOp a.eval o).run C.P w=r at h
 cases r with
 | ok n w' =>
  cases n <;> simp only [Yld] at h <;> simp only [Oper.uponIn]
  case value x =>
   obtain⟨I',hW,hs,hr⟩:=h
   exact hK _ _ I' ⟨(hΓ.1.mono hs).put o.dst (dstOk_spec hd) hr,hW.put _ _⟩
  case skip =>
   obtain⟨I',hW,hs,hr⟩:=h
   exact hK _ _ I' ⟨(hΓ.1.mono hs).put o.dst (dstOk_spec hd) hr,hW.put _ _⟩
  case enter f args =>
   obtain⟨rfl,hc⟩:=h
   refine⟨fun hd=>absurd hd (by rw [C.fe_depth];decide),callsIn_of (hc.mono fun e w'' hx=>?_)⟩
   obtain⟨x,I',he,hW,hs,hr⟩:=hx
   subst he
   exact hK _ _ I' ⟨(hΓ.1.mono hs).put o.dst (dstOk_spec hd) hr,hW.put _ _⟩
 | halt x w'=>simp only [Yld] at h
theorem Step.det {C S} {o:Oper} {v:V} {K:St→Prop} (hd:dstOk C.N o=true) (h:DetOp C S o v) (hK:K (S.put o.dst v)):Step C S o K :=
 fun _ _ _ hΓ _=>Yld.wp hΓ hd (h _ _ _ (hΓ.reads _) hΓ.2) fun _ _ I' hΓ'=>⟨_,I',hΓ',hK⟩
def YieldsA (C:Ctx) (ops:Array Oper) (o:Oper) (v:V) (S:St):Prop :=
 (wantA ops S.σ o=some true∧DetOp C S o v)∨(wantA ops S.σ o=some false∧v=skipV)
def qOpA (C:Ctx) (ops:Array Oper) (i:Nat) (K:St→Prop) (S:St):Prop :=
 match ops[i]? with
 | none=>K S
 | some o=>dstOk C.N o=true∧∃ v,YieldsA C ops o v S∧K (S.put o.dst v)
theorem qOpA_mono {C ops i S} {K K':St→Prop} (h:∀ S,K S→K' S) (hh:qOpA C ops i K S):qOpA C ops i K' S:=by
 unfold qOpA at *
 split
 ·rename_i ho;simp only [ho] at hh;exact h _ hh
 ·rename_i o ho
  simp only [ho] at hh
  obtain⟨h0,v,h1,h2⟩:=hh
  exact⟨h0,v,h1,h _ h2⟩
theorem upd_ne {σ:Nat→V} {d:Option Nat} {v:V} {i:Nat} (h:d ≠ some i):upd σ d v i=σ i:=by simp [upd,h]
theorem put_comm (S:St) {d e:Option Nat} (v u:V) (h:∀ i,d=some i→e ≠ some i):(S.put d v).put e u=(S.put e u).put d v:=by
 unfold St.put upd
 congr 1
 funext i
 by_cases h1:d=some i
 ·simp [h1,h i h1]
 ·simp [h1]
theorem DetOp.put {C S} {o:Oper} {v u:V} {d:Option Nat} (h:DetOp C S o v) (hd:∀ i,d=some i→i ∉ Oper.tm o):DetOp C (S.put d u) o v:=by
 intro a w I hR hW
 have hW':ΓW C S w I:=⟨hW.heap,hW.mine,hW.keeps,hW.lo⟩
 have hR':Reads S.σ (Oper.tm o) a w I:=⟨fun t ht=>by
  have:=hR.1 t ht
  rwa [show (S.put d u).σ t=S.σ t from upd_ne (fun e=>hd t e ht)] at this,hR.2⟩
 have:=h a w I hR' hW'
 generalize (execOp a.eval o).run C.P w=r at this
 cases r with
 | ok n w' =>
  cases n <;> simp only [Yld] at this ⊢
  case value x=>obtain⟨I',h1,h2,h3⟩:=this;exact⟨I',⟨h1.heap,h1.mine,h1.keeps,h1.lo⟩,h2,h3⟩
  case skip=>obtain⟨I',h1,h2,h3⟩:=this;exact⟨I',⟨h1.heap,h1.mine,h1.keeps,h1.lo⟩,h2,h3⟩
  case enter f args =>
   refine⟨this.1,this.2.mono fun e w'' ⟨x,I',he,h1,h2,h3⟩=>⟨x,I',he,⟨h1.heap,h1.mine,h1.keeps,h1.lo⟩,h2,h3⟩⟩
 | halt x w'=>simp only [Yld] at this
theorem tm_looks {ops:Array Oper} {o:Oper} {i:Nat} (h:i ∈ Oper.tm o):i ∈ o.looksAt ops:=List.mem_append_left _ h
theorem wantA_put {ops:Array Oper} {S:St} {o:Oper} {d:Option Nat} {v:V} (h:∀ i,d=some i→i ∉ o.looksAt ops):wantA ops (S.put d v).σ o=wantA ops S.σ o:=by
 unfold wantA
 cases hg:o.guard with
 | none=>rfl
 | some gw =>
  obtain⟨g,want⟩:=gw
  simp only []
  cases hd:(ops[g]?).bind (·.dst) with
  | none=>rfl
  | some t =>
   have hne:d ≠ some t:=fun e=>h t e (by simp [Oper.looksAt,hg,hd])
   simp only []
   rw [show (S.put d v).σ t=S.σ t from upd_ne hne]
theorem YieldsA.put {C ops S} {o:Oper} {v u:V} {d:Option Nat} (h:YieldsA C ops o v S) (hd:∀ i,d=some i→i ∉ o.looksAt ops):YieldsA C ops o v (S.put d u):=by
 unfold YieldsA at *
 rw [wantA_put hd]
 exact h.imp (fun h=>⟨h.1,h.2.put fun i hi hm=>hd i hi (tm_looks hm)⟩) id
theorem DetOp.unput {C S} {o:Oper} {v u:V} {d:Option Nat} (h:DetOp C (S.put d u) o v) (hd:∀ i,d=some i→i ∉ Oper.tm o):DetOp C S o v:=by
 have e:(S.put d u).put d (match d with | some i=>S.σ i | none=>.any)=S:=by
  unfold St.put upd
  cases S with
  | mk σ boxes rows =>
   simp only [St.mk.injEq,and_true]
   funext i
   cases d with
   | none=>simp
   | some j =>
    by_cases hj:j=i
    ·subst hj;simp
    ·simp [hj]
 rw [← e]
 exact h.put hd
theorem YieldsA.unput {C ops S} {o:Oper} {v u:V} {d:Option Nat} (h:YieldsA C ops o v (S.put d u)) (hd:∀ i,d=some i→i ∉ o.looksAt ops):YieldsA C ops o v S:=by
 unfold YieldsA at *
 rw [wantA_put hd] at h
 exact h.imp (fun h=>⟨h.1,h.2.unput fun i hi hm=>hd i hi (tm_looks hm)⟩) id
theorem qOpA_put {C ops S} {j:Nat} {oi oj:Oper} {v:V} {K:St→Prop} (hj:ops[j]? = some oj) (hap:oi.apart ops oj=true) (hy:YieldsA C ops oi v S) (h:qOpA C ops j K (S.put oi.dst v)) :
  qOpA C ops j (fun S'=>YieldsA C ops oi v S'∧K (S'.put oi.dst v)) S:=by
 obtain⟨h1,h2,h3⟩:=Oper.apart_spec hap
 unfold qOpA at *
 simp only [hj] at *
 obtain⟨h0,u,hu,hK⟩:=h
 exact⟨h0,u,hu.unput h1,hy.put h3,by rw [← put_comm S v u h2];exact hK⟩
variable {C:Ctx} {ops:Array Oper} {md:Region.Mode}
def wpAnyLA (C:Ctx) (md:Region.Mode) (ops:Array Oper) (n:Nat) (L:Array Bool→St→Prop):Nat→Array Bool→St→Prop
 | 0,listed,S=>L listed S
 | f+1,listed,S=>Region.ready md ops listed ≠ []∧∀ i ∈ Region.ready md ops listed,i < n∧qOpA C ops i (wpAnyLA C md ops n L f (listed.setIfInBounds i true)) S
theorem wpOp_of_qOpA {i:Nat} {S:St} {a:Act} {w:World} {I:Cells} {K:St→Prop} {K':Act→World→Prop} {Q':Exit→Act→World→Prop} (hΓ:Γ C S a w I)
  (h:∀ S' a' w' I',Γ C S' a' w' I'→K S'→K' a' w') (hh:qOpA C ops i K S):wpOpIn C.fe 0 C.P ops Q' i K' a w:=by
 unfold qOpA at hh
 unfold wpOpIn
 split
 ·rename_i ho;simp only [ho] at hh;exact h _ _ _ _ hΓ hh
 ·rename_i o ho
  simp only [ho] at hh
  obtain⟨h0,v,hy,hK⟩:=hh
  rcases hy with⟨hw,hv⟩ | ⟨hw,rfl⟩
  ·rw [if_pos (wantA_spec hΓ hw)]
   exact(Yld.wp hΓ h0 (hv _ _ _ (hΓ.reads _) hΓ.2) fun a' w' I' hΓ'=>h _ _ _ _ hΓ' hK)
  ·rw [if_neg (by rw [wantA_spec hΓ hw];simp)]
   exact⟨fun f _=>C.fe_fn f,h (S.put o.dst skipV) _ _ I ⟨hΓ.1.put o.dst (dstOk_spec h0) (by simp only [skipV,V.rep]),hΓ.2.put _ _⟩ hK⟩
theorem wpAny_of_headA {n g:Nat} {L:Array Bool→St→Prop} {Q':Exit→Act→World→Prop} (hL:∀ listed S a w I,Γ C S a w I→L listed S→wpAnyIn C.fe 0 C.P md ops Q' g listed a w) :
  ∀ (f:Nat) (listed:Array Bool) (S:St) (a:Act) (w:World) (I:Cells),Γ C S a w I→wpAnyLA C md ops n L f listed S→wpAnyIn C.fe 0 C.P md ops Q' (f+g) listed a w
 | 0,listed,S,a,w,I,hΓ,h=>by rw [Nat.zero_add];exact hL _ _ _ _ _ hΓ h
 | f+1,listed,S,a,w,I,hΓ,h=>by
  rw [show f+1+g=(f+g)+1 by omega]
  exact⟨fun h0=>absurd h0 h.1,fun i hi=>wpOp_of_qOpA hΓ (fun S' a' w' I' hΓ' h'=>wpAny_of_headA hL f _ S' a' w' I' hΓ' h') (h.2 i hi).2⟩
theorem YieldsA.qOp {i:Nat} {o:Oper} {v:V} {S:St} {K:St→Prop} (hi:ops[i]? = some o) (hd:dstOk C.N o=true) (hy:YieldsA C ops o v S) (h:K (S.put o.dst v)):qOpA C ops i K S:=by
 unfold qOpA
 simp only [hi]
 exact⟨hd,v,hy,h⟩
theorem wpAnyLA_first {n i:Nat} {oi:Oper} {v:V} {L:Array Bool→St→Prop} (hi:ops[i]? = some oi) (hdst:dstOk C.N oi=true)
  (hn:(n < ops.size∧Region.sinkB md ops n=true∧Region.chainB md ops n=true)∨n=ops.size) (hin:i < n)
  (hdone:∀ listed S,L listed S→∀ j ∈ Region.ready md ops listed,n≤j) :
  ∀ (f:Nat) (listed:Array Bool) (S:St),HeadInv md ops n listed →
   (∀ j oj,ops[j]? = some oj→j ≠ i→listed.getD j true=false→(∀ e ∈ oj.after,Region.binds md e=true→e.on ≠ i)→oi.apart ops oj=true) →
   i ∈ Region.ready md ops listed→YieldsA C ops oi v S →
   wpAnyLA C md ops n L f (listed.setIfInBounds i true) (S.put oi.dst v)→wpAnyLA C md ops n L (f+1) listed S:=by
 have less:∀ (listed:Array Bool),HeadInv md ops n listed→i ∈ Region.ready md ops listed→∀ j ∈ Region.ready md ops listed,j < n:=fun listed inv hr j hj=>by
  have hun:=(mem_ready.1 hr).1
  rcases Nat.lt_or_ge j n with h | h
  ·exact h
  ·rcases hn with⟨hn,hs,hc⟩ | hn
   ·exact absurd hj (tail_waits hs hc hn inv _ i rfl hin hun j h)
   ·obtain⟨_,oj,hoj,_⟩:=mem_ready.1 hj
    have:=(Array.getElem?_eq_some_iff.1 hoj).1
    omega
 intro f
 induction f with
 | zero =>
  intro listed S inv _ hr hy H
  refine⟨fun h=>(by rw [h] at hr;cases hr),fun j hj=>⟨less listed inv hr j hj,?_⟩⟩
  have hjn:=less listed inv hr j hj
  by_cases hji:j=i
  ·subst hji;exact hy.qOp hi hdst H
  ·have:=hdone _ _ H j (ready_mono hj hji)
   omega
 | succ f ih =>
  intro listed S inv hfree hr hy H
  have hun:=(mem_ready.1 hr).1
  refine⟨fun h=>(by rw [h] at hr;cases hr),fun j hj=>⟨less listed inv hr j hj,?_⟩⟩
  have hjn:=less listed inv hr j hj
  by_cases hji:j=i
  ·subst hji;exact hy.qOp hi hdst H
  ·have h1:=(H.2 j (ready_mono hj hji)).2
   obtain⟨hjun,oj,hoj,hall⟩:=mem_ready.1 hj
   have hnot:∀ e ∈ oj.after,Region.binds md e=true→e.on ≠ i:=fun e he hb heq=>by
    have h1:=hall e he hb
    rw [heq,getD_both hun] at h1
    cases h1
   have h2:=qOpA_put hoj (hfree j oj hoj hji hjun hnot) hy h1
   have hfree':∀ k ok,ops[k]? = some ok→k ≠ i→(listed.setIfInBounds j true).getD k true=false →
     (∀ e ∈ ok.after,Region.binds md e=true→e.on ≠ i)→oi.apart ops ok=true:=fun k ok hk hki hun hno=>by
    refine hfree k ok hk hki ?_ hno
    by_cases hjk:j=k
    ·subst hjk;exact hjun
    ·rw [getD_set_ne true hjk] at hun;exact hun
   refine qOpA_mono (fun S' h3=>ih (listed.setIfInBounds j true) S' (inv.set hj hjn) hfree' (ready_mono hr (Ne.symm hji)) h3.1 ?_) h2
   rw [Array.setIfInBounds_comm _ _ hji]
   exact h3.2
end Go.VL
