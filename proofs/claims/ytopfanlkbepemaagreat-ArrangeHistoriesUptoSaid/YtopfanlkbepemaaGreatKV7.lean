/- Merged out of my text V7. -/
import Derived.Test.YtopfanlkbepemaaGreatKV6
namespace Go.VL
open Go.RowKit
section
variable {C:Ctx} {S:St} {o:Oper} {k:V→Prop}
theorem det_move {x:Operand} (ho:o.op=.move x∨o.op=.assign x) (h:k (ev S.σ x)):∃ v,DetOp C S o v∧k v:=by
 refine⟨_,fun a w I hR hW=>?_,h⟩
 have r:=ev_of hR (x:=x) (by rcases ho with ho | ho <;> simp [ho,Op.operands])
 rcases ho with ho | ho <;> (simp only [execOp,ho];exact Yld.same hW r)
theorem det_pick {c x y:Operand} {t:Bool} (ho:o.op=.pick c x y) (hc:ev S.σ c=.lit (.bool t)) (h:k (if t=true then ev S.σ x else ev S.σ y)):∃ v,DetOp C S o v∧k v:=by
 refine⟨_,fun a w I hR hW=>?_,h⟩
 have r0:=ev_of hR (x:=c) (by simp [ho,Op.operands])
 have r1:=ev_of hR (x:=x) (by simp [ho,Op.operands])
 have r2:=ev_of hR (x:=y) (by simp [ho,Op.operands])
 rw [hc] at r0
 simp only [V.rep] at r0
 simp only [execOp,ho,r0,asBool]
 cases t
 ·exact Yld.same hW r2
 ·exact Yld.same hW r1
theorem det_load {t:TypeId} {x:Operand} (ho:o.op=.load t x) (h:atP S (ev S.σ x) fun cs=>loadK C.P t cs k):∃ v,DetOp C S o v∧k v:=by
 obtain⟨cs,h1,h2⟩:=atP_spec (C:=C) h
 obtain⟨v,hk,h3⟩:=loadK_spec h1
 refine⟨v,fun a w I hR hW=>?_,hk⟩
 obtain⟨b,off,e,hh⟩:=h2 w I _ hW (ev_of hR (x:=x) (by simp [ho,Op.operands]))
 obtain⟨y,hy,hr⟩:=h3 w I b off hh
 simp only [execOp,ho,e,Instr.loadAt,Instr.sureAddr]
 simp only [Sem.run_bind,Sem.run_pure,Result.andThen_ok,hy]
 exact Yld.same hW hr
theorem det_fieldAddr {s:TypeId} {x:Operand} {f:Nat} (ho:o.op=.fieldAddr s x f) (h:fieldAddrK C.P s f (ev S.σ x) k):∃ v,DetOp C S o v∧k v:=by
 unfold fieldAddrK at h
 split at h
 ·rename_i off t hfl
  obtain⟨fs,fd,hd,hf,rfl,rfl⟩:=fld_spec hfl
  split at h
  ·rename_i n hn
   obtain⟨u,hk,hu⟩:=shiftP_spec h
   refine⟨u,fun a w I hR hW=>?_,hk⟩
   obtain⟨b,off,e,hr⟩:=hu w I _ (ev_of hR (x:=x) (by simp [ho,Op.operands]))
   simp only [execOp,ho,e,Instr.fieldAt,Instr.sureAddr,fieldPlace]
   simp only [Sem.run_bind,Sem.run_pure,Result.andThen_ok,run_underlying hd,hf,run_tsz hn,Nat.add_one_ne_zero,if_false,Sem.run_ite,Addr.add_lit]
   exact Yld.same hW hr
  ·exact h.elim
 ·exact h.elim
theorem det_field {s:TypeId} {x:Operand} {f:Nat} (ho:o.op=.field s x f) (h:fieldK C.P s f (ev S.σ x) k):∃ v,DetOp C S o v∧k v:=by
 unfold fieldK at h
 split at h
 ·rename_i off t cs hfl hx
  obtain⟨fs,fd,hd,hf,rfl,rfl⟩:=fld_spec hfl
  obtain⟨v,hk,hv⟩:=partK_spec h
  refine⟨v,fun a w I hR hW=>?_,hk⟩
  have r:=ev_of hR (x:=x) (by simp [ho,Op.operands])
  rw [hx] at r
  simp only [V.rep] at r
  obtain⟨xs,e,hxs⟩:=r
  obtain⟨y,hy,hr⟩:=hv w I xs hxs
  simp only [execOp,ho,e,Instr.field,asAgg]
  simp only [Sem.run_bind,Sem.run_pure,Result.andThen_ok,run_underlying hd,hf,hy]
  exact Yld.same hW hr
 ·exact h.elim
theorem det_idxAddr {t:TypeId} {x i:Operand} (ho:o.op=.indexAddr t x i) (h:idxAddrK C.P t (ev S.σ x) (ev S.σ i) k):∃ v,DetOp C S o v∧k v:=by
 unfold idxAddrK at h
 split at h
 ·rename_i e kk j hd hi
  split at h
  ·rename_i n hn
   rcases onS_spec h with h | ⟨b,off,ln,c,hv,h0,h1,hk⟩
   rotate_left
   ·refine⟨_,fun a w I hR hW=>?_,hk⟩
    have rx:=ev_of hR (x:=x) (by simp [ho,Op.operands])
    have ri:=ev_of hR (x:=i) (by simp [ho,Op.operands])
    rw [hv] at rx
    rw [hi] at ri
    simp only [V.rep] at rx ri
    simp only [execOp,ho,rx,ri,Instr.indexAt,asIntOf]
    simp only [Sem.run_bind,Sem.run_pure,Result.andThen_ok,run_underlying hd,h0,h1,and_self,if_true,run_tsz hn,Addr.add_lit]
    exact Yld.same hW (by simp only [V.rep])
   obtain⟨es,⟨h0,h1,hk⟩,hes⟩:=onL_spec h
   refine⟨_,fun a w I hR hW=>?_,hk⟩
   obtain⟨ad,c,ex,hc,hl⟩:=hes w I _ (ev_of hR (x:=x) (by simp [ho,Op.operands]))
   have ri:=ev_of hR (x:=i) (by simp [ho,Op.operands])
   rw [hi] at ri
   simp only [V.rep] at ri
   rcases hl with rfl | ⟨b,off,rfl,hl⟩
   ·simp at h1;omega
   ·have hlt:j.toNat < es.length:=by omega
    obtain⟨g1,g2⟩:=lies_get hl j.toNat es[j.toNat] (List.getElem?_eq_getElem hlt)
    simp only [execOp,ho,ex,ri,Instr.indexAt,asIntOf]
    simp only [Sem.run_bind,Sem.run_pure,Result.andThen_ok,run_underlying hd,h0,h1,and_self,if_true,run_tsz hn,Addr.add_lit]
    refine Yld.same hW ?_
    simp only [V.rep,List.getD,List.getElem?_eq_getElem hlt,Option.getD_some]
    exact⟨b,_,rfl,g1⟩
  ·exact h.elim
 ·rename_i len e kk j hd hi
  split at h
  ·rename_i n hn
   obtain⟨h0,h1,h⟩:=h
   obtain⟨u,hk,hu⟩:=shiftP_spec h
   refine⟨u,fun a w I hR hW=>?_,hk⟩
   obtain⟨b,off,ex,hr⟩:=hu w I _ (ev_of hR (x:=x) (by simp [ho,Op.operands]))
   have ri:=ev_of hR (x:=i) (by simp [ho,Op.operands])
   rw [hi] at ri
   simp only [V.rep] at ri
   simp only [execOp,ho,ex,ri,Instr.indexAt,asIntOf,Instr.sureAddr]
   simp only [Sem.run_bind,Sem.run_pure,Result.andThen_ok,run_underlying hd,h0,h1,and_self,if_true,run_tsz hn,Addr.add_lit]
   exact Yld.same hW hr
  ·exact h.elim
 ·exact h.elim
theorem det_idx {t:TypeId} {x i:Operand} (ho:o.op=.index t x i) (h:idxK C.P t (ev S.σ x) (ev S.σ i) k):∃ v,DetOp C S o v∧k v:=by
 unfold idxK at h
 split at h
 ·rename_i s kk j hd hx hi
  obtain⟨h0,h1,hk⟩:=h
  refine⟨_,fun a w I hR hW=>?_,hk⟩
  have rx:=ev_of hR (x:=x) (by simp [ho,Op.operands])
  have ri:=ev_of hR (x:=i) (by simp [ho,Op.operands])
  rw [hi] at ri;rw [hx] at rx
  simp only [V.rep] at ri rx
  have hlt:j.toNat < s.size:=by omega
  simp only [execOp,ho,rx,ri,Instr.index,asIntOf]
  simp only [Sem.run_bind,Sem.run_pure,Result.andThen_ok,run_underlying hd,h0,if_true,getElem?_pos s j.toNat hlt]
  refine Yld.same hW ?_
  simp only [V.rep]
  congr 2
  have:s.data.toList.getD j.toNat 0=s[j.toNat]:=by
   have hl2:j.toNat < s.data.toList.length:=by simpa using hlt
   simp only [List.getD,List.getElem?_eq_getElem hl2,Option.getD_some]
   rfl
  rw [this]
 ·rename_i len e cs kk j hd hx hi
  split at h
  ·rename_i n hn
   obtain⟨h0,h1,h⟩:=h
   obtain⟨v,hk,hv⟩:=partK_spec h
   refine⟨v,fun a w I hR hW=>?_,hk⟩
   have rx:=ev_of hR (x:=x) (by simp [ho,Op.operands])
   have ri:=ev_of hR (x:=i) (by simp [ho,Op.operands])
   rw [hi] at ri;rw [hx] at rx
   simp only [V.rep] at ri rx
   obtain⟨xs,ex,hxs⟩:=rx
   obtain⟨y,hy,hr⟩:=hv w I xs hxs
   simp only [execOp,ho,ex,ri,Instr.index,asIntOf]
   simp only [Sem.run_bind,Sem.run_pure,Result.andThen_ok,run_underlying hd,h0,h1,and_self,if_true,run_tsz hn,hy]
   exact Yld.same hW hr
  ·exact h.elim
 ·exact h.elim
theorem det_un {op:UnOp} {t:TypeId} {x:Operand} {a v:Value} (ho:o.op=.unOp op t x) (hx:ev S.σ x=.lit a) (hv:sun op a=some v) (h:k (.lit v)):∃ v,DetOp C S o v∧k v:=by
 refine⟨_,fun ac w I hR hW=>?_,h⟩
 have r:=ev_of hR (x:=x) (by simp [ho,Op.operands])
 rw [hx] at r
 simp only [V.rep] at r
 simp only [execOp,ho,r]
 rw [Sem.run_bind,sun_spec hv]
 exact Yld.same hW (by simp only [V.rep])
theorem det_conv {src dst:TypeId} {x:Operand} (ho:o.op=.convert src dst x) (h:convK C.P src dst (ev S.σ x) k):∃ v,DetOp C S o v∧k v:=by
 unfold convK at h
 split at h
 ·rename_i d kk kn n hs hd hx
  refine⟨_,fun ac w I hR hW=>?_,h⟩
  have r:=ev_of hR (x:=x) (by simp [ho,Op.operands])
  rw [hx] at r
  simp only [V.rep] at r
  simp only [execOp,ho,r,convert]
  simp only [Sem.run_bind,run_underlying hs,run_underlying hd,Result.andThen_ok,Conv.intToInt,Sem.run_pure]
  exact Yld.same hW (by simp only [V.rep])
 ·rename_i d s hs hd hx
  refine⟨_,fun ac w I hR hW=>?_,h⟩
  have r:=ev_of hR (x:=x) (by simp [ho,Op.operands])
  rw [hx] at r
  simp only [V.rep] at r
  simp only [execOp,ho,r,convert]
  simp only [Sem.run_bind,run_underlying hs,run_underlying hd,Result.andThen_ok,Sem.run_pure]
  exact Yld.same hW (by simp only [V.rep])
 ·exact h.elim
theorem det_extract {t:Operand} {i:Nat} {vs:List V} {v:V} (ho:o.op=.extract t i) (ht:ev S.σ t=.tup vs) (hv:vs[i]? = some v) (h:k v):∃ v,DetOp C S o v∧k v:=by
 refine⟨v,fun ac w I hR hW=>?_,h⟩
 have r:=ev_of hR (x:=t) (by simp [ho,Op.operands])
 rw [ht] at r
 simp only [V.rep] at r
 obtain⟨xs,e,hxs⟩:=r
 have hl:=reps_length hxs
 have hi:i < xs.toList.length:=by rw [hl];exact(List.getElem?_eq_some_iff.1 hv).1
 obtain⟨v',e1,e2⟩:=reps_get hxs i _ (List.getElem?_eq_getElem hi)
 rw [hv] at e1
 obtain rfl:=Option.some.inj e1
 have hx:xs[i]? = some xs.toList[i]:=by simp at hi;simp [hi]
 simp only [execOp,ho,e,Instr.extract,hx]
 simp only [Sem.run_bind,Sem.run_pure,Result.andThen_ok]
 exact Yld.same hW e2
theorem det_len {c:Call} {x:Operand} {t:TypeId} (ho:o.op=.call c) (hc:c.callee=.builtin .len) (ha:c.args.toList=[x]) (ht:c.argTypes.toList=[t]) (h:lenK C.P t (ev S.σ x) k):∃ v,DetOp C S o v∧k v:=by
 have ha':c.args=#[x]:=by rw [← Array.toArray_toList (xs:=c.args),ha]
 have ht':c.argTypes=#[t]:=by rw [← Array.toArray_toList (xs:=c.argTypes),ht]
 unfold lenK at h
 split at h
 ·rename_i s hd hx
  refine⟨_,fun ac w I hR hW=>?_,h⟩
  have r:=ev_of hR (x:=x) (by simp [ho,Op.operands,Call.operands,ha'])
  rw [hx] at r
  simp only [V.rep] at r
  simp only [execOp,ho,resolve,hc,ha',ht']
  simp [invoke,builtin,Builtin.len_,r,run_underlying hd]
  exact Yld.same hW (by simp only [V.rep];rfl)
 ·rename_i e v hd
  split at h
  ·rename_i n hn
   rcases onS_spec h with h | ⟨b,off,ln,cc,hv,hk⟩
   rotate_left
   ·refine⟨_,fun ac w I hR hW=>?_,hk⟩
    have r:=ev_of hR (x:=x) (by simp [ho,Op.operands,Call.operands,ha'])
    rw [hv] at r
    simp only [V.rep] at r
    simp only [execOp,ho,resolve,hc,ha',ht']
    simp [invoke,builtin,Builtin.len_,r,run_underlying hd]
    exact Yld.same hW (by simp only [V.rep];rfl)
   obtain⟨es,hk,hes⟩:=onL_spec h
   refine⟨_,fun ac w I hR hW=>?_,hk⟩
   obtain⟨ad,cp,ex,_,_⟩:=hes w I _ (ev_of hR (x:=x) (by simp [ho,Op.operands,Call.operands,ha']))
   simp only [execOp,ho,resolve,hc,ha',ht']
   simp [invoke,builtin,Builtin.len_,ex,run_underlying hd]
   exact Yld.same hW (by simp only [V.rep];rfl)
  ·exact h.elim
 ·exact h.elim
theorem det_cap {c:Call} {x:Operand} {t:TypeId} (ho:o.op=.call c) (hc:c.callee=.builtin .cap) (ha:c.args.toList=[x]) (ht:c.argTypes.toList=[t]) (h:capK C.P t (ev S.σ x) k):∃ v,DetOp C S o v∧k v:=by
 have ha':c.args=#[x]:=by rw [← Array.toArray_toList (xs:=c.args),ha]
 have ht':c.argTypes=#[t]:=by rw [← Array.toArray_toList (xs:=c.argTypes),ht]
 unfold capK at h
 split at h
 ·rename_i e a n c' hd hx
  refine⟨_,fun ac w I hR hW=>?_,h⟩
  have r:=ev_of hR (x:=x) (by simp [ho,Op.operands,Call.operands,ha'])
  rw [hx] at r
  simp only [V.rep] at r
  simp only [execOp,ho,resolve,hc,ha',ht']
  simp [invoke,builtin,Builtin.cap_,r,run_underlying hd]
  exact Yld.same hW (by simp only [V.rep];rfl)
 ·exact h.elim
theorem det_maxmin {c:Call} {kk k2:IntKind} {x y:Int} (ho:o.op=.call c) (mx:Bool) (hc:c.callee=.builtin (if mx then .max else .min)) (ha:c.args.toList.map (ev S.σ)=[.lit (.int kk x),.lit (.int k2 y)])
  (h:k (.lit (.int kk (if mx then (if y > x then y else x) else (if y < x then y else x))))):∃ v,DetOp C S o v∧k v:=by
 refine⟨_,fun ac w I hR hW=>?_,h⟩
 obtain⟨p,q,hpq⟩:∃ p q,c.args.toList=[p,q]:=by
  match hl:c.args.toList with
  | [p,q]=>exact⟨p,q,rfl⟩
  | []=>simp [hl] at ha
  | [_]=>simp [hl] at ha
  | _::_::_::_=>simp [hl] at ha
 have ha':c.args=#[p,q]:=by rw [← Array.toArray_toList (xs:=c.args),hpq]
 simp only [hpq,List.map_cons,List.map_nil,List.cons.injEq,and_true] at ha
 have r1:=ev_of hR (x:=p) (by simp [ho,Op.operands,Call.operands,ha'])
 have r2:=ev_of hR (x:=q) (by simp [ho,Op.operands,Call.operands,ha'])
 rw [ha.1] at r1;rw [ha.2] at r2
 simp only [V.rep] at r1 r2
 cases mx
 ·simp only [Bool.false_eq_true,if_false] at hc ⊢
  simp only [execOp,ho,resolve,hc,ha']
  simp [invoke,builtin,Builtin.min_,Builtin.min2,r1,r2]
  exact Yld.same hW (by simp only [V.rep])
 ·simp only [if_true] at hc ⊢
  simp only [execOp,ho,resolve,hc,ha']
  simp [invoke,builtin,Builtin.max_,Builtin.max2,r1,r2]
  exact Yld.same hW (by simp only [V.rep])
theorem reps_map {σ:Nat→V} {l:List Tmp} {a:Act} {w:World} {I:Cells} (h:Reads σ l a w I):∀ (xs:List Operand),(∀ x ∈ xs,∀ t,x=.tmp t→t ∈ l)→V.reps w I (xs.map (ev σ)) (xs.map a.eval)
 | [],_=>by simp [V.reps]
 | x::xs,hx=>by
  simp only [List.map_cons,V.reps]
  exact⟨ev_rep h (hx x List.mem_cons_self),reps_map h xs fun y hy=>hx y (List.mem_cons_of_mem _ hy)⟩
theorem run_callFunc {P:Program} {g:FuncId} {args:Array Value} {w:World} (h:callB P g=true):(callFunc g args).run P w=.ok (.enter g args) w:=by
 unfold callB at h
 split at h
 ·rename_i fn hf
  simp only [Bool.and_eq_true,Bool.not_eq_true'] at h
  have hn:fn.body ≠ none:=by intro hb;simp [hb] at h
  have hne : ¬ fn.name = "runtime.NumGoroutine" := by simpa using h.1
  simp [callFunc,hf,hne,hn]
 ·cases h
theorem run_value {P:Program} {g:FuncId} {first cap:Array Value} {c:Call} {f:Operand} {ρ:Operand→Value} {t:TypeId} {w:World} (hc:c.callee=.value f) (hf:ρ f=.func (.func g) first cap) (h:callB P g=true) :
  ((do let d ← resolve ρ c t;invoke d.target d.args:Sem Next)).run P w=.ok (.enter g (first++c.args.map ρ++cap)) w:=by
 simp only [resolve,hc,hf,Deferred.ofValue]
 simp only [Sem.run_bind,Sem.run_pure,Result.andThen_ok,invoke,run_callFunc h]
theorem det_call {c:Call} {f:Operand} (ho:o.op=.call c) (hc:c.callee=.value f) (h:callK C.P (ev S.σ f) (c.args.toList.map (ev S.σ)) k):∃ v,DetOp C S o v∧k v:=by
 unfold callK at h
 split at h
 ·rename_i g first cap hf
  obtain⟨hB,v,hv,hk⟩:=h
  refine⟨v,fun ac w I hR hW=>?_,hk⟩
  have rf:=ev_of hR (x:=f) (by simp [ho,Op.operands,Call.operands,hc])
  rw [hf] at rf
  simp only [V.rep] at rf
  have ra:=reps_map hR c.args.toList (fun x hx=>mem_tm (by simp [ho,Op.operands,Call.operands,hc];exact .inr (by simpa using hx)))
  simp only [execOp,ho]
  rw [run_value hc rf hB]
  refine⟨rfl,?_⟩
  have hr:=reps_append (reps_append (reps_lits (w:=w) (I:=I) first.toList) ra) (reps_lits cap.toList)
  have hH:Heap w I [] []:=⟨by simp,by simp,by simp [blks],hW.heap.inn,hW.heap.glob⟩
  have:=hv w I _ hr hH
  have e:(first.toList++c.args.toList.map ac.eval++cap.toList).toArray=first++c.args.map ac.eval++cap:=by
   apply Array.ext'
   simp
  rw [e] at this
  refine this.mono fun e w' ⟨x,r,bs',rs',I',he,hrep,hkeep,hheap,_,hle⟩=>?_
  exact⟨x,I',he,hW.quiet _ (fun b hb=>⟨hb,by simp⟩) hkeep hheap.inn,hkeep.stays,hle _ _ _ hrep⟩
 ·exact h.elim
theorem det_nil {x:Operand} (ho:o.op=.nilCheck x) (h:nilK (ev S.σ x) k):∃ v,DetOp C S o v∧k v:=by
 unfold nilK at h
 split at h
 ·rename_i ad hx
  refine⟨_,fun ac w I hR hW=>?_,h⟩
  have r:=ev_of hR (x:=x) (by simp [ho,Op.operands])
  rw [hx] at r
  simp only [V.rep] at r
  simp only [execOp,ho,r]
  exact Yld.same hW (by simp only [V.rep])
 ·rename_i cs hx
  refine⟨_,fun ac w I hR hW=>?_,h⟩
  have r:=ev_of hR (x:=x) (by simp [ho,Op.operands])
  rw [hx] at r
  have r':=r
  simp only [V.rep] at r'
  obtain⟨b,off,e,_⟩:=r'
  rw [e] at r
  simp only [execOp,ho,e]
  exact Yld.same hW r
 ·rename_i g first cap hx
  refine⟨_,fun ac w I hR hW=>?_,h⟩
  have r:=ev_of hR (x:=x) (by simp [ho,Op.operands])
  rw [hx] at r
  simp only [V.rep] at r
  simp only [execOp,ho,r]
  exact Yld.same hW (by simp only [V.rep])
 ·exact h.elim
theorem det_build {t:TypeId} {parts:Array (Nat × Operand)} (ho:o.op=.build t parts) (hp:(placeOf C.P t 0).isSome=true) (h:buildK C.P t (parts.toList.map fun p=>(p.1,ev S.σ p.2)) k):∃ v,DetOp C S o v∧k v:=by
 unfold buildK at h
 split at h
 ·rename_i z hz
  obtain⟨cs,hf,hk⟩:=h
  refine⟨_,fun ac w I hR hW=>?_,hk⟩
  obtain⟨x,hx,hr⟩:=run_build (w:=w) (I:=I) (vals:=parts.map fun p=>(p.1,ac.eval p.2)) hz hf ⟨0,hp⟩ (by simp)
   (by
    have:=reps_map hR (parts.toList.map (·.2)) (fun x hx=>mem_tm (by simp only [ho,Op.operands];simpa using hx))
    simpa [List.map_map,Function.comp_def] using this)
  simp only [execOp,ho]
  rw [Sem.run_bind,hx]
  exact Yld.same hW hr
 ·exact h.elim
theorem det_makeFunc {fn:Fn} {first captured:Array Operand} {l m:List Value} (ho:o.op=.makeFunc fn first captured) (h1:vals (first.toList.map (ev S.σ))=some l) (h2:vals (captured.toList.map (ev S.σ))=some m)
  (h:k (.lit (.func fn l.toArray m.toArray))):∃ v,DetOp C S o v∧k v:=by
 refine⟨_,fun ac w I hR hW=>?_,h⟩
 have r1:=vals_spec h1 (reps_map hR first.toList (fun x hx=>mem_tm (by simp [ho,Op.operands];exact .inl (by simpa using hx))))
 have r2:=vals_spec h2 (reps_map hR captured.toList (fun x hx=>mem_tm (by simp [ho,Op.operands];exact .inr (by simpa using hx))))
 have e1:first.map ac.eval=l.toArray:=by rw [← r1];apply Array.ext';simp
 have e2:captured.map ac.eval=m.toArray:=by rw [← r2];apply Array.ext';simp
 simp only [execOp,ho,e1,e2,Instr.makeFunc]
 exact Yld.same hW (by simp only [V.rep])
end
end Go.VL
