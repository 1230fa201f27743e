/- Merged out of my text VA. -/
import Derived.Test.YtopfanlkbepemaaGreatKV12
namespace Go.VL
open Go.RowKit
def buildSliceD (P:Program) (t:TypeId) (n:Nat) (parts:List (Nat × V)) (k:V→Prop):Prop :=
 match P.underlying t with
 | some (.slice e)=>match tsz P e,tzr P e with
  | some c,some z=>0 < c∧z.length=c∧n * c≤16777216∧∃ es,partsE c 0 parts=some es∧es.length=n∧k (.list none c es)
  | _,_=>False
 | _=>False
theorem det_buildSlice {C:Ctx} {S:St} {o:Oper} {k:V→Prop} {t:TypeId} {n:Nat} {parts:Array (Nat × Operand)} (ho:o.op=.buildSlice t n parts)
  (h:buildSliceD C.P t n (parts.toList.map fun p=>(p.1,VL.ev S.σ p.2)) k):∃ v,DetOp C S o v∧k v:=by
 unfold buildSliceD at h
 split at h
 ·rename_i e hu
  split at h
  ·rename_i c z hk hz
   obtain⟨h0,hzl,hb,es,hes,hn,hK⟩:=h
   refine⟨_,fun a w I hR hW=>?_,hK⟩
   obtain⟨v,hv,hvz⟩:=run_tzr (w:=w) hz
   have hvs:v.cells.size=c:=by have:=congrArg List.length hvz;simpa [hzl] using this
   obtain⟨q,arr',xs,f1,f2,f3⟩:=partsE_spec (w:=w) (I:=I) n (k:=c) (arr:=(Array.range (n * c)).map (v.cells[· % v.cells.size]!)) (vals:=parts.toList.map fun p=>(p.1,a.eval p.2)) hes (by simp) (by omega) (by simp)
    (by
     have:=reps_map hR (parts.toList.map (·.2)) (fun x hx=>mem_tm (by simp only [ho,Op.operands];simpa using hx))
     simpa [List.map_map,Function.comp_def] using this)
   have hfl:=flatten_len (fun e' he=>(q e' he).1)
   have hxl:xs.length=n * c:=by rw [reps_length f2,hfl,hn]
   have harr:arr'.toList=xs:=by
    rw [f3,hxl]
    simp
   have hsz:arr'.size=n * c:=by rw [← hxl,← harr];simp
   have htk:arr'.toList.take (es.length * c)=xs:=by rw [harr,hn,← hxl,List.take_length]
   have hmx:n≤maxLen:=by
    have:=Nat.le_trans (Nat.le_mul_of_pos_right n h0) hb
    simp only [maxLen];omega
   obtain⟨I',g1,g2,g3⟩:=hW.newRow arr' e c h0 es n hsz (by omega) hmx (fun e' he=>(q e' he).1) (by
    rw [htk]
    refine one_of_reps f2 fun c hc=>?_
    obtain⟨e',he',hce⟩:=List.mem_flatten.1 hc
    exact okC_spec (q e' he').2 c hce) (by rw [htk];exact f2)
   have g4:ΓW C S (w.alloc (.cells arr' e)) I':=g1.drop rfl
   have run:((execOp a.eval o).run C.P w)=.ok (.value (.slice (some ⟨w.heap.size,0,none⟩) es.length n)) (w.alloc (.cells arr' e)):=by
    simp only [execOp,ho,Instr.buildSlice,newRow]
    have hb':¬ (n * c > 2 ^ 24):=by omega
    have e0:(parts.map fun x=>(x.1,a.eval x.2)).toList=parts.toList.map fun p=>(p.1,a.eval p.2):=by simp
    by_cases hnk:n * c=0
    ·have f1':Instr.fill (fun i=>some (i * c,c)) (Array.map (fun x=>(#[]:Array Value)[x % (#[]:Array Value).size]!) (Array.range 0)) (parts.toList.map fun p=>(p.1,a.eval p.2))=some arr':=by
      rw [hnk,Array.range_zero',Array.map_empty] at f1
      rw [Array.range_zero',Array.map_empty];exact f1
     simp only [Sem.run_bind,run_underlying hu,Result.andThen_ok,run_tsz hk,hnk,show ¬ (0 > 2 ^ 24) from by omega,if_false,if_true,e0,f1',run_newObj,Sem.run_pure,World.alloc_eq,hn]
    ·simp only [Sem.run_bind,run_underlying hu,Result.andThen_ok,run_tsz hk,hb',if_false,hnk,hv,e0,f1,run_newObj,Sem.run_pure,World.alloc_eq,hn]
   rw [run]
   refine⟨I',g4,g2,?_⟩
   simp only [V.rep] at g3 ⊢
   exact⟨(fun y hy=>by cases hy),g3.2⟩
  ·exact h.elim
 ·exact h.elim
def detG (P:Program) (S:St) (o:Oper) (k:V→Prop):Prop :=
 match o.op with
 | .buildSlice t n parts=>buildSliceD P t n (parts.toList.map fun p=>(p.1,VL.ev S.σ p.2)) k
 | _=>detF P S o k
theorem detG_spec {C:Ctx} {S:St} {o:Oper} {k:V→Prop} (h:detG C.P S o k):∃ v,DetOp C S o v∧k v:=by
 unfold detG at h
 split at h
 ·rename_i ho;exact det_buildSlice ho h
 ·exact detF_spec h
section
variable {C:Ctx} {ops:Array Oper} {md:Region.Mode}
def dOps (P:Program) (ops:Array Oper) (K:St→Prop):List Oper→St→Prop
 | [],S=>K S
 | o::rest,S=>match wantA ops S.σ o with
  | some true=>detG P S o fun v=>dOps P ops K rest (S.put o.dst v)
  | some false=>dOps P ops K rest (S.put o.dst skipV)
  | none=>False
theorem yields_of_dOps {K:St→Prop} {o:Oper} {rest:List Oper} {S:St} (h:dOps C.P ops K (o::rest) S):∃ v,YieldsA C ops o v S∧dOps C.P ops K rest (S.put o.dst v):=by
 simp only [dOps] at h
 split at h
 ·rename_i hw
  obtain⟨v,hv,hk⟩:=detG_spec h
  exact⟨v,.inl ⟨hw,hv⟩,hk⟩
 ·rename_i hw
  exact⟨_,.inr ⟨hw,rfl⟩,h⟩
 ·exact h.elim
theorem wpAnyLA_lex {n g:Nat} {Lq:St→Prop} (hn:(n < ops.size∧Region.sinkB md ops n=true∧Region.chainB md ops n=true)∨n=ops.size) :
  ∀ (l:List Oper) (k:Nat) (listed:Array Bool) (S:St),(∀ j,j < l.length→l[j]? = ops[k+j]?)→(∀ o ∈ l,dstOk C.N o=true)→k+l.length=n→HeadInv md ops n listed →
  Region.lexHead md ops g l.length k listed=true→dOps C.P ops Lq l S →
  wpAnyLA C md ops n (fun listed' S'=>Region.seqB md ops g n listed'=true∧Lq S') l.length listed S
 | [],k,listed,S,_,_,hk,_,hB,h=>by
  have:k=n:=by simpa using hk
  subst this
  exact⟨by simpa [Region.lexHead] using hB,h⟩
 | o::l,k,listed,S,hl,hdl,hk,inv,hB,h=>by
  have h0:ops[k]? = some o:=by simpa using (hl 0 (by simp)).symm
  simp only [List.length_cons,Region.lexHead,Bool.and_eq_true] at hB
  obtain⟨⟨hr,hf⟩,hB'⟩:=hB
  have hkn:k < n:=by simp only [List.length_cons] at hk;omega
  have hr':k ∈ Region.ready md ops listed:=by simpa using hr
  obtain⟨v,hy,hK⟩:=yields_of_dOps h
  exact wpAnyLA_first h0 (hdl o List.mem_cons_self) hn hkn (fun listed' S' hL=>seqB_ready hL.1) l.length listed S inv (Region.free_spec h0 hf) hr' hy
   (wpAnyLA_lex hn l (k+1) _ _ (fun j hj=>by have:=hl (j+1) (by simp;omega);simpa [Nat.add_assoc,Nat.add_comm 1 j] using this) (fun o' ho'=>hdl o' (List.mem_cons_of_mem _ ho')) (by simp only [List.length_cons] at hk;omega) (inv.set hr' hkn) hB' hK)
def drawB (ops:Array Oper) (n:Nat):Bool :=
 Region.noSelect ops && (decide (n < ops.size) && Region.sinkB .any ops n && Region.chainB .any ops n || decide (n=ops.size)) && Region.lexHead .any ops (ops.size - n) n 0 (Array.replicate ops.size false)
theorem wp_region_draw {id:Nat} {Q:Exit→Act→World→Prop} {S:St} {a:Act} {w:World} {I:Cells} {l:List Oper} (n:Nat) (hm:C.P.follows .mixedOrders=true) (hB:drawB l.toArray n=true) (hdst:∀ o ∈ l,dstOk C.N o=true) (hΓ:Γ C S a w I)
  (T:St→Prop) (hT:∀ S' a' w' I',Γ C S' a' w' I'→T S'→wpListIn C.fe 0 C.P l.toArray Q (l.drop n) a' w') (h:dOps C.P l.toArray T (l.take n) S):(Code.region id l.toArray true).wpIn C.fe 0 C.P Q a w:=by
 simp only [drawB,Bool.and_eq_true,Bool.or_eq_true,decide_eq_true_eq] at hB
 obtain⟨⟨hsel,hn⟩,hlex⟩:=hB
 have hn':n≤l.length:=by
  rcases hn with hn | hn
  ·have:=hn.1.1;simp at this;omega
  ·simp at hn;omega
 have htl:(l.take n).length=n:=by simp;omega
 have hdl:(l.drop n).length=l.toArray.size - n:=by simp
 have inv0:HeadInv .any l.toArray n (Array.replicate l.toArray.size false) :=
  ⟨by simp,fun j oj _ hl=>(by rw [getD_replicate_false] at hl;cases hl),fun t _ ht=>getD_in (by simpa using ht) (getD_replicate_false _ _)⟩
 have H:=wpAnyLA_lex (C:=C) (md:=.any) (g:=l.toArray.size - n) (Lq:=T) (n:=n) (by rcases hn with hn | hn;exact .inl ⟨hn.1.1,hn.1.2,hn.2⟩;exact .inr hn) (l.take n) 0 _ S (fun j hj=>by
  have hj':j < n:=by rw [htl] at hj;exact hj
  simp [hj']) (fun o ho=>hdst o (List.mem_of_mem_take ho)) (by simpa using htl) inv0 (by rw [htl];exact hlex) h
 refine wpIn_region_any hm ?_
 have hΓ':Γ C S a { w with drawn:=w.drawn+1 } I:=⟨hΓ.1.mono (Keeps.drew (fun _=>True) w I).stays,hΓ.2.quiet (fun _=>True) (fun _ _=>trivial) (Keeps.drew _ w I) hΓ.2.heap.inn⟩
 have:=wpAny_of_headA (Q':=Q) (g:=l.toArray.size - n) (fun listed S' a' w' I' hΓ' hL=>by
  have:=wpAnyIn_of_seq (md:=.any) (Q':=Q) (l.drop n) n listed a' w' (fun j=>by simp [List.getElem?_drop]) (by rw [hdl];exact hL.1) (hT _ _ _ _ hΓ' hL.2)
  rwa [hdl] at this) _ _ _ _ _ _ hΓ' H
 rw [htl,show n+(l.toArray.size - n)=l.toArray.size by omega] at this
 exact this
end
end Go.VL
