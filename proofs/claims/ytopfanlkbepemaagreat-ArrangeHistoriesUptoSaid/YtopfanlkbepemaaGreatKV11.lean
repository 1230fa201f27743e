/- Merged out of my text V11. -/
import Derived.Test.YtopfanlkbepemaaGreatKV10
namespace Go.VL
open Go.RowKit
def takeR:List Row→Value→(Row→List Row→Prop)→Prop
 | [],_,_=>False
 | r::rs,y,K=>(r.x=y∧K r rs)∨takeR rs y fun r' rs'=>K r' (r::rs')
theorem takeR_spec:∀ {rows:List Row} {y:Value} {K:Row→List Row→Prop},takeR rows y K→∃ r rs,K r rs∧r.x=y∧rows.Perm (r::rs)
 | r::rs,y,K,h=>by
  rcases h with⟨h1,h2⟩ | h
  ·exact⟨r,rs,h2,h1,.refl _⟩
  ·obtain⟨r',rs',h1,h2,h3⟩:=takeR_spec h
   exact⟨r',r::rs',h1,h2,(h3.cons r).trans (.swap r' r rs')⟩
theorem blks_perm {boxes:List (Nat × B)} {rows rows':List Row} (h:rows.Perm rows'):(blks boxes rows).Perm (blks boxes rows') :=
 List.Perm.append_left _ (h.filterMap _)
theorem ΓW.perm {C S w I rows'} (h:ΓW C S w I) (hp:S.rows.Perm rows'):ΓW C { S with rows:=rows' } w I :=
 ⟨⟨h.heap.bx,fun r hr=>h.heap.rw r (hp.mem_iff.2 hr),(blks_perm hp).nodup_iff.1 h.heap.nodup,h.heap.inn,h.heap.glob⟩,fun b hb=>h.mine b ((blks_perm hp).mem_iff.2 hb),h.keeps,h.lo⟩
theorem blks_tail {boxes:List (Nat × B)} {r:Row} {rs:List Row}:∀ b ∈ blks boxes rs,b ∈ blks boxes (r::rs):=by
 intro b hb
 simp only [blks,List.mem_append,List.mem_filterMap] at hb ⊢
 exact hb.imp id fun⟨r',h1,h2⟩=>⟨r',List.mem_cons_of_mem _ h1,h2⟩
theorem nodup_tail {boxes:List (Nat × B)} {r:Row} {rs:List Row} (h:(blks boxes (r::rs)).Nodup):(blks boxes rs).Nodup:=by
 refine List.Sublist.nodup ?_ h
 unfold blks
 exact List.Sublist.append_left ((List.sublist_cons_self r rs).filterMap _) _
theorem ΓW.drop {C S w I r rs} (h:ΓW C S w I) (hs:S.rows=r::rs):ΓW C { S with rows:=rs } w I:=by
 have h1:=h.heap.nodup
 have h2:=h.mine
 rw [hs] at h1 h2
 exact⟨⟨h.heap.bx,fun r' hr=>h.heap.rw r' (hs▸List.mem_cons_of_mem _ hr),nodup_tail h1,h.heap.inn,h.heap.glob⟩,fun b hb=>h2 b (blks_tail b hb),h.keeps,h.lo⟩
theorem lies_of_cells {w':World} {I':Cells} {b k:Nat}:∀ {es:List (List V)} {xs:List Value} {o:Nat},V.reps w' I' es.flatten xs→(∀ e ∈ es,e.length=k) →
  (∀ j x,xs[j]? = some x→w'.cell? ⟨b,o+j,none⟩=some x∧I' b (o+j)∧one x)→V.lies w' I' k es b o
 | [],xs,o,_,_,_=>by simp only [V.lies]
 | e::es,xs,o,hr,hk,hc=>by
  simp only [V.lies]
  have hl:=hk e List.mem_cons_self
  have h1:=reps_take k hr
  have h2:=reps_drop k hr
  simp only [List.flatten_cons] at h1 h2
  rw [List.take_append_of_le_length (by omega),← hl,List.take_length] at h1
  rw [List.drop_append_of_le_length (by omega),← hl,List.drop_length,List.nil_append] at h2
  rw [hl] at h1 h2
  refine⟨?_,hl,lies_of_cells h2 (fun e' he=>hk e' (List.mem_cons_of_mem _ he)) fun j x hx=>?_⟩
  ·have ats:∀ {vs:List V} {ys:List Value} {p:Nat},V.reps w' I' vs ys→(∀ j x,ys[j]? = some x→w'.cell? ⟨b,p+j,none⟩=some x∧I' b (p+j)∧one x)→V.ats w' I' vs b p:=by
    intro vs
    induction vs with
    | nil=>intro ys p _ _;simp only [V.ats]
    | cons v vs ih =>
     intro ys p hr hc
     cases ys with
     | nil=>simp [V.reps] at hr
     | cons y ys =>
      simp only [V.reps] at hr
      simp only [V.ats]
      obtain⟨c1,c2,c3⟩:=hc 0 y rfl
      refine⟨⟨y,by simpa using c1,by simpa using c2,c3,hr.1⟩,ih hr.2 fun j x hx=>?_⟩
      have:=hc (j+1) x (by simpa using hx)
      rwa [show p+(j+1)=p+1+j from by omega] at this
   refine ats h1 fun j x hx=>hc j x ?_
   rw [List.getElem?_take] at hx
   split at hx
   ·exact hx
   ·cases hx
  ·have:=hc (k+j) x (by simpa [List.getElem?_drop] using hx)
   rwa [show o+(k+j)=o+k+j from by omega] at this
theorem flatten_len {k:Nat}:∀ {es:List (List V)},(∀ e ∈ es,e.length=k)→es.flatten.length=es.length * k
 | [],_=>by simp
 | e::es,h=>by
  rw [List.flatten_cons,List.length_append,h e List.mem_cons_self,flatten_len fun e' he=>h e' (List.mem_cons_of_mem _ he),List.length_cons,Nat.add_mul]
  omega
theorem ΓW.newRow {C S w I} (h:ΓW C S w I) (arr:Array Value) (e:TypeId) (k:Nat) (hk:0 < k) (es:List (List V)) (cap:Nat) (harr:arr.size=cap * k) (hc:es.length≤cap) (hm:cap≤maxLen) (hes:∀ e ∈ es,e.length=k)
  (hone:∀ x ∈ arr.toList.take (es.length * k),one x) (hrep:V.reps w I es.flatten (arr.toList.take (es.length * k))) :
  ∃ I',ΓW C (S.addRow ⟨.slice (some ⟨w.heap.size,0,none⟩) es.length cap,k,e⟩) (w.alloc (.cells arr e)) I'∧Stays w I (w.alloc (.cells arr e)) I' ∧
   V.rep (w.alloc (.cells arr e)) I' (.list (some (.slice (some ⟨w.heap.size,0,none⟩) es.length cap)) k es) (.slice (some ⟨w.heap.size,0,none⟩) es.length cap):=by
 have K:=Keeps.alloc (w:=w) (I:=I) (.cells arr e) (fun i=>i < es.length * k) h.heap.inn
 have hnew:(w.alloc (.cells arr e)).heap[w.heap.size]? = some (.cells arr e (0,0)):=heap_new w _
 have W:=h.quiet _ (fun _ hb=>hb) K (fun b i hi=>by
  rcases hi with hi | ⟨rfl,_⟩
  ·have:=h.heap.inn b i hi;simp;omega
  ·simp)
 refine⟨_,⟨⟨W.heap.bx,fun r hr=>?_,?_,W.heap.inn,W.heap.glob⟩,fun b hb=>?_,W.keeps,W.lo⟩,K.stays,?_⟩
 ·rcases List.mem_cons.1 hr with rfl | hr
  ·refine⟨hk,⟨_,_,by simp only [slen,List.length_take,Array.length_toList,harr];exact Nat.min_eq_left (Nat.mul_le_mul_right k hc),.inr ⟨w.heap.size,cap,arr,rfl,Nat.zero_le _,hnew,hc,hm,harr,rfl⟩⟩,fun g hg o ho hi=>?_⟩
   simp only [Value.ownBlock,Option.some.injEq] at hg
   subst hg
   rcases hi with hi | ⟨_,hi⟩
   ·have:=h.heap.inn _ _ hi;simp at this
   ·simp only [slen] at ho;omega
  ·exact W.heap.rw r hr
 ·have:(blks S.boxes ((⟨.slice (some ⟨w.heap.size,0,none⟩) es.length cap,k,e⟩:Row)::S.rows)).Perm (w.heap.size::blks S.boxes S.rows):=by
   simp only [blks,List.filterMap_cons,Row.blk,Value.ownBlock]
   exact List.perm_middle
  exact this.nodup_iff.2 (List.nodup_cons.2 ⟨h.fresh,h.heap.nodup⟩)
 ·have:(blks S.boxes ((⟨.slice (some ⟨w.heap.size,0,none⟩) es.length cap,k,e⟩:Row)::S.rows)).Perm (w.heap.size::blks S.boxes S.rows):=by
   simp only [blks,List.filterMap_cons,Row.blk,Value.ownBlock]
   exact List.perm_middle
  rcases List.mem_cons.1 (this.mem_iff.1 hb) with rfl | hb
  ·exact h.notF
  ·exact h.mine b hb
 ·simp only [V.rep]
  refine⟨fun y hy=>(Option.some.inj hy),_,cap,rfl,hc,.inr ⟨w.heap.size,0,rfl,lies_of_cells (V.reps_mono K.stays _ _ hrep) hes fun j x hx=>?_⟩⟩
  rw [List.getElem?_take] at hx
  split at hx
  ·rename_i hj
   refine⟨by rw [World.cell?_alloc_at _ _ _ _ rfl];simpa using hx,.inr ⟨rfl,by omega⟩,hone x ?_⟩
   exact List.mem_of_getElem? (i:=j) (by rw [List.getElem?_take,if_pos hj];exact hx)
  ·cases hx
theorem ats_vals {w:World} {I:Cells}:∀ {vs:List V} {b o:Nat},V.ats w I vs b o→∃ xs,V.reps w I vs xs∧(∀ x ∈ xs,one x)∧∀ j x,xs[j]? = some x→w.cell? ⟨b,o+j,none⟩=some x∧I b (o+j)
 | [],b,o,_=>⟨[],by simp [V.reps],by simp,by simp⟩
 | v::vs,b,o,h=>by
  simp only [V.ats] at h
  obtain⟨⟨x,h1,h2,h3,h4⟩,h5⟩:=h
  obtain⟨xs,g1,g2,g3⟩:=ats_vals h5
  refine⟨x::xs,by simp only [V.reps];exact⟨h4,g1⟩,fun y hy=>?_,fun j y hy=>?_⟩
  ·rcases List.mem_cons.1 hy with rfl | hy
   ·exact h3
   ·exact g2 y hy
  ·cases j with
   | zero=>simp at hy;subst hy;exact⟨h1,h2⟩
   | succ j =>
    have:=g3 j y (by simpa using hy)
    rwa [show o+1+j=o+(j+1) from by omega] at this
theorem lies_vals {w:World} {I:Cells} {k:Nat}:∀ {es:List (List V)} {b o:Nat},V.lies w I k es b o→(∀ e ∈ es,e.length=k)∧∃ xs,V.reps w I es.flatten xs∧(∀ x ∈ xs,one x)∧∀ j x,xs[j]? = some x→w.cell? ⟨b,o+j,none⟩=some x∧I b (o+j)
 | [],b,o,_=>⟨by simp,[],by simp [V.reps],by simp,by simp⟩
 | e::es,b,o,h=>by
  simp only [V.lies] at h
  obtain⟨h1,h2,h3⟩:=h
  obtain⟨xs,a1,a2,a3⟩:=ats_vals h1
  obtain⟨q,ys,b1,b2,b3⟩:=lies_vals h3
  have hl:=reps_length a1
  refine⟨fun e' he=>?_,xs++ys,by rw [List.flatten_cons];exact reps_append a1 b1,fun x hx=>?_,fun j x hx=>?_⟩
  ·rcases List.mem_cons.1 he with rfl | he
   ·exact h2
   ·exact q e' he
  ·rcases List.mem_append.1 hx with hx | hx
   ·exact a2 x hx
   ·exact b2 x hx
  ·rw [List.getElem?_append] at hx
   split at hx
   ·exact a3 j x hx
   ·rename_i hj
    have:=b3 (j - xs.length) x hx
    rwa [show o+k+(j - xs.length)=o+j from by omega] at this
theorem splice_step {α:Type} (L X Y:List α) (p k:Nat) (hX:X.length=k) (hp:p+k≤L.length) :
  (L.take p++X++L.drop (p+k)).take (p+k)++Y++(L.take p++X++L.drop (p+k)).drop (p+k+Y.length)=L.take p++(X++Y)++L.drop (p+(X++Y).length):=by
 have h:(L.take p++X).length=p+k:=by simp [hX];omega
 rw [List.take_left' h,List.drop_append,List.drop_eq_nil_of_le (by omega),List.nil_append,List.drop_drop,h]
 simp only [List.append_assoc,List.length_append,hX]
 congr 4
 omega
def partsE (k:Nat):Nat→List (Nat × V)→Option (List (List V))
 | _,[]=>some []
 | j,(i,v)::r=>if i=j then match cellsV v,partsE k (j+1) r with
  | some cs,some l=>if cs.length=k∧okC cs=true then some (cs::l) else none
  | _,_=>none
  else none
theorem partsE_spec {w I} {k:Nat} (n:Nat):∀ {parts:List (Nat × V)} {vals:List (Nat × Value)} {j:Nat} {es:List (List V)} {arr:Array Value},partsE k j parts=some es→arr.size=n * k→j+es.length≤n →
  parts.map (·.1)=vals.map (·.1)→V.reps w I (parts.map (·.2)) (vals.map (·.2)) →
  (∀ e ∈ es,e.length=k∧okC e=true)∧∃ arr' xs,Instr.fill (fun i=>some (i * k,k)) arr vals=some arr'∧V.reps w I es.flatten xs∧arr'.toList=arr.toList.take (j * k)++xs++arr.toList.drop (j * k+xs.length)
 | [],[],j,es,arr,h,hs,hj,_,_=>by
  simp only [partsE,Option.some.injEq] at h
  subst h
  exact⟨by simp,arr,[],rfl,by simp [V.reps],by simp⟩
 | (i,v)::ps,(i',x)::vs,j,es,arr,h,hs,hj,hi,hx=>by
  simp only [List.map_cons,List.cons.injEq] at hi
  obtain⟨rfl,hi⟩:=hi
  simp only [List.map_cons,V.reps] at hx
  unfold partsE at h
  split at h
  ·rename_i e;subst e
   split at h
   ·rename_i cs l h1 h2
    split at h
    ·rename_i hk
     obtain rfl:=Option.some.inj h
     have hc:=cellsV_spec h1 hx.1
     have hl:x.cells.size=k:=by have:=reps_length hc;simp at this;omega
     simp only [List.length_cons] at hj
     have hb:i * k+k≤arr.size:=by rw [hs,← Nat.succ_mul];exact Nat.mul_le_mul_right k (by omega)
     have hset:=foldl_set (i * k) x.cells.toList 0 arr (by simp;omega)
     simp only [Nat.add_zero] at hset
     have hcl:x.cells.toList.length=k:=by simpa using hl
     rw [hcl] at hset
     obtain⟨q,arr',xs,f1,f2,f3⟩:=partsE_spec n (arr:=(x.cells.zipIdx).foldl (fun cs (c,j)=>cs.setIfInBounds (i * k+j) c) arr) h2 (by
      have:((x.cells.zipIdx).foldl (fun cs (c,j)=>cs.setIfInBounds (i * k+j) c) arr).toList.length=n * k:=by
       rw [← Array.foldl_toList,Array.toList_zipIdx,hset];simp;omega
      simpa using this) (by omega) hi hx.2
     refine⟨fun e he=>?_,arr',x.cells.toList++xs,?_,by rw [List.flatten_cons];exact reps_append hc f2,?_⟩
     ·rcases List.mem_cons.1 he with rfl | he
      ·exact hk
      ·exact q e he
     ·unfold Instr.fill
      simp only []
      rw [if_neg (by simp;omega)]
      exact f1
     ·rw [f3,← Array.foldl_toList,Array.toList_zipIdx,hset]
      have:=splice_step arr.toList x.cells.toList xs (i * k) k hcl (by simpa using hb)
      rw [show (i+1) * k=i * k+k from by rw [Nat.add_mul];omega]
      exact this
    ·cases h
   ·cases h
  ·cases h
 | [],_::_,_,_,_,_,_,_,hi,_=>by simp at hi
 | _::_,[],_,_,_,_,_,_,hi,_=>by simp at hi
def buildSliceK (P:Program) (S:St) (d:Option Nat) (t:TypeId) (n:Nat) (parts:List (Nat × V)) (K:St→Prop):Prop :=
 match P.underlying t with
 | some (.slice e)=>match tsz P e,tzr P e with
  | some k,some z=>0 < k∧z.length=k∧n * k≤16777216∧∃ es,partsE k 0 parts=some es∧es.length=n∧∀ y,K ((S.addRow ⟨y,k,e⟩).put d (.list (some y) k es))
  | _,_=>False
 | _=>False
theorem step_buildSlice {C S} {o:Oper} {t:TypeId} {n:Nat} {parts:Array (Nat × Operand)} {K:St→Prop} (ho:o.op=.buildSlice t n parts) (hd:dstOk C.N o=true)
  (h:buildSliceK C.P S o.dst t n (parts.toList.map fun p=>(p.1,VL.ev S.σ p.2)) K):Step C S o K:=by
 unfold buildSliceK at h
 split at h
 ·rename_i e hu
  split at h
  ·rename_i k z hk hz
   obtain⟨h0,hzl,hb,es,hes,hn,hK⟩:=h
   refine Step.of_value fun a w I hΓ=>?_
   obtain⟨v,hv,hvz⟩:=run_tzr (w:=w) hz
   have hvs:v.cells.size=k:=by have:=congrArg List.length hvz;simpa [hzl] using this
   obtain⟨q,arr',xs,f1,f2,f3⟩:=partsE_spec (w:=w) (I:=I) n (k:=k) (arr:=(Array.range (n * k)).map (v.cells[· % v.cells.size]!)) (vals:=parts.toList.map fun p=>(p.1,a.eval p.2)) hes (by simp) (by omega) (by simp)
    (by
     have:=hΓ.evs (parts.toList.map (·.2))
     simpa [List.map_map,Function.comp_def] using this)
   have hfl:=flatten_len (fun e' he=>(q e' he).1)
   have hxl:xs.length=n * k:=by rw [reps_length f2,hfl,hn]
   have harr:arr'.toList=xs:=by
    rw [f3,hxl]
    simp
   have hsz:arr'.size=n * k:=by rw [← hxl,← harr];simp
   have htk:arr'.toList.take (es.length * k)=xs:=by rw [harr,hn,← hxl,List.take_length]
   have hmx:n≤maxLen:=by
    have:=Nat.le_trans (Nat.le_mul_of_pos_right n h0) hb
    simp only [maxLen];omega
   obtain⟨I',g1,g2,g3⟩:=hΓ.2.newRow arr' e k h0 es n hsz (by omega) hmx (fun e' he=>(q e' he).1) (by
    rw [htk]
    refine one_of_reps f2 fun c hc=>?_
    obtain⟨e',he',hce⟩:=List.mem_flatten.1 hc
    exact okC_spec (q e' he').2 c hce) (by rw [htk];exact f2)
   refine⟨_,_,_,I',?_,⟨(hΓ.1.mono g2).put o.dst (dstOk_spec hd) g3,g1.put _ _⟩,hK _⟩
   simp only [execOp,ho,Instr.buildSlice,newRow]
   have hb':¬ (n * k > 2 ^ 24):=by omega
   have e0:(parts.map fun x=>(x.1,a.eval x.2)).toList=parts.toList.map fun p=>(p.1,a.eval p.2):=by simp
   by_cases hnk:n * k=0
   ·have f1':Instr.fill (fun i=>some (i * k,k)) (Array.map (fun x=>(#[]:Array Value)[x % (#[]:Array Value).size]!) (Array.range 0)) (parts.toList.map fun p=>(p.1,a.eval p.2))=some arr':=by
     rw [hnk,Array.range_zero',Array.map_empty] at f1
     rw [Array.range_zero',Array.map_empty];exact f1
    simp only [Sem.run_bind,run_underlying hu,Result.andThen_ok,run_tsz hk,hnk,show ¬ (0 > 2 ^ 24) from by omega,if_false,if_true,e0,f1',run_newObj,Sem.run_pure,World.alloc_eq,hn]
   ·simp only [Sem.run_bind,run_underlying hu,Result.andThen_ok,run_tsz hk,hb',if_false,hnk,hv,e0,f1,run_newObj,Sem.run_pure,World.alloc_eq,hn]
  ·exact h.elim
 ·exact h.elim
end Go.VL
