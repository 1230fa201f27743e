/- Merged out of my text VMe. -/
import Derived.Test.YtopfanlkbepemaaGreatKVM
namespace Go.VL
open Go.RowKit
section
variable {P:Program}
def findE (es:List Ent) (k:Value):Option Ent:=es.find? fun e=>keq k e.2.1
def setE (n:Nat) (v:V) (es:List Ent):List Ent:=es.map fun e=>if e.1=n then (e.1,e.2.1,v) else e
theorem setE_keys (n:Nat) (v:V) (es:List Ent):(setE n v es).map (·.1)=es.map (·.1)∧(setE n v es).map (·.2.1)=es.map (·.2.1):=by
 unfold setE
 constructor
 ·rw [List.map_map];refine List.map_congr_left fun e _=>?_;simp only [Function.comp];split <;> rfl
 ·rw [List.map_map];refine List.map_congr_left fun e _=>?_;simp only [Function.comp];split <;> rfl
theorem find_pairE {w:World} {I:Cells} {k:Value}:∀ {arr:List MapEntry} {es:List Ent} {i:Nat},arr.map (·.born)=es.map (·.1)→arr.map (·.key)=es.map (·.2.1)→V.reps w I (es.map (·.2.2)) (arr.map (·.val)) →
  (findX k arr i=none∧findE es k=none)∨(∃ j x e',findX k arr i=some (i+j,x.val)∧findE es k=some e'∧arr[j]? = some x∧x.born=e'.1∧x ∈ arr∧keq k x.key=true∧V.rep w I e'.2.2 x.val)
 | [],[],i,_,_,_=>.inl ⟨rfl,rfl⟩
 | x::arr,e::es,i,hb,hk,hr=>by
  simp only [List.map_cons,List.cons.injEq] at hk hb
  simp only [List.map_cons,V.reps] at hr
  by_cases hq:keq k x.key=true
  ·have:keq k e.2.1=true:=hk.1▸hq
   exact .inr ⟨0,x,e,by simp [findX,hq],by simp [findE,this],rfl,hb.1,List.mem_cons_self,hq,hr.1⟩
  ·have hq':¬ keq k e.2.1=true:=hk.1▸hq
   rcases find_pairE (k:=k) (i:=i+1) hb.2 hk.2 hr.2 with⟨h1,h2⟩ | ⟨j,x',e',h1,h2,h3,h4,h5,h6,h7⟩
   ·left
    refine⟨by simp [findX,hq,h1],?_⟩
    simp only [findE,List.find?_cons,hq']
    simpa [findE] using h2
   ·right
    refine⟨j+1,x',e',by simp [findX,hq,h1];omega,?_,by simpa using h3,h4,List.mem_cons_of_mem _ h5,h6,h7⟩
    simp only [findE,List.find?_cons,hq']
    simpa [findE] using h2
 | [],_::_,_,h,_,_=>by simp at h
 | _::_,[],_,h,_,_=>by simp at h
def onEnt (o:Option Ent) (A:Ent→Prop) (B:Prop) (_:Fix A) (_:Fix B):Prop:=match o with | some e=>A e | none=>B
def mentD (S:St) (d:Option Nat) (ks:List Sh × Bool) (z:V) (kv:Value) (x:V) (K:St→Prop):Prop :=
 match x with
 | .lit (.map (some b))=>match getM S.boxes b with
  | some (ks',es,cl)=>ks'=ks∧onEnt (findE es kv) (fun e=>K (S.put d (.tup [e.2.2,.lit (.int .i64 e.1)]))) (K ((S.setBoxes (VL.setX S.boxes b (.m ks (es++[(cl,kv,z)]) (cl+1)))).put d (.tup [z,.lit (.int .i64 cl)]))) .mk .mk
  | none=>False
 | _=>False
def mentK (P:Program) (S:St) (d:Option Nat) (t:TypeId) (x k:V) (K:St→Prop):Prop :=
 match mapT P t with
 | some (_,ks,z)=>match keyV k with
  | some kv=>keyS ks kv=true∧mentD S d ks z kv x K
  | none=>False
 | none=>False
theorem modify_id {α:Type} {a:Array α} {j:Nat} {x:α} {f:α→α} (h:a.toList[j]? = some x) (hf:f x=x):a.modify j f=a:=by
 apply Array.ext'
 rw [Array.toList_modify]
 refine List.ext_getElem? fun i=>?_
 rw [List.getElem?_modify]
 by_cases e:j=i
 ·subst e;simp [h,hf]
 ·simp [e]
theorem step_mapEntry {C S} {o:Oper} {t:TypeId} {x k:Operand} {K:St→Prop} (ho:o.op=.mapEntry t x k) (hd:dstOk C.N o=true) (h:mentK C.P S o.dst t (VL.ev S.σ x) (VL.ev S.σ k) K):Step C S o K:=by
 unfold mentK at h
 split at h
 ·rename_i kt ks z hT
  obtain⟨et,hu,hks,hz⟩:=mapT_spec hT
  split at h
  rename_i kv hkv
  obtain⟨hkS,h⟩:=h
  unfold mentD at h
  split at h
  ·rename_i b hx
   split at h
   ·rename_i ks' es cl hm
    obtain⟨rfl,h⟩:=h
    obtain⟨ekv,hsh,hfit⟩:=keyS_mk hks hkS
    have hmem:=getM_mem hm
    have hb:b ∈ S.boxes.map (·.1):=List.mem_map.2 ⟨_,hmem,rfl⟩
    have hck:∀ w,(Instr.checkKey false 10000 kt kv).run C.P w=.ok () w:=fun w=>by
     rw [ekv];exact check_law 12 kt ks'.1 hsh 10000 (by omega) _ w hfit
    refine Step.of_value fun a w I hΓ=>?_
    have rx:=hΓ.ev x
    rw [hx] at rx
    simp only [V.rep] at rx
    have rk:=keyV_spec hkv (hΓ.ev k)
    obtain⟨arr,g1,g2,g3,g4,g5,g6,g7,g8,g9⟩:=MapAt.all (hΓ.2.heap.bx _ hmem)
    have hf:=run_findKey hks hkS w arr.toList g4
    rcases find_pairE (i:=0) g2 g3 g8 (k:=kv) with⟨q1,q2⟩ | ⟨j,y,e',q1,q2,q3,q4,q5,q6,q7⟩
    ·rw [q2] at h
     obtain⟨zv,hzr,hzv⟩:=run_zeroV hz w I
     have hz2:∀ w',(∀ r,r ≠ b→w'.heap[r]? = w.heap[r]?)→w'.heap[b]? = some (.map (arr.push { key:=kv,val:=zv,born:=cl }) (cl+1))→Stays w I w' I→BoxAt w' I b (.m ks' (es++[(cl,kv,z)]) (cl+1)):=fun w' _ h1 hs=>by
      refine⟨_,h1,⟨by simp [g2],by simp [g3],?_,?_,?_⟩,?_,g9⟩
      ·intro e he
       rcases List.mem_append.1 he with he | he
       ·exact g5 e he
       ·simp only [List.mem_singleton] at he;subst he;exact hkS
      ·rw [List.map_append,List.pairwise_append]
       refine⟨g6,by simp,fun a' ha b' hb'=>?_⟩
       simp only [List.map_cons,List.map_nil,List.mem_singleton] at hb'
       obtain⟨e,he,rfl⟩:=List.mem_map.1 ha
       subst hb'
       exact g7 e he
      ·intro e he
       rcases List.mem_append.1 he with he | he
       ·exact Nat.lt_succ_of_lt (g7 e he)
       ·simp only [List.mem_singleton] at he;subst he;exact Nat.lt_succ_self _
      ·simp only [Array.toList_push,List.map_append,List.map_cons,List.map_nil]
       exact reps_append (V.reps_mono hs _ _ g8) (by simp only [V.reps,and_true];exact V.rep_mono hs _ _ hzv)
     obtain⟨hW,hS⟩:=hΓ.2.setX hb g1 hz2
     refine⟨.tuple #[zv,goInt cl],_,_,I,?_,⟨(hΓ.1.mono hS).put o.dst (dstOk_spec hd) (v:=.tup [z,.lit (.int .i64 cl)]) ?_,hW.put _ _⟩,h⟩
     ·simp only [execOp,ho,rx,rk,Instr.mapEntry,Sem.run_bind,run_underlying hu,Result.andThen_ok,MapKept.run_getObj_map g1,hck,hf,q1,hzr,run_setBlk _ g1 (fun _ _ _ h=>by cases h),Sem.run_pure]
     ·simp only [V.rep]
      exact⟨_,rfl,by simp only [V.reps,V.rep];exact⟨V.rep_mono hS _ _ hzv,rfl,trivial⟩⟩
    ·rw [q2] at h
     have ekey:y.key=kv:=((keq_iff hkS (g4 y q5)).1 q6).symm
     have hq3:arr[j]? = some y:=by rw [← q3];simp
     have hmod:(arr.modify j fun e=>{ e with key:=kv })=arr:=modify_id q3 (by rw [← ekey])
     have hz2:∀ w',(∀ r,r ≠ b→w'.heap[r]? = w.heap[r]?)→w'.heap[b]? = some (.map arr cl)→Stays w I w' I→BoxAt w' I b (.m ks' es cl):=fun w' _ h1 hs =>
      ⟨_,h1,⟨g2,g3,g5,g6,g7⟩,V.reps_mono hs _ _ g8,g9⟩
     obtain⟨hW,hS⟩:=hΓ.2.setX hb g1 hz2
     have hself:VL.setX S.boxes b (.m ks' es cl)=S.boxes:=by
      clear h hz2 hW
      have:=(List.nodup_append.1 hΓ.2.heap.nodup).1
      revert hm
      clear hS hmem hb
      generalize S.boxes=bs
      intro hm
      induction bs with
      | nil=>simp [getM] at hm
      | cons p r ih =>
       obtain⟨c,z⟩:=p
       unfold VL.setX
       by_cases e:b=c
       ·subst e
        cases z <;> simp [getM] at hm
        obtain⟨rfl,rfl,rfl⟩:=hm
        simp
       ·rw [if_neg e,ih]
        cases z <;> simpa [getM,e] using hm
     rw [hself] at hW
     refine⟨.tuple #[y.val,goInt y.born],_,_,I,?_,⟨(hΓ.1.mono hS).put o.dst (dstOk_spec hd) (v:=.tup [e'.2.2,.lit (.int .i64 e'.1)]) ?_,hW.put _ _⟩,h⟩
     ·simp only [execOp,ho,rx,rk,Instr.mapEntry,Sem.run_bind,run_underlying hu,Result.andThen_ok,MapKept.run_getObj_map g1,hck,hf,q1,Nat.zero_add,hq3,Option.map_some,Option.getD_some,ekey,run_stays hkS,hmod,run_setBlk _ g1 (fun _ _ _ h=>by cases h),Sem.run_pure]
     ·simp only [V.rep]
      exact⟨_,rfl,by simp only [V.reps,V.rep];exact⟨V.rep_mono hS _ _ q7,by rw [q4];rfl,trivial⟩⟩
   ·exact h.elim
  ·exact h.elim
  ·exact h.elim
 ·exact h.elim
def estD (S:St) (d:Option Nat) (x s v:V) (K:St→Prop):Prop :=
 match x,s with
 | .lit (.map (some b)),.lit (.int .i64 n)=>match getM S.boxes b with
  | some (ks,es,cl)=>(∃ e ∈ es,(e.1:Int)=n)∧K ((S.setBoxes (VL.setX S.boxes b (.m ks (setE n.toNat v es) cl))).put d .any)
  | none=>False
 | _,_=>False
theorem est_pair {w:World} {I:Cells} {n:Nat} {u:V} {y:Value} (hu:V.rep w I u y):∀ {arr:List MapEntry} {es:List Ent},arr.map (·.born)=es.map (·.1)→arr.map (·.key)=es.map (·.2.1)→V.reps w I (es.map (·.2.2)) (arr.map (·.val))→(es.map (·.1)).Pairwise (· < ·)→(∃ e ∈ es,e.1=n) →
  ∃ i,arr.findIdx? (fun e=>(e.born:Int) == (n:Int))=some i∧(arr.modify i fun e=>{ e with val:=y }).map (·.born)=es.map (·.1)∧(arr.modify i fun e=>{ e with val:=y }).map (·.key)=es.map (·.2.1)∧V.reps w I ((setE n u es).map (·.2.2)) ((arr.modify i fun e=>{ e with val:=y }).map (·.val))
 | [],[],_,_,_,_,h=>by obtain⟨e,he,_⟩:=h;cases he
 | x::arr,e::es,hb,hk,hr,hp,h=>by
  simp only [List.map_cons,List.cons.injEq] at hk hb
  simp only [List.map_cons,V.reps] at hr
  simp only [List.map_cons,List.pairwise_cons] at hp
  by_cases hq:e.1=n
  ·refine⟨0,?_,?_,?_,?_⟩
   ·have:((x.born:Int) == (n:Int))=true:=by rw [hb.1,hq];simp
    simp [List.findIdx?_cons,this]
   ·simp [hb]
   ·simp [hk]
   ·have hno:setE n u es=es:=by
     unfold setE
     conv=>rhs;rw [← List.map_id es]
     refine List.map_congr_left fun e2 he2=>?_
     have:=hp.1 e2.1 (List.mem_map.2 ⟨e2,he2,rfl⟩)
     rw [if_neg (by omega)];rfl
    have:setE n u (e::es)=(e.1,e.2.1,u)::es:=by
     rw [show setE n u (e::es)=(if e.1=n then (e.1,e.2.1,u) else e)::setE n u es from rfl,if_pos hq,hno]
    rw [this]
    simp only [List.modify_zero_cons,List.map_cons,V.reps]
    exact⟨hu,hr.2⟩
  ·have h':∃ e ∈ es,e.1=n:=by
    obtain⟨e2,he2,h2⟩:=h
    rcases List.mem_cons.1 he2 with rfl | he2
    ·exact absurd h2 hq
    ·exact⟨e2,he2,h2⟩
   obtain⟨i,h1,h2,h3,h4⟩:=est_pair hu hb.2 hk.2 hr.2 hp.2 h'
   refine⟨i+1,?_,?_,?_,?_⟩
   ·have:((x.born:Int) == (n:Int))=false:=by rw [hb.1];simp;omega
    simp [List.findIdx?_cons,this,h1]
   ·simp only [List.modify_succ_cons,List.map_cons,h2,hb.1]
   ·simp only [List.modify_succ_cons,List.map_cons,h3,hk.1]
   ·rw [show setE n u (e::es)=(if e.1=n then (e.1,e.2.1,u) else e)::setE n u es from rfl,if_neg hq]
    simp only [List.modify_succ_cons,List.map_cons,V.reps]
    exact⟨hr.1,h4⟩
 | [],_::_,h,_,_,_,_=>by simp at h
 | _::_,[],h,_,_,_,_=>by simp at h
theorem step_entryStore {C S} {o:Oper} {t:TypeId} {x s v:Operand} {K:St→Prop} (ho:o.op=.entryStore t x s v) (hd:dstOk C.N o=true) (h:estD S o.dst (VL.ev S.σ x) (VL.ev S.σ s) (VL.ev S.σ v) K):Step C S o K:=by
 unfold estD at h
 split at h
 ·rename_i b n hx hs
  split at h
  ·rename_i ks es cl hm
   obtain⟨⟨e0,he0,hn⟩,h⟩:=h
   have hmem:=getM_mem hm
   have hb:b ∈ S.boxes.map (·.1):=List.mem_map.2 ⟨_,hmem,rfl⟩
   refine Step.of_skip fun a w I hΓ=>?_
   have rx:=hΓ.ev x
   rw [hx] at rx
   simp only [V.rep] at rx
   have rs:=hΓ.ev s
   rw [hs] at rs
   simp only [V.rep] at rs
   have rv:=hΓ.ev v
   obtain⟨arr,g1,g2,g3,g4,g5,g6,g7,g8,g9⟩:=MapAt.all (hΓ.2.heap.bx _ hmem)
   have hnn:((n.toNat:Nat):Int)=n:=by omega
   obtain⟨i,h1,h2,h3,h4⟩:=est_pair (n:=n.toNat) rv g2 g3 g8 g6 ⟨e0,he0,by omega⟩
   rw [hnn] at h1
   have hk:=setE_keys n.toNat (VL.ev S.σ v) es
   have hz2:∀ w',(∀ r,r ≠ b→w'.heap[r]? = w.heap[r]?)→w'.heap[b]? = some (.map (arr.modify i fun e=>{ e with val:=a.eval v }) cl)→Stays w I w' I→BoxAt w' I b (.m ks (setE n.toNat (VL.ev S.σ v) es) cl):=fun w' _ hw hst=>by
    refine⟨_,hw,⟨?_,?_,?_,?_,?_⟩,?_,g9⟩
    ·rw [Array.toList_modify,hk.1];exact h2
    ·rw [Array.toList_modify,hk.2];exact h3
    ·intro e he
     have:e.2.1 ∈ (setE n.toNat (VL.ev S.σ v) es).map (·.2.1):=List.mem_map.2 ⟨e,he,rfl⟩
     rw [hk.2] at this
     obtain⟨e2,he2,h5⟩:=List.mem_map.1 this
     rw [← h5];exact g5 e2 he2
    ·rw [hk.1];exact g6
    ·intro e he
     have:e.1 ∈ (setE n.toNat (VL.ev S.σ v) es).map (·.1):=List.mem_map.2 ⟨e,he,rfl⟩
     rw [hk.1] at this
     obtain⟨e2,he2,h5⟩:=List.mem_map.1 this
     rw [← h5];exact g7 e2 he2
    ·rw [Array.toList_modify];exact V.reps_mono hst _ _ h4
   obtain⟨hW,hS⟩:=hΓ.2.setX hb g1 hz2
   have h1':arr.findIdx? (fun e=>(e.born:Int) == n)=some i:=by rw [show arr=arr.toList.toArray from rfl,List.findIdx?_toArray];exact h1
   refine⟨_,_,I,?_,⟨(hΓ.1.mono hS).put o.dst (dstOk_spec hd) (v:=.any) (by simp only [V.rep]),hW.put _ _⟩,h⟩
   simp only [execOp,ho,rx,rs,Instr.entryStore,Sem.run_bind,Result.andThen_ok,MapKept.run_getObj_map g1,asInt,asIntOf,h1',run_setBlk _ g1 (fun _ _ _ h=>by cases h),Sem.run_pure]
  ·exact h.elim
 ·exact h.elim
end
end Go.VL
