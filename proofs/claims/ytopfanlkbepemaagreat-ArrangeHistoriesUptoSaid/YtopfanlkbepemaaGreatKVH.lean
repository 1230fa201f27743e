/- Merged out of my text VH. -/
import Derived.Test.YtopfanlkbepemaaGreatKVR
namespace Go.VL
open Go.RowKit
section
variable {hc:Option Bool} {ops:Array Oper} {md:Region.Mode}
def doneOf (listed:Array Bool):Nat→Bool:=fun i=>listed.getD i false
def also (L:Nat→Bool) (i:Nat):Nat→Bool:=fun j=>if j=i then true else L j
theorem wpAny_of_invW {C:Ctx} {Q:Exit→Act→World→Prop} (Inv:(Nat→Bool)→St→Prop) (hlex:lexB md ops=true) (_hd:∀ (i:Nat) (o:Oper),ops[i]? = some o→dstOk C.N o=true)
  (step:∀ (L:Nat→Bool) (S:St) (i:Nat) (o:Oper),ops[i]? = some o→L i=false→(∀ e ∈ o.after,Region.binds md e=true→L e.on=true)→Inv L S→∀ (a:Act) (w:World) (I:Cells) (K':Act→World→Prop),Γ C S a w I→(∀ S' a' w' I',Γ C S' a' w' I'→Inv (also L i) S'→K' a' w')→wpOpIn C.fe 0 C.P ops Q i K' a w)
  (hQ:∀ (L:Nat→Bool) S a w I,(∀ i,i < ops.size→L i=true)→Γ C S a w I→Inv L S→Q .normal a w) :
  ∀ (f:Nat) (listed:Array Bool) (S:St) (a:Act) (w:World) (I:Cells),listed.size=ops.size→DownC md ops listed→(leftOf ops listed).length=f→Γ C S a w I→Inv (doneOf listed) S→wpAnyIn C.fe 0 C.P md ops Q f listed a w:=by
 intro f
 induction f with
 | zero =>
  intro listed S a w I hsz hdn hf hΓ h
  have hnil:leftOf ops listed=[]:=List.length_eq_zero_iff.1 hf
  have hall:∀ i,i < ops.size→listed.getD i true=true:=fun i hi=>by
   by_cases hju:listed.getD i true=true
   ·exact hju
   ·have:i ∈ leftOf ops listed:=by simp only [leftOf,List.mem_filter,List.mem_range];exact⟨hi,by simpa using hju⟩
    rw [hnil] at this
    cases this
  refine⟨?_,hQ _ S a w I (fun i hi=>by unfold doneOf;rw [getD_tf (by omega)];exact hall i hi) hΓ h⟩
  cases hr:Region.ready md ops listed with
  | nil=>rfl
  | cons i r =>
   obtain⟨h1,h2,_⟩:=ready_of (md:=md) (ops:=ops) (listed:=listed) (i:=i) (by rw [hr];exact List.mem_cons_self)
   rw [hall i h1] at h2
   cases h2
 | succ f ih =>
  intro listed S a w I hsz hdn hf hΓ h
  refine⟨fun h0=>?_,fun i hi=>?_⟩
  ·cases hl:leftOf ops listed with
   | nil=>rw [hl] at hf;simp at hf
   | cons i r =>
    have hm:i ∈ leftOf ops listed:=by rw [hl];exact List.mem_cons_self
    simp only [leftOf,List.mem_filter,List.mem_range,Bool.not_eq_true'] at hm
    have hlt:∀ j,j < i→listed.getD j true=true:=fun j hj=>by
     by_cases hju:listed.getD j true=true
     ·exact hju
     ·have hjm:j ∈ leftOf ops listed:=by simp only [leftOf,List.mem_filter,List.mem_range];exact⟨by omega,by simpa using hju⟩
      have hs:(leftOf ops listed).Pairwise (· < ·):=List.Pairwise.filter _ List.pairwise_lt_range
      rw [hl] at hjm hs
      rcases List.mem_cons.1 hjm with rfl | hjm
      ·omega
      ·have:=(List.pairwise_cons.1 hs).1 j hjm
       omega
    have:i ∈ Region.ready md ops listed:=ready_mk hm.1 hm.2 fun o ho e he hb=>by
     have h1:=lexB_spec hlex ho he hb
     rw [getD_tf (by omega)]
     exact hlt _ h1
    rw [h0] at this
    cases this
  ·obtain⟨h1,h2,h3⟩:=ready_of hi
   have hset:∀ k,(listed.setIfInBounds i true).getD k true=(if k=i then true else listed.getD k true):=fun k=>by
    by_cases hk:k=i
    ·subst hk
     have:k < listed.size:=by omega
     simp [Array.getD,this]
    ·by_cases hks:k < listed.size
     ·simp [Array.getD,hks,hk,Array.getElem_setIfInBounds_ne _ (Ne.symm hk)]
     ·simp [Array.getD,hks,hk]
   have hsetf:doneOf (listed.setIfInBounds i true)=also (doneOf listed) i:=by
    funext k
    unfold doneOf also
    by_cases hks:k < listed.size
    ·rw [getD_tf (by simpa using hks),hset]
     by_cases hk:k=i
     ·simp [hk]
     ·rw [if_neg hk,if_neg hk];exact(getD_tf hks).symm
    ·have hki:k ≠ i:=by omega
     rw [if_neg hki]
     simp [Array.getD,hks]
   obtain⟨o,ho⟩:∃ o,ops[i]? = some o:=⟨ops[i],by simp [h1]⟩
   refine step (doneOf listed) S i o ho (by unfold doneOf;rw [getD_tf (by omega)];exact h2) (fun e he hb=>h3 o ho e he hb) h a w I _ hΓ (fun S' a' w' I' hΓ' hk=>?_)
   rw [← hsetf] at hk
   have hm:i ∈ leftOf ops listed:=by simp only [leftOf,List.mem_filter,List.mem_range,h2];exact⟨h1,rfl⟩
   refine ih (listed.setIfInBounds i true) S' a' w' I' (by simpa using hsz) ?_ ?_ hΓ' hk
   ·intro k hk o' ho' e he hb
    have hold:∀ m,listed.getD m false=true→(listed.setIfInBounds i true).getD m false=true:=fun m hm=>by
     have:=congrFun hsetf m
     unfold doneOf also at this
     rw [this]
     split
     ·rfl
     ·exact hm
    refine hold _ ?_
    by_cases hki:k=i
    ·subst hki;exact h3 o' ho' e he hb
    ·have:=congrFun hsetf k
     unfold doneOf also at this
     rw [this,if_neg hki] at hk
     exact hdn k hk o' ho' e he hb
   ·have e:leftOf ops (listed.setIfInBounds i true)=(leftOf ops listed).filter fun k=>decide (k ≠ i):=by
     unfold leftOf
     rw [List.filter_filter]
     refine List.filter_congr fun k _=>?_
     rw [hset]
     by_cases hk:k=i <;> simp [hk]
    obtain⟨A,B,hAB⟩:=List.append_of_mem hm
    have hs:(leftOf ops listed).Pairwise (· < ·):=List.Pairwise.filter _ List.pairwise_lt_range
    rw [e,hAB]
    rw [hAB] at hs hf
    have hn:(A++i::B).Nodup:=hs.imp fun h=>Nat.ne_of_lt h
    have hnA:i ∉ A:=fun hA=>(List.nodup_append.1 hn).2.2 i hA i List.mem_cons_self rfl
    have hnB:i ∉ B:=(List.nodup_cons.1 (List.nodup_append.1 hn).2.1).1
    rw [List.filter_append,List.filter_cons]
    simp only [ne_eq,not_true_eq_false,decide_false,Bool.false_eq_true,if_false]
    rw [List.filter_eq_self.2 fun k hk=>by simpa using fun e=>hnA (by rw [← e];exact hk),List.filter_eq_self.2 fun k hk=>by simpa using fun e=>hnB (by rw [← e];exact hk)]
    simp only [List.length_append,List.length_cons] at hf ⊢
    omega
theorem wpAny_of_inv {C:Ctx} {Q:Exit→Act→World→Prop} (Inv:(Nat→Bool)→St→Prop) (hlex:lexB md ops=true) (hd:∀ (i:Nat) (o:Oper),ops[i]? = some o→dstOk C.N o=true)
  (step:∀ (L:Nat→Bool) (S:St) (i:Nat) (o:Oper),ops[i]? = some o→L i=false→(∀ e ∈ o.after,Region.binds md e=true→L e.on=true)→Inv L S→gStep C.P hc ops o (Inv (also L i)) S)
  (hQ:∀ (L:Nat→Bool) S a w I,(∀ i,i < ops.size→L i=true)→Γ C S a w I→Inv L S→Q .normal a w) :
  ∀ (f:Nat) (listed:Array Bool) (S:St) (a:Act) (w:World) (I:Cells),listed.size=ops.size→DownC md ops listed→(leftOf ops listed).length=f→Γ C S a w I→Inv (doneOf listed) S→wpAnyIn C.fe 0 C.P md ops Q f listed a w :=
 wpAny_of_invW Inv hlex hd (fun L S i o ho hL he hI a w I K' hΓ hk=>gStepI_wp (hc:=hc) (hd i) hΓ hk (by unfold gStepI;rw [ho];exact step L S i o ho hL he hI)) hQ
theorem wpOp_of_aOps {C:Ctx} {i:Nat} {o:Oper} {S:St} {a:Act} {w:World} {I:Cells} {K:St→Prop} {K':Act→World→Prop} {Q':Exit→Act→World→Prop} (ho:ops[i]? = some o) (h0:dstOk C.N o=true) (hΓ:Γ C S a w I)
  (hk:∀ S' a' w' I',Γ C S' a' w' I'→K S'→K' a' w') (h:aOps C.P ops K [o] S):wpOpIn C.fe 0 C.P ops Q' i K' a w:=by
 unfold wpOpIn
 simp only [ho]
 simp only [aOps] at h
 split at h
 ·rename_i hw
  rw [if_pos (wantA_spec hΓ hw)]
  exact Oper.wpIn_mono (fun a' w' ⟨S',I',hΓ',hk'⟩=>hk S' a' w' I' hΓ' hk') (aOp_spec h0 h a w I hΓ Q')
 ·rename_i hw
  rw [if_neg (by rw [wantA_spec hΓ hw];simp)]
  exact⟨fun f _=>C.fe_fn f,hk _ _ _ I ⟨hΓ.1.put o.dst (dstOk_spec h0) (by simp only [skipV,V.rep]),hΓ.2.put _ _⟩ h⟩
 ·exact h.elim
end
theorem EX_inv {C:Ctx} {k:List It} {S:St} {Q:Exit→St→Prop} {l:List Oper} {id:Nat} (hc:Option Bool) (hm:C.P.follows .mixedOrders=true) (hlex:lexB .any l.toArray=true) (hd:l.all (dstOk C.N)=true) (Inv:(Nat→Bool)→St→Prop)
  (h0:Inv (fun _=>false) S)
  (step:∀ (L:Nat→Bool) (S:St) (i:Nat) (o:Oper),l[i]? = some o→L i=false→(∀ e ∈ o.after,Region.binds .any e=true→L e.on=true)→Inv L S→EX C [.ops (.g hc) l.toArray [o],.stop (Inv (also L i))] S (fun _ _=>False))
  (last:∀ (L:Nat→Bool) S,(∀ i,i < l.length→L i=true)→Inv L S→EX C k S Q):AWP C (.region id l.toArray true) S (contQ C k Q):=by
 intro a w I hΓ
 refine wpIn_region_any hm ?_
 have hrep:∀ i,(Array.replicate l.toArray.size false).getD i false=false:=fun i=>by
  simp [Array.getD]
 have hΓ':Γ C S a { w with drawn:=w.drawn+1 } I:=⟨hΓ.1.mono (Keeps.drew (fun _=>True) w I).stays,hΓ.2.quiet (fun _=>True) (fun _ _=>trivial) (Keeps.drew _ w I) hΓ.2.heap.inn⟩
 have hleft:leftOf l.toArray (Array.replicate l.toArray.size false)=List.range l.toArray.size:=by
  unfold leftOf
  refine List.filter_eq_self.2 fun i hi=>?_
  have h2:i < l.length:=by have:=List.mem_range.1 hi;simpa using this
  simp [Array.getD,h2]
 refine wpAny_of_inv (C:=C) (hc:=hc) Inv hlex (fun i o ho=>?_) (fun L S i o ho hL he hI=>?_) (fun L S a w I hall hΓ hI=>⟨S,I,hΓ,last L S (by simpa using hall) hI⟩) l.toArray.size _ S a _ I (by simp) (fun i hi=>by rw [hrep] at hi;cases hi) (by rw [hleft];simp) hΓ' ?_
 ·have:o ∈ l:=by
   have h1:l[i]? = some o:=by simpa using ho
   exact List.mem_of_getElem? h1
  exact List.all_eq_true.1 hd o this
 ·have h1:l[i]? = some o:=by simpa using ho
  have:=step L S i o h1 hL he hI
  simpa [EX,contQ,athen,gSeq] using this
 ·have:doneOf (Array.replicate l.toArray.size false)=fun _=>false:=by funext i;exact hrep i
  rw [this];exact h0
theorem EX_invA {C:Ctx} {k:List It} {S:St} {Q:Exit→St→Prop} {l:List Oper} {id:Nat} (hm:C.P.follows .mixedOrders=true) (hlex:lexB .any l.toArray=true) (hd:l.all (dstOk C.N)=true) (Inv:(Nat→Bool)→St→Prop)
  (h0:Inv (fun _=>false) S)
  (step:∀ (L:Nat→Bool) (S:St) (i:Nat) (o:Oper),l[i]? = some o→L i=false→(∀ e ∈ o.after,Region.binds .any e=true→L e.on=true)→Inv L S→EX C [.ops .f l.toArray [o],.stop (Inv (also L i))] S (fun _ _=>False))
  (last:∀ (L:Nat→Bool) S,(∀ i,i < l.length→L i=true)→Inv L S→EX C k S Q):AWP C (.region id l.toArray true) S (contQ C k Q):=by
 intro a w I hΓ
 refine wpIn_region_any hm ?_
 have hrep:∀ i,(Array.replicate l.toArray.size false).getD i false=false:=fun i=>by
  simp [Array.getD]
 have hΓ':Γ C S a { w with drawn:=w.drawn+1 } I:=⟨hΓ.1.mono (Keeps.drew (fun _=>True) w I).stays,hΓ.2.quiet (fun _=>True) (fun _ _=>trivial) (Keeps.drew _ w I) hΓ.2.heap.inn⟩
 have hleft:leftOf l.toArray (Array.replicate l.toArray.size false)=List.range l.toArray.size:=by
  unfold leftOf
  refine List.filter_eq_self.2 fun i hi=>?_
  have h2:i < l.length:=by have:=List.mem_range.1 hi;simpa using this
  simp [Array.getD,h2]
 refine wpAny_of_invW (C:=C) Inv hlex (fun i o ho=>?_) (fun L S i o ho hL he hI a w I K' hΓ hk=>?_) (fun L S a w I hall hΓ hI=>⟨S,I,hΓ,last L S (by simpa using hall) hI⟩) l.toArray.size _ S a _ I (by simp) (fun i hi=>by rw [hrep] at hi;cases hi) (by rw [hleft];simp) hΓ' ?_
 ·have:o ∈ l:=by
   have h1:l[i]? = some o:=by simpa using ho
   exact List.mem_of_getElem? h1
  exact List.all_eq_true.1 hd o this
 ·have h1:l[i]? = some o:=by simpa using ho
  have:=step L S i o h1 hL he hI
  refine wpOp_of_aOps ho ?_ hΓ hk this
  have:o ∈ l:=List.mem_of_getElem? h1
  exact List.all_eq_true.1 hd o this
 ·have:doneOf (Array.replicate l.toArray.size false)=fun _=>false:=by funext i;exact hrep i
  rw [this];exact h0
end Go.VL
