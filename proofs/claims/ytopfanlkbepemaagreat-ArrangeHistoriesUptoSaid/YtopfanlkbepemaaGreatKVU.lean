/- Merged out of my text VU. -/
import Derived.Test.YtopfanlkbepemaaGreatKVW
namespace Go.VL
open Go.RowKit
def ancs (md:Region.Mode) (ops:Array Oper):Nat→List (List Nat)
 | 0=>[]
 | n+1=>ancs md ops n++[match ops[n]? with
  | some o=>(o.after.toList.filter (Region.binds md)).flatMap fun(e:Edge)=>e.on::(ancs md ops n).getD e.on []
  | none=>[]]
def pairB (hc:Option Bool) (ops:Array Oper) (i j:Nat):Bool :=
 match ops[i]?, ops[j]? with
 | some oi,some oj=>oi.apart ops oj && mixB hc oi oj
 | _,_=>true
def freeB (hc:Option Bool) (ops:Array Oper) (A:List (List Nat)):Nat→Bool
 | 0=>true
 | n+1=>freeB hc ops A n && (List.range n).all fun j=>(A.getD n []).contains j || pairB hc ops j n
def lexB (md:Region.Mode) (ops:Array Oper):Bool :=
 (List.range ops.size).all fun i=>match ops[i]? with | some o=>o.after.toList.all fun e=>!Region.binds md e || decide (e.on < i) | none=>true
def mixedB (hc:Option Bool) (ops:Array Oper):Bool :=
 lexB .any ops && freeB hc ops (ancs .any ops ops.size) ops.size
section
variable {P:Program} {hc:Option Bool} {ops:Array Oper} {md:Region.Mode}
def waitsFor (md:Region.Mode) (ops:Array Oper) (listed:Array Bool) (i:Nat):Prop:=∀ o,ops[i]? = some o→∀ e ∈ o.after,Region.binds md e=true→listed.getD e.on false=true
def DownC (md:Region.Mode) (ops:Array Oper) (listed:Array Bool):Prop:=∀ i,listed.getD i false=true→waitsFor md ops listed i
theorem ancs_length:∀ n,(ancs md ops n).length=n
 | 0=>rfl
 | n+1=>by simp [ancs,ancs_length n]
theorem ancs_spec {listed:Array Bool} (hd:DownC md ops listed):∀ n i,waitsFor md ops listed i→∀ j ∈ (ancs md ops n).getD i [],listed.getD j false=true:=by
 intro n
 induction n with
 | zero=>intro i _ j hj;simp [ancs] at hj
 | succ n ih =>
  intro i hi j hj
  by_cases hin:i < n
  ·refine ih i hi j ?_
   simpa [ancs,List.getElem?_append_left (show i < (ancs md ops n).length by rw [ancs_length];exact hin)] using hj
  ·by_cases he:i=n
   ·subst he
    have hj':j ∈ (match ops[i]? with
     | some o=>(o.after.toList.filter (Region.binds md)).flatMap fun(e:Edge)=>e.on::(ancs md ops i).getD e.on []
     | none=>[]):=by
     simpa [ancs,List.getElem?_append_right (show (ancs md ops i).length≤i by rw [ancs_length];exact Nat.le_refl _),ancs_length] using hj
    split at hj'
    ·rename_i o ho
     simp only [List.mem_flatMap,List.mem_filter,List.mem_cons] at hj'
     obtain⟨e,⟨he,hb⟩,hj'⟩:=hj'
     have hl:=hi o ho e (by simpa using he) hb
     rcases hj' with rfl | hj'
     ·exact hl
     ·exact ih e.on (hd e.on hl) j hj'
    ·cases hj'
   ·have:(ancs md ops (n+1)).getD i []=[]:=by
     have hlen:=ancs_length (md:=md) (ops:=ops) (n+1)
     simp [List.getD,List.getElem?_eq_none (show (ancs md ops (n+1)).length≤i by rw [hlen];omega)]
    rw [this] at hj
    cases hj
theorem freeB_spec {A:List (List Nat)}:∀ {n:Nat},freeB hc ops A n=true→∀ i j,j < i→i < n→j ∈ A.getD i []∨pairB hc ops j i=true
 | 0,_,i,j,_,h=>absurd h (Nat.not_lt_zero _)
 | n+1,h,i,j,hji,hin=>by
  simp only [freeB,Bool.and_eq_true,List.all_eq_true,List.mem_range,Bool.or_eq_true,List.contains_iff_mem] at h
  by_cases e:i=n
  ·subst e;exact h.2 j hji
  ·exact freeB_spec h.1 i j hji (by omega)
def gStepI (P:Program) (hc:Option Bool) (ops:Array Oper) (i:Nat) (K:St→Prop) (S:St):Prop :=
 match ops[i]? with
 | some o=>gStep P hc ops o K S
 | none=>K S
def gSeqI (P:Program) (hc:Option Bool) (ops:Array Oper) (K:St→Prop):List Nat→St→Prop
 | [],S=>K S
 | i::r,S=>gStepI P hc ops i (gSeqI P hc ops K r) S
theorem gStepI_mono {i:Nat} {K K':St→Prop} {S:St} (hk:∀ S,K S→K' S) (h:gStepI P hc ops i K S):gStepI P hc ops i K' S:=by
 unfold gStepI at h ⊢
 split at h
 ·exact gStep_imp h fun S' h _ _=>hk S' h
 ·exact hk _ h
theorem gStepI_comm {i j:Nat} (hp:pairB hc ops i j=true) {K:St→Prop} {S:St} (h:gStepI P hc ops i (gStepI P hc ops j K) S):gStepI P hc ops j (gStepI P hc ops i K) S:=by
 unfold pairB at hp
 cases hi:ops[i]? with
 | none =>
  have e:∀ K':St→Prop,gStepI P hc ops i K'=K':=fun K'=>by funext S;simp [gStepI,hi]
  rw [e] at h ⊢;exact h
 | some oi =>
  cases hj:ops[j]? with
  | none =>
   have e:∀ K':St→Prop,gStepI P hc ops j K'=K':=fun K'=>by funext S;simp [gStepI,hj]
   rw [e] at h ⊢;exact h
  | some oj =>
   simp only [hi,hj,Bool.and_eq_true] at hp
   have ei:∀ K':St→Prop,gStepI P hc ops i K'=gStep P hc ops oi K':=fun K'=>by funext S;simp [gStepI,hi]
   have ej:∀ K':St→Prop,gStepI P hc ops j K'=gStep P hc ops oj K':=fun K'=>by funext S;simp [gStepI,hj]
   rw [ei,ej] at h
   rw [ei,ej]
   exact gStep_comm hp.1 hp.2 h
theorem gSeqI_front {K:St→Prop} {i:Nat} {B:List Nat}:∀ {A:List Nat} {S:St},(∀ j ∈ A,pairB hc ops j i=true)→gSeqI P hc ops K (A++i::B) S→gStepI P hc ops i (gSeqI P hc ops K (A++B)) S
 | [],_,_,h=>h
 | j::A,S,hp,h=>by
  refine gStepI_comm (hp j List.mem_cons_self) ?_
  exact gStepI_mono (fun S' h'=>gSeqI_front (fun j' hj'=>hp j' (List.mem_cons_of_mem _ hj')) h') h
theorem appendAny_of {S:St} {d:Option Nat} {t:TypeId} {s x:V} {K:St→Prop} (h:appendK P S d t s x K):appendAny P S d t t s x K:=by
 have no:∀ a n c,s=.lit (.slice (some a) n c)→False:=fun a n c e=>by
  subst e
  unfold appendK at h
  split at h
  ·split at h
   ·have h:=h.2
    unfold onL at h
    split at h
    ·exact h.2.elim
    ·exact h.elim
    ·exact h.elim
   ·exact h.elim
  ·exact h.elim
 unfold appendAny
 split
 ·exact(no _ _ _ rfl).elim
 ·exact(no _ _ _ rfl).elim
 ·exact .inl ⟨rfl,h⟩
 ·unfold appendK at h
  split at h
  ·split at h
   ·exact(show False from h.2).elim
   ·exact h.elim
  ·exact h.elim
 ·exact⟨rfl,h⟩
theorem buildAny_of {S:St} {d:Option Nat} {t:TypeId} {n:Nat} {ps:List (Nat × V)} {K:St→Prop} (h:buildSliceK P S d t n ps K):buildAny P S d t n ps K:=by
 unfold buildAny
 split
 ·exact .inl h
 ·exact h
theorem aOp_of_gHard {hc:Option Bool} {S:St} {o:Oper} {K:St→Prop} (h:gHard P hc S o K):aOp P S o K:=by
 unfold gHard at h
 unfold aOp
 split at h
 ·rename_i ho;simp only [ho];exact h
 ·rename_i ho;simp only [ho];exact h
 ·rename_i ho;simp only [ho];exact h
 ·rename_i c ho
  simp only [ho]
  split at h
  ·rename_i hcl
   split at h
   ·rename_i ha ht
    obtain⟨rfl,h⟩:=h
    simp only [hcl,ha,ht]
    exact appendAny_of h
   ·exact h.elim
  ·rename_i hcl
   split at h
   ·rename_i ha ht
    simp only [hcl,ha,ht]
    exact h
   ·exact h.elim
  ·rename_i hcl
   simp only [hcl]
   split at h
   ·unfold callX at h
    unfold callE
    split at h
    ·rename_i hf
     simp only [hf]
     simp only [h.1]
     exact h.2
    ·rename_i hf
     simp only [hf]
     exact h
    ·exact h.elim
   ·unfold callR at h
    unfold callE
    split at h
    ·rename_i hf
     simp only [hf]
     simp only [h.1]
     exact⟨[],S.boxes,by simp,h.2.mono fun v bs rs ⟨e,hk⟩=>by subst e;exact fun _=>hk⟩
    ·exact h.elim
  ·exact h.elim
 ·rename_i ho;simp only [ho];exact buildAny_of h
 ·exact h.elim
theorem gStepI_wp {C:Ctx} {i:Nat} {S:St} {a:Act} {w:World} {I:Cells} {K:St→Prop} {K':Act→World→Prop} {Q':Exit→Act→World→Prop} (hd:∀ o,ops[i]? = some o→dstOk C.N o=true) (hΓ:Γ C S a w I)
  (hk:∀ S' a' w' I',Γ C S' a' w' I'→K S'→K' a' w') (h:gStepI C.P hc ops i K S):wpOpIn C.fe 0 C.P ops Q' i K' a w:=by
 unfold gStepI at h
 unfold wpOpIn
 split at h
 ·rename_i o ho
  simp only [ho]
  have h0:=hd o ho
  unfold gStep at h
  split at h
  ·rename_i hw
   rw [if_pos (wantA_spec hΓ hw)]
   unfold gCore at h
   split at h
   ·obtain⟨v,hv,hk'⟩:=detG_spec h
    exact Yld.wp hΓ h0 (hv _ _ _ (hΓ.reads _) hΓ.2) fun a' w' I' hΓ'=>hk _ _ _ _ hΓ' hk'
   ·exact Oper.wpIn_mono (fun a' w' ⟨S',I',hΓ',hk'⟩=>hk S' a' w' I' hΓ' hk') (aOp_spec h0 (aOp_of_gHard h) a w I hΓ Q')
  ·rename_i hw
   rw [if_neg (by rw [wantA_spec hΓ hw];simp)]
   exact⟨fun f _=>C.fe_fn f,hk _ _ _ I ⟨hΓ.1.put o.dst (dstOk_spec h0) (by simp only [skipV,V.rep]),hΓ.2.put _ _⟩ h⟩
  ·exact h.elim
 ·rename_i ho;simp only [ho];exact hk _ _ _ _ hΓ h
def leftOf (ops:Array Oper) (listed:Array Bool):List Nat:=(List.range ops.size).filter fun i=>!listed.getD i true
theorem getD_ft {l:Array Bool} {i:Nat} (h:l.getD i false=true):l.getD i true=true:=by
 by_cases hi:i < l.size
 ·simpa [Array.getD,hi] using h
 ·simp [Array.getD,hi]
theorem getD_tf {l:Array Bool} {i:Nat} (hi:i < l.size):l.getD i false=l.getD i true:=by
 simp [Array.getD,hi]
theorem ready_of {listed:Array Bool} {i:Nat} (hi:i ∈ Region.ready md ops listed):i < ops.size∧listed.getD i true=false∧waitsFor md ops listed i:=by
 simp only [Region.ready,List.mem_filter,List.mem_range,Bool.and_eq_true,Bool.not_eq_true'] at hi
 refine⟨hi.1,hi.2.1,fun o ho e he hb=>?_⟩
 have h2:=hi.2.2
 simp only [ho,Option.map_some,Option.getD_some,Array.all_eq_true_iff_forall_mem] at h2
 have:=h2 e he
 simpa [hb] using this
theorem ready_mk {listed:Array Bool} {i:Nat} (hi:i < ops.size) (hu:listed.getD i true=false) (hw:waitsFor md ops listed i):i ∈ Region.ready md ops listed:=by
 simp only [Region.ready,List.mem_filter,List.mem_range,Bool.and_eq_true,Bool.not_eq_true']
 refine⟨hi,hu,?_⟩
 obtain⟨o,ho⟩:∃ o,ops[i]? = some o:=⟨_,Array.getElem?_eq_getElem hi⟩
 simp only [ho,Option.map_some,Option.getD_some,Array.all_eq_true_iff_forall_mem]
 intro e he
 by_cases hb:Region.binds md e=true
 ·simp [hw o ho e he hb]
 ·simp [hb]
theorem lexB_spec (h:lexB md ops=true) {i:Nat} {o:Oper} (ho:ops[i]? = some o) {e:Edge} (he:e ∈ o.after) (hb:Region.binds md e=true):e.on < i:=by
 have hi:i < ops.size:=(Array.getElem?_eq_some_iff.1 ho).1
 simp only [lexB,List.all_eq_true,List.mem_range] at h
 have:=h i hi
 simp only [ho,List.all_eq_true,Bool.or_eq_true,Bool.not_eq_true',decide_eq_true_eq] at this
 rcases this e (by simpa using he) with h' | h'
 ·rw [hb] at h';cases h'
 ·exact h'
theorem wpAny_of_mixed {C:Ctx} {K:St→Prop} {Q:Exit→Act→World→Prop} (hlex:lexB md ops=true) (hfree:freeB hc ops (ancs md ops ops.size) ops.size=true)
  (hd:∀ (i:Nat) (o:Oper),ops[i]? = some o→dstOk C.N o=true) (hQ:∀ S a w I,Γ C S a w I→K S→Q .normal a w) :
  ∀ (f:Nat) (listed:Array Bool) (S:St) (a:Act) (w:World) (I:Cells),listed.size=ops.size→DownC md ops listed→(leftOf ops listed).length=f→Γ C S a w I→gSeqI C.P hc ops K (leftOf ops listed) S→wpAnyIn C.fe 0 C.P md ops Q f listed a w:=by
 intro f
 induction f with
 | zero =>
  intro listed S a w I hsz hdn hf hΓ h
  have hnil:leftOf ops listed=[]:=List.length_eq_zero_iff.1 hf
  rw [hnil] at h
  refine⟨?_,hQ S a w I hΓ h⟩
  cases hr:Region.ready md ops listed with
  | nil=>rfl
  | cons i r =>
   obtain⟨h1,h2,_⟩:=ready_of (md:=md) (ops:=ops) (listed:=listed) (i:=i) (by rw [hr];exact List.mem_cons_self)
   have:i ∈ leftOf ops listed:=by simp only [leftOf,List.mem_filter,List.mem_range,h2];exact⟨h1,rfl⟩
   rw [hnil] at this
   cases this
 | succ f ih =>
  intro listed S a w I hsz hdn hf hΓ h
  refine⟨fun h0=>?_,fun i hi=>?_⟩
  ·
   cases hl:leftOf ops listed with
   | nil=>rw [hl] at hf;simp at hf
   | cons i r =>
    have hm:i ∈ leftOf ops listed:=by rw [hl];exact List.mem_cons_self
    have hm':=hm
    simp only [leftOf,List.mem_filter,List.mem_range,Bool.not_eq_true'] at hm
    have hlt:∀ j,j < i→listed.getD j true=true:=fun j hj=>by
     by_cases hju:listed.getD j true=true
     ·exact hju
     ·have hjm:j ∈ leftOf ops listed:=by simp only [leftOf,List.mem_filter,List.mem_range];exact⟨by omega,by simpa using hju⟩
      have hs:(leftOf ops listed).Pairwise (· < ·):=List.Pairwise.filter _ List.pairwise_lt_range
      rw [hl] at hjm hs
      rcases List.mem_cons.1 hjm with rfl | hjm
      ·omega
      ·have:=(List.pairwise_cons.1 hs).1 j hjm
       omega
    have:i ∈ Region.ready md ops listed:=ready_mk hm.1 hm.2 fun o ho e he hb=>by
     have h1:=lexB_spec hlex ho he hb
     rw [getD_tf (by omega)]
     exact hlt _ h1
    rw [h0] at this
    cases this
  ·obtain⟨h1,h2,h3⟩:=ready_of hi
   have hm:i ∈ leftOf ops listed:=by simp only [leftOf,List.mem_filter,List.mem_range,h2];exact⟨h1,rfl⟩
   obtain⟨A,B,hAB⟩:=List.append_of_mem hm
   have hs:(leftOf ops listed).Pairwise (· < ·):=List.Pairwise.filter _ List.pairwise_lt_range
   have hfront:=gSeqI_front (P:=C.P) (hc:=hc) (ops:=ops) (K:=K) (i:=i) (A:=A) (B:=B) (S:=S) (fun j hj=>by
    have hji:j < i:=by
     rw [hAB] at hs
     exact(List.pairwise_append.1 hs).2.2 j hj i List.mem_cons_self
    have hjm:j ∈ leftOf ops listed:=by rw [hAB];exact List.mem_append_left _ hj
    simp only [leftOf,List.mem_filter,List.mem_range,Bool.not_eq_true'] at hjm
    rcases freeB_spec hfree i j hji h1 with h | h
    ·have:=ancs_spec hdn ops.size i h3 j h
     rw [getD_ft this] at hjm
     cases hjm.2
    ·exact h) (by rw [← hAB];exact h)
   refine gStepI_wp (hd i) hΓ (fun S' a' w' I' hΓ' hk=>?_) hfront
   have hset:∀ k,(listed.setIfInBounds i true).getD k true=(if k=i then true else listed.getD k true):=fun k=>by
    by_cases hk:k=i
    ·subst hk
     have:k < listed.size:=by omega
     simp [Array.getD,this]
    ·by_cases hks:k < listed.size
     ·simp [Array.getD,hks,hk,Array.getElem_setIfInBounds_ne _ (Ne.symm hk)]
     ·simp [Array.getD,hks,hk]
   have hleft:leftOf ops (listed.setIfInBounds i true)=A++B:=by
    have e:leftOf ops (listed.setIfInBounds i true)=(leftOf ops listed).filter fun k=>decide (k ≠ i):=by
     unfold leftOf
     rw [List.filter_filter]
     refine List.filter_congr fun k _=>?_
     rw [hset]
     by_cases hk:k=i <;> simp [hk]
    rw [e,hAB]
    rw [hAB] at hs
    have hn:(A++i::B).Nodup:=hs.imp fun h=>Nat.ne_of_lt h
    have hnA:i ∉ A:=fun hA=>(List.nodup_append.1 hn).2.2 i hA i List.mem_cons_self rfl
    have hnB:i ∉ B:=(List.nodup_cons.1 (List.nodup_append.1 hn).2.1).1
    rw [List.filter_append,List.filter_cons]
    simp only [ne_eq,not_true_eq_false,decide_false,Bool.false_eq_true,if_false]
    rw [List.filter_eq_self.2 fun k hk=>by simpa using fun e=>hnA (by rw [← e];exact hk),List.filter_eq_self.2 fun k hk=>by simpa using fun e=>hnB (by rw [← e];exact hk)]
   refine ih (listed.setIfInBounds i true) S' a' w' I' (by simpa using hsz) ?_ ?_ hΓ' (by rw [hleft];exact hk)
   ·intro k hk o ho e he hb
    have hold:∀ m,listed.getD m false=true→(listed.setIfInBounds i true).getD m false=true:=fun m hm=>by
     have hms:m < listed.size:=by
      by_cases h:m < listed.size
      ·exact h
      ·simp [Array.getD,h] at hm
     rw [getD_tf (by simpa using hms),hset]
     by_cases hmi:m=i
     ·simp [hmi]
     ·rw [if_neg hmi,← getD_tf hms];exact hm
    refine hold _ ?_
    by_cases hki:k=i
    ·subst hki;exact h3 o ho e he hb
    ·have hks:k < listed.size:=by
      by_cases h:k < listed.size
      ·exact h
      ·simp [Array.getD,h] at hk
     refine hdn k ?_ o ho e he hb
     rw [getD_tf (by simpa using hks),hset,if_neg hki] at hk
     rw [getD_tf hks];exact hk
   ·rw [hleft]
    rw [hAB] at hf
    simp only [List.length_append,List.length_cons] at hf ⊢
    omega
def gSeq (P:Program) (hc:Option Bool) (ops:Array Oper) (K:St→Prop):List Oper→St→Prop
 | [],S=>K S
 | o::r,S=>gStep P hc ops o (gSeq P hc ops K r) S
theorem gSeqI_of {K:St→Prop}:∀ {l pre:List Oper} {S:St},ops=(pre++l).toArray→gSeq P hc ops K l S→gSeqI P hc ops K ((List.range l.length).map (pre.length+·)) S
 | [],_,_,_,h=>h
 | o::l,pre,S,he,h=>by
  rw [List.length_cons,List.range_succ_eq_map,List.map_cons,List.map_map]
  have hi:ops[pre.length+0]? = some o:=by rw [he];simp
  simp only [gSeqI,gStepI,hi]
  refine gStep_imp h fun S' h' _ _=>?_
  have:=gSeqI_of (pre:=pre++[o]) (l:=l) (S:=S') (by simpa using he) h'
  have e:(fun i=>(pre++[o]).length+i)=((fun i=>pre.length+i) ∘ Nat.succ):=by
   funext i;simp;omega
  rw [← e];exact this
end
end Go.VL
