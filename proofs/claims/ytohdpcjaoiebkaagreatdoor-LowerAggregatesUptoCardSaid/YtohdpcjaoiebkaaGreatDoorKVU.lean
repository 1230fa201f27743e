/- Merged out of my text VU. -/
import Derived.Test.YtohdpcjaoiebkaaGreatDoorKVW
set_option linter.unusedSimpArgs false
set_option linter.unusedVariables false
namespace Go.VL
open Go.RowKit
def QZ (md:Region.Mode) (ops:Array Oper):Nat→List (List Nat)
 | 0=>[]
 | n+1=>QZ md ops n++[match ops[n]? with
  | some o=>(o.after.toList.filter (Region.binds md)).flatMap fun(e:Edge)=>e.on::(QZ md ops n).getD e.on []
  | none=>[]]
def qa2 (hc:Option Bool) (ops:Array Oper) (i j:Nat):Bool :=
 match ops[i]?, ops[j]? with
 | some oi,some oj=>oi.apart ops oj && qz7 hc oi oj
 | _,_=>true
def qcd (hc:Option Bool) (ops:Array Oper) (A:List (List Nat)):Nat→Bool
 | 0=>true
 | n+1=>qcd hc ops A n && (List.range n).all fun j=>(A.getD n []).contains j || qa2 hc ops j n
def qbp (md:Region.Mode) (ops:Array Oper):Bool :=
 (List.range ops.size).all fun i=>match ops[i]? with | some o=>o.after.toList.all fun e=>!Region.binds md e || decide (e.on < i) | none=>true
def WI (hc:Option Bool) (ops:Array Oper):Bool :=
 qbp .any ops && qcd hc ops (QZ .any ops ops.size) ops.size
section
variable {P:Program} {hc:Option Bool} {ops:Array Oper} {md:Region.Mode}
def Q7 (md:Region.Mode) (ops:Array Oper) (listed:Array Bool) (i:Nat):Prop:=∀ o,ops[i]? = some o→∀ e ∈ o.after,Region.binds md e=true→listed.getD e.on false=true
def qjf (md:Region.Mode) (ops:Array Oper) (listed:Array Bool):Prop:=∀ i,listed.getD i false=true→Q7 md ops listed i
theorem jb:∀ n,(QZ md ops n).length=n
 | 0=>rfl
 | n+1=>by simp [QZ,jb n]
theorem qm7 {listed:Array Bool} (hd:qjf md ops listed):∀ n i,Q7 md ops listed i→∀ j ∈ (QZ md ops n).getD i [],listed.getD j false=true:=by
 intro n
 induction n with
 | zero=>intro i _ j hj;simp [QZ] at hj
 | succ n ih =>
  intro i hi j hj
  by_cases hin:i < n
  ·refine ih i hi j ?_
   simpa [QZ,List.getElem?_append_left (show i < (QZ md ops n).length by rw [jb];exact hin)] using hj
  ·by_cases he:i=n
   ·subst he
    have hj':j ∈ (match ops[i]? with
     | some o=>(o.after.toList.filter (Region.binds md)).flatMap fun(e:Edge)=>e.on::(QZ md ops i).getD e.on []
     | none=>[]):=by
     simpa [QZ,List.getElem?_append_right (show (QZ md ops i).length≤i by rw [jb];exact Nat.le_refl _),jb] using hj
    split at hj'
    ·rename_i o ho
     simp only [List.mem_flatMap,List.mem_filter,List.mem_cons] at hj'
     obtain⟨e,⟨he,hb⟩,hj'⟩:=hj'
     have hl:=hi o ho e (by simpa using he) hb
     rcases hj' with rfl | hj'
     ·exact hl
     ·exact ih e.on (hd e.on hl) j hj'
    ·cases hj'
   ·have:(QZ md ops (n+1)).getD i []=[]:=by
     have hlen:=jb (md:=md) (ops:=ops) (n+1)
     simp [List.getD,List.getElem?_eq_none (show (QZ md ops (n+1)).length≤i by rw [hlen];omega)]
    rw [this] at hj
    cases hj
theorem WX {A:List (List Nat)}:∀ {n:Nat},qcd hc ops A n=true→∀ i j,j < i→i < n→j ∈ A.getD i []∨qa2 hc ops j i=true
 | 0,_,i,j,_,h=>absurd h (Nat.not_lt_zero _)
 | n+1,h,i,j,hji,hin=>by
  simp only [qcd,Bool.and_eq_true,List.all_eq_true,List.mem_range,Bool.or_eq_true,List.contains_iff_mem] at h
  by_cases e:i=n
  ·subst e;exact h.2 j hji
  ·exact WX h.1 i j hji (by omega)
def xo (P:Program) (hc:Option Bool) (ops:Array Oper) (i:Nat) (K:St→Prop) (S:St):Prop :=
 match ops[i]? with
 | some o=>zf P hc ops o K S
 | none=>K S
def Ve (P:Program) (hc:Option Bool) (ops:Array Oper) (K:St→Prop):List Nat→St→Prop
 | [],S=>K S
 | i::r,S=>xo P hc ops i (Ve P hc ops K r) S
theorem qb8 {i:Nat} {K K':St→Prop} {S:St} (hk:∀ S,K S→K' S) (h:xo P hc ops i K S):xo P hc ops i K' S:=by
 unfold xo at h ⊢
 split at h
 ·exact jG h fun S' h _ _=>hk S' h
 ·exact hk _ h
theorem qb9 {i j:Nat} (hp:qa2 hc ops i j=true) {K:St→Prop} {S:St} (h:xo P hc ops i (xo P hc ops j K) S):xo P hc ops j (xo P hc ops i K) S:=by
 unfold qa2 at hp
 cases hi:ops[i]? with
 | none =>
  have e:∀ K':St→Prop,xo P hc ops i K'=K':=fun K'=>by funext S;simp [xo,hi]
  rw [e] at h ⊢;exact h
 | some oi =>
  cases hj:ops[j]? with
  | none =>
   have e:∀ K':St→Prop,xo P hc ops j K'=K':=fun K'=>by funext S;simp [xo,hj]
   rw [e] at h ⊢;exact h
  | some oj =>
   simp only [hi,hj,Bool.and_eq_true] at hp
   have ei:∀ K':St→Prop,xo P hc ops i K'=zf P hc ops oi K':=fun K'=>by funext S;simp [xo,hi]
   have ej:∀ K':St→Prop,xo P hc ops j K'=zf P hc ops oj K':=fun K'=>by funext S;simp [xo,hj]
   rw [ei,ej] at h
   rw [ei,ej]
   exact qge hp.1 hp.2 h
theorem X9 {K:St→Prop} {i:Nat} {B:List Nat}:∀ {A:List Nat} {S:St},(∀ j ∈ A,qa2 hc ops j i=true)→Ve P hc ops K (A++i::B) S→xo P hc ops i (Ve P hc ops K (A++B)) S
 | [],_,_,h=>h
 | j::A,S,hp,h=>by
  refine qb9 (hp j List.mem_cons_self) ?_
  exact qb8 (fun S' h'=>X9 (fun j' hj'=>hp j' (List.mem_cons_of_mem _ hj')) h') h
theorem Uq {S:St} {d:Option Nat} {t:TypeId} {s x:V} {K:St→Prop} (h:zh P S d t s x K):zi P S d t t s x K:=by
 have no:∀ a n c,s=.lit (.slice (some a) n c)→False:=fun a n c e=>by
  subst e
  unfold zh at h
  split at h
  ·split at h
   ·have h:=h.2
    unfold onL at h
    split at h
    ·exact h.2.elim
    ·exact h.elim
    ·exact h.elim
   ·exact h.elim
  ·exact h.elim
 unfold zi
 split
 ·exact(no _ _ _ rfl).elim
 ·exact(no _ _ _ rfl).elim
 ·exact .inl ⟨rfl,h⟩
 ·unfold zh at h
  split at h
  ·split at h
   ·exact(show False from h.2).elim
   ·exact h.elim
  ·exact h.elim
 ·exact⟨rfl,h⟩
theorem qda {S:St} {d:Option Nat} {t:TypeId} {n:Nat} {ps:List (Nat × V)} {K:St→Prop} (h:qI P S d t n ps K):ka P S d t n ps K:=by
 unfold ka
 split
 ·exact .inl h
 ·exact h
theorem Uv {hc:Option Bool} {S:St} {o:Oper} {K:St→Prop} (h:xC P hc S o K):aOp P S o K:=by
 unfold xC at h
 unfold aOp
 split at h
 ·rename_i ho;simp only [ho];exact h
 ·rename_i ho;simp only [ho];exact h
 ·rename_i ho;simp only [ho];exact h
 ·rename_i c ho
  simp only [ho]
  split at h
  ·rename_i hcl
   split at h
   ·rename_i ha ht
    obtain⟨rfl,h⟩:=h
    simp only [hcl,ha,ht]
    exact Uq h
   ·exact h.elim
  ·rename_i hcl
   split at h
   ·rename_i ha ht
    simp only [hcl,ha,ht]
    exact h
   ·exact h.elim
  ·rename_i hcl
   simp only [hcl]
   split at h
   ·unfold vZ at h
    unfold ja
    split at h
    ·rename_i hf
     simp only [hf]
     simp only [h.1]
     exact h.2
    ·rename_i hf
     simp only [hf]
     exact h
    ·exact h.elim
   ·unfold uM at h
    unfold ja
    split at h
    ·rename_i hf
     simp only [hf]
     simp only [h.1]
     exact⟨[],S.boxes,by simp,h.2.mono fun v bs rs ⟨e,hk⟩=>by subst e;exact fun _=>hk⟩
    ·exact h.elim
  ·exact h.elim
 ·rename_i ho;simp only [ho];exact qda h
 ·exact h.elim
theorem Vd {C:Ctx} {i:Nat} {S:St} {a:Act} {w:World} {I:Cells} {K:St→Prop} {K':Act→World→Prop} {Q':Exit→Act→World→Prop} (hd:∀ o,ops[i]? = some o→qX C.N o=true) (hΓ:Γ C S a w I)
  (hk:∀ S' a' w' I',Γ C S' a' w' I'→K S'→K' a' w') (h:xo C.P hc ops i K S):wpOpIn C.fe 0 C.P ops Q' i K' a w:=by
 unfold xo at h
 unfold wpOpIn
 split at h
 ·rename_i o ho
  simp only [ho]
  have h0:=hd o ho
  unfold zf at h
  split at h
  ·rename_i hw
   rw [if_pos (xS hΓ hw)]
   unfold xM at h
   split at h
   ·obtain⟨v,hv,hk'⟩:=Xq h
    exact jn.wp hΓ h0 (hv _ _ _ (hΓ.reads _) hΓ.2) fun a' w' I' hΓ'=>hk _ _ _ _ hΓ' hk'
   ·exact Oper.wpIn_mono (fun a' w' ⟨S',I',hΓ',hk'⟩=>hk S' a' w' I' hΓ' hk') (Jx h0 (Uv h) a w I hΓ Q')
  ·rename_i hw
   rw [if_neg (by rw [xS hΓ hw];simp)]
   exact⟨fun f _=>C.fe_fn f,hk _ _ _ I ⟨hΓ.1.put o.dst (qu h0) (by simp only [wA,V.rep]),hΓ.2.put _ _⟩ h⟩
  ·exact h.elim
 ·rename_i ho;simp only [ho];exact hk _ _ _ _ hΓ h
def leftOf (ops:Array Oper) (listed:Array Bool):List Nat:=(List.range ops.size).filter fun i=>!listed.getD i true
theorem qvq {l:Array Bool} {i:Nat} (h:l.getD i false=true):l.getD i true=true:=by
 by_cases hi:i < l.size
 ·simpa [Array.getD,hi] using h
 ·simp [Array.getD,hi]
theorem wR {l:Array Bool} {i:Nat} (hi:i < l.size):l.getD i false=l.getD i true:=by
 simp [Array.getD,hi]
theorem Zz {listed:Array Bool} {i:Nat} (hi:i ∈ Region.ready md ops listed):i < ops.size∧listed.getD i true=false∧Q7 md ops listed i:=by
 simp only [Region.ready,List.mem_filter,List.mem_range,Bool.and_eq_true,Bool.not_eq_true'] at hi
 refine⟨hi.1,hi.2.1,fun o ho e he hb=>?_⟩
 have h2:=hi.2.2
 simp only [ho,Option.map_some,Option.getD_some,Array.all_eq_true_iff_forall_mem] at h2
 have:=h2 e he
 simpa [hb] using this
theorem qau {listed:Array Bool} {i:Nat} (hi:i < ops.size) (hu:listed.getD i true=false) (hw:Q7 md ops listed i):i ∈ Region.ready md ops listed:=by
 simp only [Region.ready,List.mem_filter,List.mem_range,Bool.and_eq_true,Bool.not_eq_true']
 refine⟨hi,hu,?_⟩
 obtain⟨o,ho⟩:∃ o,ops[i]? = some o:=⟨_,Array.getElem?_eq_getElem hi⟩
 simp only [ho,Option.map_some,Option.getD_some,Array.all_eq_true_iff_forall_mem]
 intro e he
 by_cases hb:Region.binds md e=true
 ·simp [hw o ho e he hb]
 ·simp [hb]
theorem Y3 (h:qbp md ops=true) {i:Nat} {o:Oper} (ho:ops[i]? = some o) {e:Edge} (he:e ∈ o.after) (hb:Region.binds md e=true):e.on < i:=by
 have hi:i < ops.size:=(Array.getElem?_eq_some_iff.1 ho).1
 simp only [qbp,List.all_eq_true,List.mem_range] at h
 have:=h i hi
 simp only [ho,List.all_eq_true,Bool.or_eq_true,Bool.not_eq_true',decide_eq_true_eq] at this
 rcases this e (by simpa using he) with h' | h'
 ·rw [hb] at h';cases h'
 ·exact h'
theorem KK {C:Ctx} {K:St→Prop} {Q:Exit→Act→World→Prop} (hlex:qbp md ops=true) (hfree:qcd hc ops (QZ md ops ops.size) ops.size=true)
  (hd:∀ (i:Nat) (o:Oper),ops[i]? = some o→qX C.N o=true) (hQ:∀ S a w I,Γ C S a w I→K S→Q .normal a w) :
  ∀ (f:Nat) (listed:Array Bool) (S:St) (a:Act) (w:World) (I:Cells),listed.size=ops.size→qjf md ops listed→(leftOf ops listed).length=f→Γ C S a w I→Ve C.P hc ops K (leftOf ops listed) S→wpAnyIn C.fe 0 C.P md ops Q f listed a w:=by
 intro f
 induction f with
 | zero =>
  intro listed S a w I hsz hdn hf hΓ h
  have hnil:leftOf ops listed=[]:=List.length_eq_zero_iff.1 hf
  rw [hnil] at h
  refine⟨?_,hQ S a w I hΓ h⟩
  cases hr:Region.ready md ops listed with
  | nil=>rfl
  | cons i r =>
   obtain⟨h1,h2,_⟩:=Zz (md:=md) (ops:=ops) (listed:=listed) (i:=i) (by rw [hr];exact List.mem_cons_self)
   have:i ∈ leftOf ops listed:=by simp only [leftOf,List.mem_filter,List.mem_range,h2];exact⟨h1,rfl⟩
   rw [hnil] at this
   cases this
 | succ f ih =>
  intro listed S a w I hsz hdn hf hΓ h
  refine⟨fun h0=>?_,fun i hi=>?_⟩
  ·
   cases hl:leftOf ops listed with
   | nil=>rw [hl] at hf;simp at hf
   | cons i r =>
    have hm:i ∈ leftOf ops listed:=by rw [hl];exact List.mem_cons_self
    have hm':=hm
    simp only [leftOf,List.mem_filter,List.mem_range,Bool.not_eq_true'] at hm
    have hlt:∀ j,j < i→listed.getD j true=true:=fun j hj=>by
     by_cases hju:listed.getD j true=true
     ·exact hju
     ·have hjm:j ∈ leftOf ops listed:=by simp only [leftOf,List.mem_filter,List.mem_range];exact⟨by omega,by simpa using hju⟩
      have hs:(leftOf ops listed).Pairwise (· < ·):=List.Pairwise.filter _ List.pairwise_lt_range
      rw [hl] at hjm hs
      rcases List.mem_cons.1 hjm with rfl | hjm
      ·omega
      ·have:=(List.pairwise_cons.1 hs).1 j hjm
       omega
    have:i ∈ Region.ready md ops listed:=qau hm.1 hm.2 fun o ho e he hb=>by
     have h1:=Y3 hlex ho he hb
     rw [wR (by omega)]
     exact hlt _ h1
    rw [h0] at this
    cases this
  ·obtain⟨h1,h2,h3⟩:=Zz hi
   have hm:i ∈ leftOf ops listed:=by simp only [leftOf,List.mem_filter,List.mem_range,h2];exact⟨h1,rfl⟩
   obtain⟨A,B,hAB⟩:=List.append_of_mem hm
   have hs:(leftOf ops listed).Pairwise (· < ·):=List.Pairwise.filter _ List.pairwise_lt_range
   have hfront:=X9 (P:=C.P) (hc:=hc) (ops:=ops) (K:=K) (i:=i) (A:=A) (B:=B) (S:=S) (fun j hj=>by
    have hji:j < i:=by
     rw [hAB] at hs
     exact(List.pairwise_append.1 hs).2.2 j hj i List.mem_cons_self
    have hjm:j ∈ leftOf ops listed:=by rw [hAB];exact List.mem_append_left _ hj
    simp only [leftOf,List.mem_filter,List.mem_range,Bool.not_eq_true'] at hjm
    rcases WX hfree i j hji h1 with h | h
    ·have:=qm7 hdn ops.size i h3 j h
     rw [qvq this] at hjm
     cases hjm.2
    ·exact h) (by rw [← hAB];exact h)
   refine Vd (hd i) hΓ (fun S' a' w' I' hΓ' hk=>?_) hfront
   have hset:∀ k,(listed.setIfInBounds i true).getD k true=(if k=i then true else listed.getD k true):=fun k=>by
    by_cases hk:k=i
    ·subst hk
     have:k < listed.size:=by omega
     simp [Array.getD,this]
    ·by_cases hks:k < listed.size
     ·simp [Array.getD,hks,hk,Array.getElem_setIfInBounds_ne _ (Ne.symm hk)]
     ·simp [Array.getD,hks,hk]
   have hleft:leftOf ops (listed.setIfInBounds i true)=A++B:=by
    have e:leftOf ops (listed.setIfInBounds i true)=(leftOf ops listed).filter fun k=>decide (k ≠ i):=by
     unfold leftOf
     rw [List.filter_filter]
     refine List.filter_congr fun k _=>?_
     rw [hset]
     by_cases hk:k=i <;> simp [hk]
    rw [e,hAB]
    rw [hAB] at hs
    have hn:(A++i::B).Nodup:=hs.imp fun h=>Nat.ne_of_lt h
    have hnA:i ∉ A:=fun hA=>(List.nodup_append.1 hn).2.2 i hA i List.mem_cons_self rfl
    have hnB:i ∉ B:=(List.nodup_cons.1 (List.nodup_append.1 hn).2.1).1
    rw [List.filter_append,List.filter_cons]
    simp only [ne_eq,not_true_eq_false,decide_false,Bool.false_eq_true,if_false]
    rw [List.filter_eq_self.2 fun k hk=>by simpa using fun e=>hnA (by rw [← e];exact hk),List.filter_eq_self.2 fun k hk=>by simpa using fun e=>hnB (by rw [← e];exact hk)]
   refine ih (listed.setIfInBounds i true) S' a' w' I' (by simpa using hsz) ?_ ?_ hΓ' (by rw [hleft];exact hk)
   ·intro k hk o ho e he hb
    have hold:∀ m,listed.getD m false=true→(listed.setIfInBounds i true).getD m false=true:=fun m hm=>by
     have hms:m < listed.size:=by
      by_cases h:m < listed.size
      ·exact h
      ·simp [Array.getD,h] at hm
     rw [wR (by simpa using hms),hset]
     by_cases hmi:m=i
     ·simp [hmi]
     ·rw [if_neg hmi,← wR hms];exact hm
    refine hold _ ?_
    by_cases hki:k=i
    ·subst hki;exact h3 o ho e he hb
    ·have hks:k < listed.size:=by
      by_cases h:k < listed.size
      ·exact h
      ·simp [Array.getD,h] at hk
     refine hdn k ?_ o ho e he hb
     rw [wR (by simpa using hks),hset,if_neg hki] at hk
     rw [wR hks];exact hk
   ·rw [hleft]
    rw [hAB] at hf
    simp only [List.length_append,List.length_cons] at hf ⊢
    omega
def yW (P:Program) (hc:Option Bool) (ops:Array Oper) (K:St→Prop):List Oper→St→Prop
 | [],S=>K S
 | o::r,S=>zf P hc ops o (yW P hc ops K r) S
theorem qca {K:St→Prop}:∀ {l pre:List Oper} {S:St},ops=(pre++l).toArray→yW P hc ops K l S→Ve P hc ops K ((List.range l.length).map (pre.length+·)) S
 | [],_,_,_,h=>h
 | o::l,pre,S,he,h=>by
  rw [List.length_cons,List.range_succ_eq_map,List.map_cons,List.map_map]
  have hi:ops[pre.length+0]? = some o:=by rw [he];simp
  simp only [Ve,xo,hi]
  refine jG h fun S' h' _ _=>?_
  have:=qca (pre:=pre++[o]) (l:=l) (S:=S') (by simpa using he) h'
  have e:(fun i=>(pre++[o]).length+i)=((fun i=>pre.length+i) ∘ Nat.succ):=by
   funext i;simp;omega
  rw [← e];exact this
end
end Go.VL
