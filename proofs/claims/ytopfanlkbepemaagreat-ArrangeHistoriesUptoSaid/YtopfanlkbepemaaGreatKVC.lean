/- Merged out of my text VC. -/
import Derived.Test.YtopfanlkbepemaaGreatKVB
namespace Go.VL
open Go.RowKit
theorem ΓW.boxes {C S w I} (h:ΓW C S w I) (bs:List (Nat × B)) (h1:∀ p ∈ bs,BoxAt w I p.1 p.2) (h2:(bs.map (·.1)).Nodup) (h3:∀ p ∈ bs,p.1 ∈ S.boxes.map (·.1)):ΓW C (S.setBoxes bs) w I:=by
 have hn:=List.nodup_append.1 h.heap.nodup
 have hsub:∀ b ∈ bs.map (·.1),b ∈ S.boxes.map (·.1):=fun b hb=>by
  obtain⟨p,hp,rfl⟩:=List.mem_map.1 hb
  exact h3 p hp
 refine⟨⟨h1,h.heap.rw,?_,h.heap.inn,h.heap.glob⟩,fun b hb=>?_,h.keeps,h.lo⟩
 ·exact List.nodup_append.2 ⟨h2,hn.2.1,fun x hx y hy=>hn.2.2 x (hsub x hx) y hy⟩
 ·rcases List.mem_append.1 hb with hb | hb
  ·exact h.mine b (List.mem_append.2 (.inl (hsub b hb)))
  ·exact h.mine b (List.mem_append.2 (.inr hb))
theorem Γ.boxes {C S a w I} (h:Γ C S a w I) (bs:List (Nat × B)) (h1:∀ p ∈ bs,BoxAt w I p.1 p.2) (h2:(bs.map (·.1)).Nodup) (h3:∀ p ∈ bs,p.1 ∈ S.boxes.map (·.1)):Γ C (S.setBoxes bs) a w I:=⟨h.1,h.2.boxes bs h1 h2 h3⟩
def remB (bs:List (Nat × B)) (b:Nat):List (Nat × B):=bs.filter fun p=>!decide (p.1=b)
theorem remB_mem {bs:List (Nat × B)} {b:Nat} {p:Nat × B} (h:p ∈ remB bs b):p ∈ bs∧p.1 ≠ b:=by simpa [remB] using h
theorem remB_keys {bs:List (Nat × B)} {b:Nat} (h:(bs.map (·.1)).Nodup):((remB bs b).map (·.1)).Nodup:=h.sublist (List.filter_sublist.map _)
theorem setB_keep:∀ {bs:List (Nat × B)} {b:Nat} {ds:List V} {p:Nat × B},p ∈ bs→p.1 ≠ b→p ∈ setB bs b ds
 | (b',cs)::r,b,ds,p,hp,hne=>by
  unfold setB
  split
  ·rename_i e;subst e
   rcases List.mem_cons.1 hp with rfl | hp
   ·exact absurd rfl hne
   ·exact List.mem_cons_of_mem _ hp
  ·rcases List.mem_cons.1 hp with rfl | hp
   ·exact List.mem_cons_self
   ·exact List.mem_cons_of_mem _ (setB_keep hp hne)
 | [],_,_,_,hp,_=>by simp at hp
theorem setB_has:∀ {bs:List (Nat × B)} {b:Nat} {cs ds:List V},getB bs b=some cs→(b,.c ds) ∈ setB bs b ds
 | (b',cs')::r,b,cs,ds,h=>by
  unfold setB
  split
  ·rename_i e;subst e;exact List.mem_cons_self
  ·rename_i e
   refine List.mem_cons_of_mem _ (setB_has (cs:=cs) ?_)
   cases cs' <;> simpa [getB,e] using h
 | [],_,_,_,h=>by simp [getB] at h
theorem Step.weaken {C S} {o:Oper} {K K':St→Prop} (h:Step C S o K') (hw:∀ S' a w I,Γ C S' a w I→K' S'→∃ S'',Γ C S'' a w I∧K S''):Step C S o K :=
 fun a w I hΓ Q=>Oper.wpIn_mono (fun a' w' ⟨S',I',h1,h2⟩=>by
  obtain⟨S'',h3,h4⟩:=hw S' a' w' I' h1 h2
  exact⟨S'',I',h3,h4⟩) (h a w I hΓ Q)
def appAK (P:Program) (S:St) (d:Option Nat) (t tx:TypeId) (s x:V) (K:St→Prop):Prop :=
 match P.underlying t with
 | some (.slice e)=>match tsz P e,tby P e,tzr P e with
  | some k,some by_,some z=>0 < by_∧z.length=k∧okC (z.map .lit)=true∧srcK P S tx k x fun m fs =>
   match s with
   | .lit (.slice none 0 0)=>0 < m∧m * by_≤140737488355328∧∀ b c,b ∉ blks S.boxes S.rows→m≤c→K ((S.addBox b (fs++anys ((c - m) * k))).put d (.lit (.slice (some ⟨b,0,none⟩) m c)))
   | .lit (.slice (some ⟨b,0,none⟩) n c)=>match getB S.boxes b with
    | some cs=>cs.length=c * k∧n≤c∧(n+m) * by_≤140737488355328∧∀ b' c',b' ∉ blks (remB S.boxes b) S.rows→n+m≤c' →
      K ((S.setBoxes ((b',.c (cs.take (n * k)++fs++anys ((c' - (n+m)) * k)))::remB S.boxes b)).put d (.lit (.slice (some ⟨b',0,none⟩) (n+m) c')))
    | none=>False
   | _=>False
  | _,_,_=>False
 | _=>False
theorem srcK_imp {P:Program} {S:St} {tx:TypeId} {k:Nat} {x:V} {K K':Nat→List V→Prop} (h:srcK P S tx k x K) (hk:∀ n fs,K n fs→K' n fs):srcK P S tx k x K':=by
 unfold srcK at h ⊢
 split at h
 ·exact⟨h.1,hk _ _ h.2⟩
 ·exact hk _ _ h
 ·split at h
  ·exact⟨h.1,hk _ _ h.2⟩
  ·exact h.elim
 ·exact⟨h.1,hk _ _ h.2⟩
 ·exact h.elim
theorem box_tail {w:World} {I:Cells} {b:Nat} {A fs D:List V} (h:BoxAt w I b (.c (A++fs++D))) (r:Nat) (hr:D.length=r):BoxAt w I b (.c (A++fs++anys r)):=by
 obtain⟨arr,e,h1,h2,h3,h4⟩:=h
 refine⟨arr,e,h1,h2,?_,h4⟩
 have hl:=reps_length h3
 have e1:=reps_take (A++fs).length h3
 have e2:=reps_drop (A++fs).length h3
 rw [List.take_left'  rfl] at e1
 rw [List.drop_left' rfl] at e2
 have:=reps_append e1 (reps_anys (w:=w) (I:=I) (n:=r) (xs:=arr.toList.drop (A++fs).length) (by rw [reps_length e2,hr]))
 rwa [List.take_append_drop] at this
theorem step_appA {C S} {o:Oper} {c:Call} {s x:Operand} {t tx:TypeId} {K:St→Prop} (ho:o.op=.call c) (hc:c.callee=.builtin .append) (ha:c.args.toList=[s,x]) (ht:c.argTypes.toList=[t,tx]) (hd:dstOk C.N o=true)
  (h:appAK C.P S o.dst t tx (VL.ev S.σ s) (VL.ev S.σ x) K):Step C S o K:=by
 have key:Step C S o fun S'=>K S'∨(∃ b cs n m c k fs,getB S.boxes b=some cs∧cs.length=c * k∧n+m≤c∧S'=(S.setBoxes (setB S.boxes b (cs.take (n * k)++fs++cs.drop (n * k+m * k)))).put o.dst (.lit (.slice (some ⟨b,0,none⟩) (n+m) c)) ∧
   (b ∉ blks (remB S.boxes b) S.rows→K ((S.setBoxes ((b,.c (cs.take (n * k)++fs++anys ((c - (n+m)) * k)))::remB S.boxes b)).put o.dst (.lit (.slice (some ⟨b,0,none⟩) (n+m) c))))) ∨
   ∃ b ds b' v,b' ∉ blks S.boxes S.rows∧S'=(S.addBox b' ds).put o.dst v∧K ((S.setBoxes ((b',.c ds)::remB S.boxes b)).put o.dst v):=by
  refine step_appM ho hc ha ht hd ?_
  unfold appAK at h
  unfold appMK
  split at h
  ·rename_i e hu
   split at h
   ·rename_i k by_ z hk hby hz
    simp only [hu,hk,hby,hz]
    obtain⟨g1,g2,g3,h⟩:=h
    refine⟨g1,g2,g3,srcK_imp h fun m fs h=>?_⟩
    split at h <;> rename_i hs <;> simp only [appMD,hs]
    ·obtain⟨hm,hb,hK⟩:=h
     unfold onIf
     rw [if_neg (by omega)]
     exact⟨hb,fun b c h1 h2=>.inl (hK b c h1 h2)⟩
    ·rename_i b n c
     split at h
     ·rename_i cs hcs
      obtain⟨hl,hnc,hb,hK⟩:=h
      simp only [hcs]
      refine⟨by omega,hnc,?_⟩
      unfold onIf
      split
      ·rename_i hroom
       refine .inr (.inl ⟨b,cs,n,m,c,k,fs,hcs,hl,hroom,by simp only [Nat.zero_add],fun hb'=>hK b c hb' hroom⟩)
      ·rename_i hroom
       refine⟨hb,fun b' c' h1 h2=>.inr (.inr ⟨b,_,b',_,h1,by simp only [List.drop_zero];rfl,?_⟩)⟩
       refine hK b' c' (fun hm=>h1 ?_) h2
       simp only [blks,List.mem_append,List.mem_map] at hm ⊢
       rcases hm with⟨p,hp,rfl⟩ | hm
       ·exact .inl ⟨p,(remB_mem hp).1,rfl⟩
       ·exact .inr hm
     ·exact h.elim
    ·exact h.elim
   ·exact h.elim
  ·exact h.elim
 refine Step.weaken key fun S' a w I hΓ hS'=>?_
 rcases hS' with hS' | ⟨b,cs,n,m,c,k,fs,hb,hl,hroom,rfl,hK⟩ | ⟨b,ds,b',v,hb,rfl,hK⟩
 ·exact⟨S',hΓ,hS'⟩
 ·have hkeys:(setB S.boxes b (cs.take (n * k)++fs++cs.drop (n * k+m * k))).map (·.1)=S.boxes.map (·.1):=setB_keys _ _ _
  have hnd:=List.nodup_append.1 hΓ.2.heap.nodup
  have hn:((setB S.boxes b (cs.take (n * k)++fs++cs.drop (n * k+m * k))).map (·.1)).Nodup:=hnd.1
  have hn':(S.boxes.map (·.1)).Nodup:=by rw [← hkeys];exact hn
  have hbk:b ∈ (setB S.boxes b (cs.take (n * k)++fs++cs.drop (n * k+m * k))).map (·.1):=by rw [hkeys];exact List.mem_map.2 ⟨_,getB_mem hb,rfl⟩
  refine⟨_,?_,hK fun hm=>?_⟩
  rotate_left
  ·rcases List.mem_append.1 hm with hm | hm
   ·obtain⟨p,hp,e⟩:=List.mem_map.1 hm
    exact(remB_mem hp).2 e
   ·exact hnd.2.2 b hbk b hm rfl
  have:=hΓ.boxes ((b,.c (cs.take (n * k)++fs++anys ((c - (n+m)) * k)))::remB S.boxes b) (fun p hp=>?_) ?_ (fun p hp=>?_)
  ·exact this
  ·rcases List.mem_cons.1 hp with rfl | hp
   ·refine box_tail (D:=cs.drop (n * k+m * k)) (hΓ.2.heap.bx (b,.c _) (setB_has hb)) _ ?_
    rw [List.length_drop,hl,Nat.sub_mul,Nat.add_mul]
   ·exact hΓ.2.heap.bx p (setB_keep (remB_mem hp).1 (remB_mem hp).2)
  ·simp only [List.map_cons,List.nodup_cons]
   refine⟨fun hm=>?_,remB_keys hn'⟩
   obtain⟨p,hp,e⟩:=List.mem_map.1 hm
   exact(remB_mem hp).2 e
  ·have hk:(((S.setBoxes (setB S.boxes b (cs.take (n * k)++fs++cs.drop (n * k+m * k)))).put o.dst (.lit (.slice (some ⟨b,0,none⟩) (n+m) c))).boxes).map (·.1)=S.boxes.map (·.1):=setB_keys _ _ _
   rw [hk]
   rcases List.mem_cons.1 hp with rfl | hp
   ·exact List.mem_map.2 ⟨_,getB_mem hb,rfl⟩
   ·exact List.mem_map.2 ⟨p,(remB_mem hp).1,rfl⟩
 ·refine⟨_,?_,hK⟩
  have hn:=(List.nodup_append.1 hΓ.2.heap.nodup).1
  have hn2:(b'::S.boxes.map (·.1)).Nodup:=hn
  have:=hΓ.boxes ((b',.c ds)::remB S.boxes b) (fun p hp=>?_) ?_ (fun p hp=>?_)
  ·exact this
  ·rcases List.mem_cons.1 hp with rfl | hp
   ·exact hΓ.2.heap.bx _ List.mem_cons_self
   ·exact hΓ.2.heap.bx p (List.mem_cons_of_mem _ (remB_mem hp).1)
  ·simp only [List.map_cons,List.nodup_cons] at hn2 ⊢
   refine⟨fun hm=>hn2.1 ?_,remB_keys hn2.2⟩
   obtain⟨p,hp,e⟩:=List.mem_map.1 hm
   exact List.mem_map.2 ⟨p,(remB_mem hp).1,e⟩
  ·rcases List.mem_cons.1 hp with rfl | hp
   ·exact List.mem_map.2 ⟨_,List.mem_cons_self,rfl⟩
   ·exact List.mem_map.2 ⟨p,List.mem_cons_of_mem _ (remB_mem hp).1,rfl⟩
end Go.VL
