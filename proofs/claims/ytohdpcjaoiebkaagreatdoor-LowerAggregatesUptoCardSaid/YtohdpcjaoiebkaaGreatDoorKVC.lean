/- Merged out of my text VC. -/
import Derived.Test.YtohdpcjaoiebkaaGreatDoorKVB
set_option linter.unusedSimpArgs false
set_option linter.unusedVariables false
namespace Go.VL
open Go.RowKit
theorem xE.boxes {C S w I} (h:xE C S w I) (bs:List (Nat × B)) (h1:∀ p ∈ bs,xi w I p.1 p.2) (h2:(bs.map (·.1)).Nodup) (h3:∀ p ∈ bs,p.1 ∈ S.boxes.map (·.1)):xE C (S.setBoxes bs) w I:=by
 have hn:=List.nodup_append.1 h.heap.nodup
 have hsub:∀ b ∈ bs.map (·.1),b ∈ S.boxes.map (·.1):=fun b hb=>by
  obtain⟨p,hp,rfl⟩:=List.mem_map.1 hb
  exact h3 p hp
 refine⟨⟨h1,h.heap.rw,?_,h.heap.inn,h.heap.glob⟩,fun b hb=>?_,h.keeps,h.lo⟩
 ·exact List.nodup_append.2 ⟨h2,hn.2.1,fun x hx y hy=>hn.2.2 x (hsub x hx) y hy⟩
 ·rcases List.mem_append.1 hb with hb | hb
  ·exact h.mine b (List.mem_append.2 (.inl (hsub b hb)))
  ·exact h.mine b (List.mem_append.2 (.inr hb))
theorem Γ.boxes {C S a w I} (h:Γ C S a w I) (bs:List (Nat × B)) (h1:∀ p ∈ bs,xi w I p.1 p.2) (h2:(bs.map (·.1)).Nodup) (h3:∀ p ∈ bs,p.1 ∈ S.boxes.map (·.1)):Γ C (S.setBoxes bs) a w I:=⟨h.1,h.2.boxes bs h1 h2 h3⟩
def kJ (bs:List (Nat × B)) (b:Nat):List (Nat × B):=bs.filter fun p=>!decide (p.1=b)
theorem wc {bs:List (Nat × B)} {b:Nat} {p:Nat × B} (h:p ∈ kJ bs b):p ∈ bs∧p.1 ≠ b:=by simpa [kJ] using h
theorem YT {bs:List (Nat × B)} {b:Nat} (h:(bs.map (·.1)).Nodup):((kJ bs b).map (·.1)).Nodup:=h.sublist (List.filter_sublist.map _)
theorem YP:∀ {bs:List (Nat × B)} {b:Nat} {ds:List V} {p:Nat × B},p ∈ bs→p.1 ≠ b→p ∈ xV bs b ds
 | (b',cs)::r,b,ds,p,hp,hne=>by
  unfold xV
  split
  ·rename_i e;subst e
   rcases List.mem_cons.1 hp with rfl | hp
   ·exact absurd rfl hne
   ·exact List.mem_cons_of_mem _ hp
  ·rcases List.mem_cons.1 hp with rfl | hp
   ·exact List.mem_cons_self
   ·exact List.mem_cons_of_mem _ (YP hp hne)
 | [],_,_,_,hp,_=>by simp at hp
theorem qam:∀ {bs:List (Nat × B)} {b:Nat} {cs ds:List V},zu bs b=some cs→(b,.c ds) ∈ xV bs b ds
 | (b',cs')::r,b,cs,ds,h=>by
  unfold xV
  split
  ·rename_i e;subst e;exact List.mem_cons_self
  ·rename_i e
   refine List.mem_cons_of_mem _ (qam (cs:=cs) ?_)
   cases cs' <;> simpa [zu,e] using h
 | [],_,_,_,h=>by simp [zu] at h
theorem zg.weaken {C S} {o:Oper} {K K':St→Prop} (h:zg C S o K') (hw:∀ S' a w I,Γ C S' a w I→K' S'→∃ S'',Γ C S'' a w I∧K S''):zg C S o K :=
 fun a w I hΓ Q=>Oper.wpIn_mono (fun a' w' ⟨S',I',h1,h2⟩=>by
  obtain⟨S'',h3,h4⟩:=hw S' a' w' I' h1 h2
  exact⟨S'',I',h3,h4⟩) (h a w I hΓ Q)
def ua (P:Program) (S:St) (d:Option Nat) (t tx:TypeId) (s x:V) (K:St→Prop):Prop :=
 match P.underlying t with
 | some (.slice e)=>match qV P e,xk P e,z7 P e with
  | some k,some by_,some z=>0 < by_∧z.length=k∧yP (z.map .lit)=true∧QM P S tx k x fun m fs =>
   match s with
   | .lit (.slice none 0 0)=>0 < m∧m * by_≤140737488355328∧∀ b c,b ∉ qA S.boxes S.rows→m≤c→K ((S.addBox b (fs++xf ((c - m) * k))).put d (.lit (.slice (some ⟨b,0,none⟩) m c)))
   | .lit (.slice (some ⟨b,0,none⟩) n c)=>match zu S.boxes b with
    | some cs=>cs.length=c * k∧n≤c∧(n+m) * by_≤140737488355328∧∀ b' c',b' ∉ qA (kJ S.boxes b) S.rows→n+m≤c' →
      K ((S.setBoxes ((b',.c (cs.take (n * k)++fs++xf ((c' - (n+m)) * k)))::kJ S.boxes b)).put d (.lit (.slice (some ⟨b',0,none⟩) (n+m) c')))
    | none=>False
   | _=>False
  | _,_,_=>False
 | _=>False
theorem yH {P:Program} {S:St} {tx:TypeId} {k:Nat} {x:V} {K K':Nat→List V→Prop} (h:QM P S tx k x K) (hk:∀ n fs,K n fs→K' n fs):QM P S tx k x K':=by
 unfold QM at h ⊢
 split at h
 ·exact⟨h.1,hk _ _ h.2⟩
 ·exact hk _ _ h
 ·split at h
  ·exact⟨h.1,hk _ _ h.2⟩
  ·exact h.elim
 ·exact⟨h.1,hk _ _ h.2⟩
 ·exact h.elim
theorem Kg (n:Nat):(xf n).length=n:=by simp [xf]
theorem qsh {w:World} {I:Cells} {b:Nat} {A fs D:List V} (h:xi w I b (.c (A++fs++D))) (r:Nat) (hr:D.length=r):xi w I b (.c (A++fs++xf r)):=by
 obtain⟨arr,e,h1,h2,h3,h4⟩:=h
 refine⟨arr,e,h1,h2,?_,h4⟩
 have hl:=qC h3
 have e1:=xb (A++fs).length h3
 have e2:=xc (A++fs).length h3
 rw [List.take_left'  rfl] at e1
 rw [List.drop_left' rfl] at e2
 have:=qw e1 (yM (w:=w) (I:=I) (n:=r) (xs:=arr.toList.drop (A++fs).length) (by rw [qC e2,hr]))
 rwa [List.take_append_drop] at this
theorem YJ {C S} {o:Oper} {c:Call} {s x:Operand} {t tx:TypeId} {K:St→Prop} (ho:o.op=.call c) (hc:c.callee=.builtin .append) (ha:c.args.toList=[s,x]) (ht:c.argTypes.toList=[t,tx]) (hd:qX C.N o=true)
  (h:ua C.P S o.dst t tx (VL.ev S.σ s) (VL.ev S.σ x) K):zg C S o K:=by
 have key:zg C S o fun S'=>K S'∨(∃ b cs n m c k fs,zu S.boxes b=some cs∧cs.length=c * k∧n+m≤c∧S'=(S.setBoxes (xV S.boxes b (cs.take (n * k)++fs++cs.drop (n * k+m * k)))).put o.dst (.lit (.slice (some ⟨b,0,none⟩) (n+m) c)) ∧
   (b ∉ qA (kJ S.boxes b) S.rows→K ((S.setBoxes ((b,.c (cs.take (n * k)++fs++xf ((c - (n+m)) * k)))::kJ S.boxes b)).put o.dst (.lit (.slice (some ⟨b,0,none⟩) (n+m) c))))) ∨
   ∃ b ds b' v,b' ∉ qA S.boxes S.rows∧S'=(S.addBox b' ds).put o.dst v∧K ((S.setBoxes ((b',.c ds)::kJ S.boxes b)).put o.dst v):=by
  refine YH ho hc ha ht hd ?_
  unfold ua at h
  unfold v6
  split at h
  ·rename_i e hu
   split at h
   ·rename_i k by_ z hk hby hz
    simp only [hu,hk,hby,hz]
    obtain⟨g1,g2,g3,h⟩:=h
    refine⟨g1,g2,g3,yH h fun m fs h=>?_⟩
    split at h <;> rename_i hs <;> simp only [uO,hs]
    ·obtain⟨hm,hb,hK⟩:=h
     unfold JY
     rw [if_neg (by omega)]
     exact⟨hb,fun b c h1 h2=>.inl (hK b c h1 h2)⟩
    ·rename_i b n c
     split at h
     ·rename_i cs hcs
      obtain⟨hl,hnc,hb,hK⟩:=h
      simp only [hcs]
      refine⟨by omega,hnc,?_⟩
      unfold JY
      split
      ·rename_i hroom
       refine .inr (.inl ⟨b,cs,n,m,c,k,fs,hcs,hl,hroom,by simp only [Nat.zero_add],fun hb'=>hK b c hb' hroom⟩)
      ·rename_i hroom
       refine⟨hb,fun b' c' h1 h2=>.inr (.inr ⟨b,_,b',_,h1,by simp only [List.drop_zero];rfl,?_⟩)⟩
       refine hK b' c' (fun hm=>h1 ?_) h2
       simp only [qA,List.mem_append,List.mem_map] at hm ⊢
       rcases hm with⟨p,hp,rfl⟩ | hm
       ·exact .inl ⟨p,(wc hp).1,rfl⟩
       ·exact .inr hm
     ·exact h.elim
    ·exact h.elim
   ·exact h.elim
  ·exact h.elim
 refine zg.weaken key fun S' a w I hΓ hS'=>?_
 rcases hS' with hS' | ⟨b,cs,n,m,c,k,fs,hb,hl,hroom,rfl,hK⟩ | ⟨b,ds,b',v,hb,rfl,hK⟩
 ·exact⟨S',hΓ,hS'⟩
 ·have hkeys:(xV S.boxes b (cs.take (n * k)++fs++cs.drop (n * k+m * k))).map (·.1)=S.boxes.map (·.1):=yJ _ _ _
  have hnd:=List.nodup_append.1 hΓ.2.heap.nodup
  have hn:((xV S.boxes b (cs.take (n * k)++fs++cs.drop (n * k+m * k))).map (·.1)).Nodup:=hnd.1
  have hn':(S.boxes.map (·.1)).Nodup:=by rw [← hkeys];exact hn
  have hbk:b ∈ (xV S.boxes b (cs.take (n * k)++fs++cs.drop (n * k+m * k))).map (·.1):=by rw [hkeys];exact List.mem_map.2 ⟨_,zX hb,rfl⟩
  refine⟨_,?_,hK fun hm=>?_⟩
  rotate_left
  ·rcases List.mem_append.1 hm with hm | hm
   ·obtain⟨p,hp,e⟩:=List.mem_map.1 hm
    exact(wc hp).2 e
   ·exact hnd.2.2 b hbk b hm rfl
  have:=hΓ.boxes ((b,.c (cs.take (n * k)++fs++xf ((c - (n+m)) * k)))::kJ S.boxes b) (fun p hp=>?_) ?_ (fun p hp=>?_)
  ·exact this
  ·rcases List.mem_cons.1 hp with rfl | hp
   ·refine qsh (D:=cs.drop (n * k+m * k)) (hΓ.2.heap.bx (b,.c _) (qam hb)) _ ?_
    rw [List.length_drop,hl,Nat.sub_mul,Nat.add_mul]
   ·exact hΓ.2.heap.bx p (YP (wc hp).1 (wc hp).2)
  ·simp only [List.map_cons,List.nodup_cons]
   refine⟨fun hm=>?_,YT hn'⟩
   obtain⟨p,hp,e⟩:=List.mem_map.1 hm
   exact(wc hp).2 e
  ·have hk:(((S.setBoxes (xV S.boxes b (cs.take (n * k)++fs++cs.drop (n * k+m * k)))).put o.dst (.lit (.slice (some ⟨b,0,none⟩) (n+m) c))).boxes).map (·.1)=S.boxes.map (·.1):=yJ _ _ _
   rw [hk]
   rcases List.mem_cons.1 hp with rfl | hp
   ·exact List.mem_map.2 ⟨_,zX hb,rfl⟩
   ·exact List.mem_map.2 ⟨p,(wc hp).1,rfl⟩
 ·refine⟨_,?_,hK⟩
  have hn:=(List.nodup_append.1 hΓ.2.heap.nodup).1
  have hn2:(b'::S.boxes.map (·.1)).Nodup:=hn
  have:=hΓ.boxes ((b',.c ds)::kJ S.boxes b) (fun p hp=>?_) ?_ (fun p hp=>?_)
  ·exact this
  ·rcases List.mem_cons.1 hp with rfl | hp
   ·exact hΓ.2.heap.bx _ List.mem_cons_self
   ·exact hΓ.2.heap.bx p (List.mem_cons_of_mem _ (wc hp).1)
  ·simp only [List.map_cons,List.nodup_cons] at hn2 ⊢
   refine⟨fun hm=>hn2.1 ?_,YT hn2.2⟩
   obtain⟨p,hp,e⟩:=List.mem_map.1 hm
   exact List.mem_map.2 ⟨p,(wc hp).1,e⟩
  ·rcases List.mem_cons.1 hp with rfl | hp
   ·exact List.mem_map.2 ⟨_,List.mem_cons_self,rfl⟩
   ·exact List.mem_map.2 ⟨p,List.mem_cons_of_mem _ (wc hp).1,rfl⟩
end Go.VL
