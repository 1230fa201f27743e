/- Merged out of my text VR. -/
import Derived.Test.YtopfanlkbepemaaGreatKVT
namespace Go.VL
open Go.RowKit
theorem takeRF_at {x:Value} {k:Nat} {e:TypeId} {l2:List Row}:∀ {l1:List Row} {K:Row→List Row→Prop} {p:Fix K},K ⟨x,k,e⟩ (l1++l2)→takeRF (l1++⟨x,k,e⟩::l2) x K p
 | [],_,_,h=>.inl ⟨rfl,h⟩
 | r::l1,K,_,h=>.inr (takeRF_at (l1:=l1) (K:=fun r' rs'=>K r' (r::rs')) (p:=.mk) h)
theorem ΓW.permB {C S w I bs} (h:ΓW C S w I) (hp:S.boxes.Perm bs):ΓW C (S.setBoxes bs) w I:=by
 have hb:(blks S.boxes S.rows).Perm (blks bs S.rows):=List.Perm.append_right _ (hp.map _)
 exact⟨⟨fun p hp'=>h.heap.bx p (hp.mem_iff.2 hp'),h.heap.rw,hb.nodup_iff.1 h.heap.nodup,h.heap.inn,h.heap.glob⟩,fun b hb'=>h.mine b (hb.mem_iff.2 hb'),h.keeps,h.lo⟩
theorem Γ.permP {C S a w I bs rs} (h:Γ C S a w I) (hb:S.boxes.Perm bs) (hr:S.rows.Perm rs):Γ C ((S.setBoxes bs).setRows rs) a w I :=
 ⟨h.1,(h.2.permB hb).perm hr⟩
def LoseP (T:St→Prop) (S:St):Prop:=∃ (bs:List (Nat × B)) (rs:List Row) (bs':List (Nat × B)) (rs':List Row),bs.Sublist S.boxes∧rs.Sublist S.rows∧bs.Perm bs'∧rs.Perm rs'∧T ((S.setBoxes bs').setRows rs')
theorem Γ.loseP {C S a w I} {T:St→Prop} (h:Γ C S a w I) (hT:LoseP T S):∃ S',Γ C S' a w I∧T S':=by
 obtain⟨bs,rs,bs',rs',h1,h2,h3,h4,hT⟩:=hT
 exact⟨_,(h.lose h1 h2).permP h3 h4,hT⟩
theorem AWP.loopP {C c S Q} (J:Nat→St→Prop) (n:Nat) (h0:LoseP (J n) S) (round:∀ n S,J n S→AWP C c S (athen (fun S'=>∃ m,m < n∧LoseP (J m) S') Q)):AWP C (.loop c) S Q:=by
 have main:∀ S,J n S→AWP C (.loop c) S Q:=fun S h0=>AWP.loop J n h0 fun n S hJ=>by
  intro a w I hΓ
  refine wpIn_mono (round n S hJ a w I hΓ) fun e a' w' ⟨S',I',h1,h2⟩=>?_
  cases e with
  | normal =>
   obtain⟨m,hm,hk⟩:=h2
   obtain⟨S2,g1,g2⟩:=h1.loseP hk
   exact⟨S2,I',g1,m,hm,g2⟩
  | _=>exact⟨S',I',h1,h2⟩
 intro a w I hΓ
 obtain⟨S2,g1,g2⟩:=hΓ.loseP h0
 exact main S2 g2 a w I g1
theorem EX_forP {C:Ctx} {c:Code} {k:List It} {S:St} {Q:Exit→St→Prop} (hm:C.P.follows .mixedOrders=true) (hk:okCode C.N C.M c=true) (N:Nat) (T:Nat→St→Prop) (h0:LoseP (T 0) S)
  (round:∀ i S,i < N→T i S→EX C (.code c::.stop (fun S'=>LoseP (T (i+1)) S')::k) S Q) (last:∀ S,T N S→EX C (.code c::.stop (fun _=>False)::k) S Q):AWP C (.loop c) S (contQ C k Q):=by
 have lp:∀ {A B:St→Prop} {S},(∀ S,A S→B S)→LoseP A S→LoseP B S:=fun hab ⟨bs,rs,bs',rs',h1,h2,h3,h4,h⟩=>⟨bs,rs,bs',rs',h1,h2,h3,h4,hab _ h⟩
 refine AWP.loopP (fun m S=>∃ i,i≤N∧m=N - i∧T i S) N (lp (fun S h=>⟨0,Nat.zero_le _,rfl,h⟩) h0) fun m S ⟨i,hi,hmi,hT⟩=>?_
 have mono:∀ {K K':St→Prop},(∀ S,K S→K' S)→EX C (.code c::.stop K::k) S Q→AWP C c S (athen K' (contQ C k Q)):=fun hK h=>by
  refine cwp_spec hm c S _ hk (cwp_mono (fun e S' h'=>?_) (show cwp C c S _ from h))
  cases e <;> first | exact hK _ h' | exact h'
 rcases Nat.lt_or_ge i N with h | h
 ·exact mono (fun S' h'=>⟨N - (i+1),by omega,lp (fun S h'=>⟨i+1,h,rfl,h'⟩) h'⟩) (round i S h hT)
 ·obtain rfl:i=N:=by omega
  exact mono (fun S' h'=>h'.elim) (last S hT)
theorem LeL.refl:∀ l:List V,LeL l l
 | []=>.nil
 | v::l=>.cons (Le.refl v) (LeL.refl l)
theorem Le.nilOwn (k:Nat):Le (.lit (.slice none 0 0)) (.list (some nilv) k []):=by
 intro w I x h
 simp only [V.rep] at h ⊢
 exact⟨fun y hy=>by cases hy;exact h,none,0,h,Nat.le_refl _,.inl trivial⟩
theorem ΓW.leB {C S w I} (h:ΓW C S w I) {b:Nat} {cs cs':List V} {l1 l2:List (Nat × B)} (hb:S.boxes=l1++(b,.c cs)::l2) (hl:LeL cs cs'):ΓW C (S.setBoxes (l1++(b,.c cs')::l2)) w I:=by
 have hk:blks (l1++(b,.c cs')::l2) S.rows=blks S.boxes S.rows:=by rw [hb];simp [blks]
 refine⟨⟨fun p hp=>?_,h.heap.rw,?_,h.heap.inn,h.heap.glob⟩,fun x hx=>?_,h.keeps,h.lo⟩
 ·have hp':p ∈ l1++(b,.c cs')::l2:=hp
  simp only [List.mem_append,List.mem_cons] at hp'
  have hin:∀ q,(q ∈ l1∨q=(b,.c cs)∨q ∈ l2)→q ∈ S.boxes:=fun q hq=>by rw [hb];simpa using hq
  rcases hp' with hp' | rfl | hp'
  ·exact h.heap.bx p (hin p (.inl hp'))
  ·obtain⟨arr,e,h1,h2,h3,h4⟩:=h.heap.bx (b,.c cs) (hin _ (.inr (.inl rfl)))
   exact⟨arr,e,h1,h2,hl.reps h3,h4⟩
  ·exact h.heap.bx p (hin p (.inr (.inr hp')))
 ·show (blks (l1++(b,.c cs')::l2) S.rows).Nodup
  rw [hk];exact h.heap.nodup
 ·exact h.mine x (by
    have:x ∈ blks (l1++(b,.c cs')::l2) S.rows:=hx
    rwa [hk] at this)
theorem AWP.nilB {C c S Q} {b k:Nat} {e:TypeId} {cs cs':List V} (l1 l2:List (Nat × B)) (hb:S.boxes=l1++(b,.c cs)::l2) (hl:LeL cs cs') (hk:0 < k) (h:AWP C c ((S.setBoxes (l1++(b,.c cs')::l2)).addRow ⟨nilv,k,e⟩) Q):AWP C c S Q :=
 fun a w I hΓ=>h a w I ⟨hΓ.1,(hΓ.2.leB hb hl).addNil k hk e⟩
theorem EX_nilB {C:Ctx} {k0:List It} {S:St} {Q:Exit→St→Prop} {code:Code} {b k:Nat} {e:TypeId} {cs cs':List V} (l1 l2:List (Nat × B)) (hb:S.boxes=l1++(b,.c cs)::l2) (hl:LeL cs cs') (hk:0 < k)
  (h:AWP C (.loop code) ((S.setBoxes (l1++(b,.c cs')::l2)).addRow ⟨nilv,k,e⟩) (contQ C k0 Q)):AWP C (.loop code) S (contQ C k0 Q):=AWP.nilB l1 l2 hb hl hk h
theorem Ok.list0 {P:Program} {f:FuncId} {own:Option Value} {k:Nat} {as:List V} {bs:List (Nat × B)} {Q:V→List (Nat × B)→List Row→Prop} (h:∀ c,Ok P f (.lit (.slice none 0 c)::as) bs Q)
  (h':∀ p c,Ok P f (.list (some (.slice (some p) 0 c)) k []::as) bs Q):Ok P f (.list own k []::as) bs Q:=by
 intro w I xs hr hH
 cases xs with
 | nil=>simp [V.reps] at hr
 | cons x xs =>
  simp only [V.reps,V.rep,List.length_nil] at hr
  obtain⟨⟨_,a,c,rfl,_⟩,hr⟩:=hr
  cases a with
  | none=>exact h c w I _ (by simp only [V.reps,V.rep];exact⟨trivial,hr⟩) hH
  | some p=>exact h' p c w I _ (by simp only [V.reps,V.rep,List.length_nil];exact⟨⟨fun y hy=>by cases hy;rfl,some p,c,rfl,Nat.zero_le _,.inl trivial⟩,hr⟩) hH
end Go.VL
