/- Merged out of my text VTw. -/
import Derived.Test.YtopfanlkbepemaaGreatKVT
import Derived.Test.YtopfanlkbepemaaGreatKV17
namespace Go.VL
theorem LeL.ats:∀ {l l':List V},LeL l l'→∀ {w I b o},V.ats w I l b o→V.ats w I l' b o
 | _,_,.nil,_,_,_,_,h=>h
 | _,_,.cons h r,w,I,b,o,h'=>by
  simp only [V.ats] at h' ⊢
  obtain⟨⟨x,q1,q2,q3,q4⟩,q5⟩:=h'
  exact⟨⟨x,q1,q2,q3,h w I x q4⟩,r.ats q5⟩
theorem LeL.length:∀ {l l':List V},LeL l l'→l'.length=l.length
 | _,_,.nil=>rfl
 | _,_,.cons _ r=>by simp [r.length]
inductive LeR:List (List V)→List (List V)→Prop
 | nil:LeR [] []
 | cons {e e':List V} {l l':List (List V)} (h:LeL e e') (r:LeR l l'):LeR (e::l) (e'::l')
theorem LeR.length:∀ {l l'},LeR l l'→l'.length=l.length
 | _,_,.nil=>rfl
 | _,_,.cons _ r=>by simp [r.length]
theorem LeR.lies {k:Nat}:∀ {l l'},LeR l l'→∀ {w I b o},V.lies w I k l b o→V.lies w I k l' b o
 | _,_,.nil,_,_,_,_,h=>h
 | _,_,.cons h r,w,I,b,o,h'=>by
  simp only [V.lies] at h' ⊢
  exact⟨h.ats h'.1,by rw [h.length];exact h'.2.1,r.lies h'.2.2⟩
theorem LeL.same:∀ l:List V,LeL l l
 | []=>.nil
 | v::l=>.cons (Le.refl v) (LeL.same l)
theorem LeR.same:∀ l:List (List V),LeR l l
 | []=>.nil
 | e::l=>.cons (LeL.same e) (LeR.same l)
theorem LeR.append {l l' m m'}:LeR l l'→LeR m m'→LeR (l++m) (l'++m')
 | .nil,h=>h
 | .cons h r,h'=>.cons h (r.append h')
theorem Le.rows {own:Option Value} {k:Nat} {es es':List (List V)} (h:LeR es es'):Le (.list own k es) (.list own k es'):=fun w I x hx=>by
 simp only [V.rep] at hx ⊢
 obtain⟨q1,a,c,q2,q3,q4⟩:=hx
 refine⟨q1,a,c,by rw [h.length];exact q2,by rw [h.length];exact q3,?_⟩
 rcases q4 with rfl | ⟨b,o,r1,r2⟩
 ·cases h;exact .inl rfl
 ·exact .inr ⟨b,o,r1,h.lies r2⟩
theorem Γ.le {C S a w I} (h:Γ C S a w I) {i:Nat} {v:V} (hl:Le (S.σ i) v):Γ C (S.put (some i) v) a w I:=by
 refine⟨⟨h.1.size,h.1.defers,fun j=>?_⟩,⟨h.2.heap,h.2.mine,h.2.keeps,h.2.lo⟩⟩
 have:=h.1.tmps j
 simp only [St.put,upd]
 by_cases hj:i=j
 ·subst hj
  simpa using hl _ _ _ this
 ·simpa [hj] using this
theorem AWP.le {C c S Q} (i:Nat) (v:V) (hl:Le (S.σ i) v) (h:AWP C c (S.put (some i) v) Q):AWP C c S Q :=
 fun a w I hΓ=>h a w I (hΓ.le hl)
def LoseW (T:St→Prop) (S:St):Prop:=∃ i v,Le (S.σ i) v∧Lose T (S.put (some i) v)
theorem AWP.loopW {C c S Q} (J:Nat→St→Prop) (n:Nat) (h0:LoseW (J n) S) (round:∀ n S,J n S→AWP C c S (athen (fun S'=>∃ m,m < n∧LoseW (J m) S') Q)):AWP C (.loop c) S Q:=by
 obtain⟨i,v,hl,bs,rs,hb,hr,h0⟩:=h0
 have main:AWP C (.loop c) (((S.put (some i) v).setBoxes bs).setRows rs) Q:=AWP.loop J n h0 fun n S hJ=>by
  intro a w I hΓ
  refine wpIn_mono (round n S hJ a w I hΓ) fun e a' w' ⟨S',I',h1,h2⟩=>?_
  cases e with
  | normal =>
   obtain⟨m,hm,i,v,hl,bs,rs,hb,hr,hk⟩:=h2
   exact⟨_,I',(h1.le hl).lose hb hr,m,hm,hk⟩
  | _=>exact⟨S',I',h1,h2⟩
 exact fun a w I hΓ=>main a w I ((hΓ.le hl).lose hb hr)
theorem EX_forW {C:Ctx} {c:Code} {k:List It} {S:St} {Q:Exit→St→Prop} (hm:C.P.follows .mixedOrders=true) (hk:okCode C.N C.M c=true) (N:Nat) (T:Nat→St→Prop) (h0:LoseW (T 0) S)
  (round:∀ i S,i < N→T i S→EX C (.code c::.stop (fun S'=>LoseW (T (i+1)) S')::k) S Q) (last:∀ S,T N S→EX C (.code c::.stop (fun _=>False)::k) S Q):AWP C (.loop c) S (contQ C k Q):=by
 refine AWP.loopW (fun m S=>∃ i,i≤N∧m=N - i∧T i S) N (by obtain⟨i,v,hl,bs,rs,hb,hr,h⟩:=h0;exact⟨i,v,hl,bs,rs,hb,hr,0,Nat.zero_le _,rfl,h⟩) fun m S ⟨i,hi,hmi,hT⟩=>?_
 have mono:∀ {K K':St→Prop},(∀ S,K S→K' S)→EX C (.code c::.stop K::k) S Q→AWP C c S (athen K' (contQ C k Q)):=fun hK h=>by
  refine cwp_spec hm c S _ hk (cwp_mono (fun e S' h'=>?_) (show cwp C c S _ from h))
  cases e <;> first | exact hK _ h' | exact h'
 rcases Nat.lt_or_ge i N with h | h
 ·exact mono (fun S' ⟨i',v,hl,bs,rs,hb,hr,h'⟩=>⟨N - (i+1),by omega,i',v,hl,bs,rs,hb,hr,i+1,h,rfl,h'⟩) (round i S h hT)
 ·obtain rfl:i=N:=by omega
  exact mono (fun S' h'=>h'.elim) (last S hT)
end Go.VL
