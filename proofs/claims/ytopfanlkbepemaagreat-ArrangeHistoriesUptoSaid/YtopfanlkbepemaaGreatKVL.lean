/- Merged out of my text VL. -/
import Derived.Test.YtopfanlkbepemaaGreatKV17
import Derived.Test.YtopfanlkbepemaaGreatKVK
namespace Go.VL
open Go.RowKit
def St.dropB (S:St) (k:Nat):St:={ S with boxes:=S.boxes.drop k }
theorem dropB_σ (S:St) (k:Nat):(S.dropB k).σ=S.σ:=eqq rfl
theorem dropB_boxes (S:St) (k:Nat):(S.dropB k).boxes=S.boxes.drop k:=eqq rfl
theorem dropB_rows (S:St) (k:Nat):(S.dropB k).rows=S.rows:=eqq rfl
theorem Γ.dropB {C S a w I} (h:Γ C S a w I) (k:Nat):Γ C (S.dropB k) a w I :=
 ⟨h.1,⟨h.2.heap.sub (List.drop_sublist k _) (List.Sublist.refl _),fun b hb=>h.2.mine b ((List.Sublist.append ((List.drop_sublist k _).map _) (List.Sublist.refl _)).subset hb),h.2.keeps,h.2.lo⟩⟩
theorem AWP.loopD {C c S Q} (J:Nat→St→Prop) (n:Nat) (h0:∃ k,J n (S.dropB k)) (round:∀ n S,J n S→AWP C c S (athen (fun S'=>∃ m,m < n∧∃ k,J m (S'.dropB k)) Q)):AWP C (.loop c) S Q:=by
 obtain⟨k,h0⟩:=h0
 have main:AWP C (.loop c) (S.dropB k) Q:=AWP.loop J n h0 fun n S hJ=>by
  intro a w I hΓ
  refine wpIn_mono (round n S hJ a w I hΓ) fun e a' w' ⟨S',I',h1,h2⟩=>?_
  cases e with
  | normal =>
   obtain⟨m,hm,k,hk⟩:=h2
   exact⟨S'.dropB k,I',h1.dropB k,m,hm,hk⟩
  | _=>exact⟨S',I',h1,h2⟩
 exact fun a w I hΓ=>main a w I (hΓ.dropB k)
theorem EX_for {C:Ctx} {c:Code} {k:List It} {S:St} {Q:Exit→St→Prop} (hm:C.P.follows .mixedOrders=true) (hk:okCode C.N C.M c=true) (N:Nat) (T:Nat→St→Prop) (h0:∃ d,T 0 (S.dropB d))
  (round:∀ i S,i < N→T i S→EX C (.code c::.stop (fun S'=>∃ d,T (i+1) (S'.dropB d))::k) S Q) (last:∀ S,T N S→EX C (.code c::.stop (fun _=>False)::k) S Q):AWP C (.loop c) S (contQ C k Q):=by
 refine AWP.loopD (fun m S=>∃ i,i≤N∧m=N - i∧T i S) N (by obtain⟨d,h⟩:=h0;exact⟨d,0,Nat.zero_le _,rfl,h⟩) fun m S ⟨i,hi,hmi,hT⟩=>?_
 have mono:∀ {K K':St→Prop},(∀ S,K S→K' S)→EX C (.code c::.stop K::k) S Q→AWP C c S (athen K' (contQ C k Q)):=fun hK h=>by
  refine cwp_spec hm c S _ hk (cwp_mono (fun e S' h'=>?_) (show cwp C c S _ from h))
  cases e <;> first | exact hK _ h' | exact h'
 rcases Nat.lt_or_ge i N with h | h
 ·exact mono (fun S' ⟨d,h'⟩=>⟨N - (i+1),by omega,d,i+1,h,rfl,h'⟩) (round i S h hT)
 ·obtain rfl:i=N:=by omega
  exact mono (fun S' h'=>h'.elim) (last S hT)
theorem EX_while {C:Ctx} {c:Code} {k:List It} {S:St} {Q:Exit→St→Prop} {α:Type} (hm:C.P.follows .mixedOrders=true) (hk:okCode C.N C.M c=true) (μ:α→Nat) (T:α→St→Prop) (x:α) (h0:∃ d,T x (S.dropB d))
  (round:∀ x S,T x S→EX C (.code c::.stop (fun S'=>∃ y,μ y < μ x∧∃ d,T y (S'.dropB d))::k) S Q):AWP C (.loop c) S (contQ C k Q):=by
 refine AWP.loopD (fun m S=>∃ x,μ x=m∧T x S) (μ x) (by obtain⟨d,h⟩:=h0;exact⟨d,x,rfl,h⟩) fun m S ⟨x,hx,hT⟩=>?_
 subst hx
 refine cwp_spec hm c S _ hk (cwp_mono (fun e S' h'=>?_) (show cwp C c S _ from round x S hT))
 cases e <;> first | exact h' | (obtain⟨y,hy,d,h'⟩:=h';exact⟨μ y,hy,d,y,rfl,h'⟩)
def St.keep (S:St) (d r:Nat):St:={ S with boxes:=S.boxes.drop d,rows:=S.rows.take r }
theorem keep_σ (S:St) (d r:Nat):(S.keep d r).σ=S.σ:=eqq rfl
theorem keep_boxes (S:St) (d r:Nat):(S.keep d r).boxes=S.boxes.drop d:=eqq rfl
theorem keep_rows (S:St) (d r:Nat):(S.keep d r).rows=S.rows.take r:=eqq rfl
theorem Γ.keep {C S a w I} (h:Γ C S a w I) (d r:Nat):Γ C (S.keep d r) a w I :=
 ⟨h.1,⟨h.2.heap.sub (List.drop_sublist d _) (List.take_sublist r _),fun b hb=>h.2.mine b ((List.Sublist.append ((List.drop_sublist d _).map _) ((List.take_sublist r _).filterMap _)).subset hb),h.2.keeps,h.2.lo⟩⟩
theorem AWP.loopR {C c S Q} (J:Nat→St→Prop) (n:Nat) (h0:∃ d r,J n (S.keep d r)) (round:∀ n S,J n S→AWP C c S (athen (fun S'=>∃ m,m < n∧∃ d r,J m (S'.keep d r)) Q)):AWP C (.loop c) S Q:=by
 obtain⟨d,r,h0⟩:=h0
 have main:AWP C (.loop c) (S.keep d r) Q:=AWP.loop J n h0 fun n S hJ=>by
  intro a w I hΓ
  refine wpIn_mono (round n S hJ a w I hΓ) fun e a' w' ⟨S',I',h1,h2⟩=>?_
  cases e with
  | normal =>
   obtain⟨m,hm,d,r,hk⟩:=h2
   exact⟨S'.keep d r,I',h1.keep d r,m,hm,hk⟩
  | _=>exact⟨S',I',h1,h2⟩
 exact fun a w I hΓ=>main a w I (hΓ.keep d r)
theorem EX_forR {C:Ctx} {c:Code} {k:List It} {S:St} {Q:Exit→St→Prop} (hm:C.P.follows .mixedOrders=true) (hk:okCode C.N C.M c=true) (N:Nat) (T:Nat→St→Prop) (h0:∃ d r,T 0 (S.keep d r))
  (round:∀ i S,i < N→T i S→EX C (.code c::.stop (fun S'=>∃ d r,T (i+1) (S'.keep d r))::k) S Q) (last:∀ S,T N S→EX C (.code c::.stop (fun _=>False)::k) S Q):AWP C (.loop c) S (contQ C k Q):=by
 refine AWP.loopR (fun m S=>∃ i,i≤N∧m=N - i∧T i S) N (by obtain⟨d,r,h⟩:=h0;exact⟨d,r,0,Nat.zero_le _,rfl,h⟩) fun m S ⟨i,hi,hmi,hT⟩=>?_
 have mono:∀ {K K':St→Prop},(∀ S,K S→K' S)→EX C (.code c::.stop K::k) S Q→AWP C c S (athen K' (contQ C k Q)):=fun hK h=>by
  refine cwp_spec hm c S _ hk (cwp_mono (fun e S' h'=>?_) (show cwp C c S _ from h))
  cases e <;> first | exact hK _ h' | exact h'
 rcases Nat.lt_or_ge i N with h | h
 ·exact mono (fun S' ⟨d,r,h'⟩=>⟨N - (i+1),by omega,d,r,i+1,h,rfl,h'⟩) (round i S h hT)
 ·obtain rfl:i=N:=by omega
  exact mono (fun S' h'=>h'.elim) (last S hT)
def nilv:Value:=.slice none 0 0
def St.nilRow (S:St) (i k:Nat) (e:TypeId):St:={ σ:=upd S.σ (some i) (.list (some nilv) k []),boxes:=S.boxes,rows:=⟨nilv,k,e⟩::S.rows }
theorem nilRow_same (S:St) (i k:Nat) (e:TypeId):(S.nilRow i k e).σ i=.list (some nilv) k []:=by simp [St.nilRow,upd]
theorem nilRow_ne (S:St) (i j k:Nat) (e:TypeId) (h:i ≠ j):(S.nilRow i k e).σ j=S.σ j:=by simp [St.nilRow,upd,h]
theorem nilRow_boxes (S:St) (i k:Nat) (e:TypeId):(S.nilRow i k e).boxes=S.boxes:=eqq rfl
theorem nilRow_rows (S:St) (i k:Nat) (e:TypeId):(S.nilRow i k e).rows=⟨nilv,k,e⟩::S.rows:=eqq rfl
theorem Γ.nilRow {C S a w I} (h:Γ C S a w I) {i k:Nat} (e:TypeId) (hi:S.σ i=.lit (.slice none 0 0)) (hk:0 < k):Γ C (S.nilRow i k e) a w I:=by
 have g:=h.2.addNil k hk e
 refine⟨⟨h.1.size,h.1.defers,fun j=>?_⟩,⟨g.heap,g.mine,g.keeps,g.lo⟩⟩
 by_cases hj:i=j
 ·subst hj
  have:=h.1.tmps i
  rw [hi] at this
  simp only [V.rep] at this
  rw [nilRow_same]
  simp only [V.rep]
  exact⟨fun y hy=>by cases hy;exact this,none,0,this,Nat.le_refl _,.inl trivial⟩
 ·rw [nilRow_ne _ _ _ _ _ hj];exact h.1.tmps j
theorem AWP.nilRow {C c S Q} (i k:Nat) (e:TypeId) (hi:S.σ i=.lit (.slice none 0 0)) (hk:0 < k) (h:AWP C c (S.nilRow i k e) Q):AWP C c S Q :=
 fun a w I hΓ=>h a w I (hΓ.nilRow e hi hk)
def Dum:Prop:=True
def Nb (b:Nat):List (Nat × B)→Prop
 | []=>Dum
 | (x,_)::r=>(x ≠ b∧b ≠ x)∧Nb b r
theorem newb' {b:Nat}:∀ {bs:List (Nat × B)},b ∉ bs.map (·.1)→Nb b bs
 | [],_=>trivial
 | (x,_)::r,h=>by
  simp only [List.map_cons,List.mem_cons,not_or] at h
  exact⟨⟨fun e=>h.1 e.symm,h.1⟩,newb' h.2⟩
theorem newb {b:Nat} {bs:List (Nat × B)} {rs:List Row} (h:b ∉ blks bs rs):Nb b bs:=newb' fun hm=>h (List.mem_append.2 (.inl hm))
theorem td1 {α:Type} (l:List α) (j:Nat):List.take (l.length - j) (List.drop j l)=List.drop j l:=List.take_of_length_le (by simp)
theorem td2 {α β:Type} (f:α→β) (l:List α) (j:Nat):List.take (l.length - j) (List.drop j (List.map f l))=List.drop j (List.map f l):=List.take_of_length_le (by simp)
theorem td3 {α β:Type} (f:α→β) (l:List α) (j:Nat):List.take (l.length - j) (List.map f (List.drop j l))=List.map f (List.drop j l):=List.take_of_length_le (by simp)
theorem natPos (n:Nat):((0:Int) < ((n+1:Nat):Int))=True:=eq_true (by omega)
theorem nat0:((0:Nat):Int)=0:=eqq rfl
end Go.VL
