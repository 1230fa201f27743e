/- Merged out of my text VT. -/
import Derived.Test.YtopfanlkbepemaaGreatKVS
namespace Go.VL
theorem AWP.dropRows {C c S Q} (n:Nat) (h:AWP C c (S.setRows (S.rows.drop n)) Q):AWP C c S Q:=fun a w I hΓ =>
 h a w I ⟨hΓ.1,⟨hΓ.2.heap.sub (List.Sublist.refl _) (List.drop_sublist n _),fun b hb=>hΓ.2.mine b ((List.Sublist.append (List.Sublist.refl _) ((List.drop_sublist n _).filterMap _)).subset hb),hΓ.2.keeps,hΓ.2.lo⟩⟩
def Lose (T:St→Prop) (S:St):Prop:=∃ bs rs,bs.Sublist S.boxes∧rs.Sublist S.rows∧T ((S.setBoxes bs).setRows rs)
theorem Γ.lose {C S a w I} (h:Γ C S a w I) {bs:List (Nat × B)} {rs:List Row} (hb:bs.Sublist S.boxes) (hr:rs.Sublist S.rows):Γ C ((S.setBoxes bs).setRows rs) a w I :=
 ⟨h.1,⟨h.2.heap.sub hb hr,fun b hb'=>h.2.mine b ((List.Sublist.append (hb.map _) (hr.filterMap _)).subset hb'),h.2.keeps,h.2.lo⟩⟩
theorem AWP.loopS {C c S Q} (J:Nat→St→Prop) (n:Nat) (h0:Lose (J n) S) (round:∀ n S,J n S→AWP C c S (athen (fun S'=>∃ m,m < n∧Lose (J m) S') Q)):AWP C (.loop c) S Q:=by
 obtain⟨bs,rs,hb,hr,h0⟩:=h0
 have main:AWP C (.loop c) ((S.setBoxes bs).setRows rs) Q:=AWP.loop J n h0 fun n S hJ=>by
  intro a w I hΓ
  refine wpIn_mono (round n S hJ a w I hΓ) fun e a' w' ⟨S',I',h1,h2⟩=>?_
  cases e with
  | normal =>
   obtain⟨m,hm,bs,rs,hb,hr,hk⟩:=h2
   exact⟨_,I',h1.lose hb hr,m,hm,hk⟩
  | _=>exact⟨S',I',h1,h2⟩
 exact fun a w I hΓ=>main a w I (hΓ.lose hb hr)
theorem EX_forS {C:Ctx} {c:Code} {k:List It} {S:St} {Q:Exit→St→Prop} (hm:C.P.follows .mixedOrders=true) (hk:okCode C.N C.M c=true) (N:Nat) (T:Nat→St→Prop) (h0:Lose (T 0) S)
  (round:∀ i S,i < N→T i S→EX C (.code c::.stop (fun S'=>Lose (T (i+1)) S')::k) S Q) (last:∀ S,T N S→EX C (.code c::.stop (fun _=>False)::k) S Q):AWP C (.loop c) S (contQ C k Q):=by
 refine AWP.loopS (fun m S=>∃ i,i≤N∧m=N - i∧T i S) N (by obtain⟨bs,rs,hb,hr,h⟩:=h0;exact⟨bs,rs,hb,hr,0,Nat.zero_le _,rfl,h⟩) fun m S ⟨i,hi,hmi,hT⟩=>?_
 have mono:∀ {K K':St→Prop},(∀ S,K S→K' S)→EX C (.code c::.stop K::k) S Q→AWP C c S (athen K' (contQ C k Q)):=fun hK h=>by
  refine cwp_spec hm c S _ hk (cwp_mono (fun e S' h'=>?_) (show cwp C c S _ from h))
  cases e <;> first | exact hK _ h' | exact h'
 rcases Nat.lt_or_ge i N with h | h
 ·exact mono (fun S' ⟨bs,rs,hb,hr,h'⟩=>⟨N - (i+1),by omega,bs,rs,hb,hr,i+1,h,rfl,h'⟩) (round i S h hT)
 ·obtain rfl:i=N:=by omega
  exact mono (fun S' h'=>h'.elim) (last S hT)
theorem EX_whileS {C:Ctx} {c:Code} {k:List It} {S:St} {Q:Exit→St→Prop} {α:Type} (hm:C.P.follows .mixedOrders=true) (hk:okCode C.N C.M c=true) (μ:α→Nat) (T:α→St→Prop) (x:α) (h0:Lose (T x) S)
  (round:∀ x S,T x S→EX C (.code c::.stop (fun S'=>∃ y,μ y < μ x∧Lose (T y) S')::k) S Q):AWP C (.loop c) S (contQ C k Q):=by
 refine AWP.loopS (fun m S=>∃ x,μ x=m∧T x S) (μ x) (by obtain⟨bs,rs,hb,hr,h⟩:=h0;exact⟨bs,rs,hb,hr,x,rfl,h⟩) fun m S ⟨x,hx,hT⟩=>?_
 subst hx
 refine cwp_spec hm c S _ hk (cwp_mono (fun e S' h'=>?_) (show cwp C c S _ from round x S hT))
 cases e <;> first | exact h' | (obtain⟨y,hy,bs,rs,hb,hr,h'⟩:=h';exact⟨μ y,hy,bs,rs,hb,hr,y,rfl,h'⟩)
end Go.VL
