/- Merged out of my texts ZC D7 D9 E2 E3 E4 E5 E6 YZ ZD Y0 ZE ZF ZG ZH ZS ZI ZJ ZK ZL YY ZT ZU ZV ZM ZN ZO Y3 S1 S2 S3 S4. -/
import Derived.Test.YtkdgbjhbpbgdeaaGreatDoorKA
import Derived.Test.YtkdgbjhbpbgdeaaGreatDoorKd
import Derived.Test.YtkdgbjhbpbgdeaaGreatDoorKVc
import Derived.Test.YtkdgbjhbpbgdeaaGreatDoorKb
import Derived.Test.YtkdgbjhbpbgdeaaGreatDoorKa
import Derived.Shelf.SlSortCmp.WholeK
import Derived.Test.YtkdgbjhbpbgdeaaGreatDoorKVa
import Derived.Test.YtkdgbjhbpbgdeaaGreatDoorKc
import Derived.Shelf.SortG.SortNone
set_option linter.unusedSimpArgs false
set_option maxRecDepth 100000
set_option linter.defProp false
set_option maxHeartbeats 4000000
set_option linter.unusedVariables false
open Go.Proofs.Tryz
open Go.VL Go.Ar Go.Lo Go.Nv
namespace Go.Proofs.YtkdgbjhbpbgdeaaGreatDoor
theorem qz2 (l:List yg) (P:l.length<=1000000) (O:∀ e ∈ l,VR e) (tick:Int):Ok prog 5 [xN l,vint tick] [] fun v q rs=>(∃ c,v=zO c/\KT c)/\q=[]/\rs=[]:=by
 refine oE func5 fun F X J=>?_;refine qb fun a h4=>?_;refine qa ?_;refine zB [] _ (zp _) (qhl l tick) ?_;rintro v q rs ⟨⟨o,p,rfl,rfl⟩,rfl⟩ D;have hd:(o ≠ p/\p ≠ o)/\(p ≠ a/\a ≠ p)/\(o ≠ a/\a ≠ o):=by
  have u:p ∉ [o,a]:=(js.1 D).1;have w:o ∉ [a]:=(js.1 (js.1 D).2).1;simp only [xb,y8,or_false,not_or] at u w;exact⟨⟨qKh u.1,u.1⟩,⟨u.2,qKh u.2⟩,⟨w,qKh w⟩⟩
 refine qa ?_;refine wY rfl (gf:=46) (first:=#[]) (cap:=#[.pointer (some ⟨o,0,none⟩),.pointer (some ⟨p,0,none⟩)]) rfl Ty.cb46 [(p,.c [vint tick]),(o,.c [xN l]),(a,.c Km)] [] (by rfl)
  (fun y r v q rs=>rs=[]/\∃ c h j k n,(KT c/\yf [h,j,k,n] (qT c)/\yx [h,j,k,n]=true)/\q=[(y,.obj (.loop r)),(p,.c [vint tick]),(o,.c [xN l]),(a,.c [h,j,k,n])]) ?_ ?_
 ·intro y r G H S has N;have Q:y ≠ a/\a ≠ y:=by
   simp only [rB,simprocAttr] at G;have:=zS G;simp only [Nb] at this;exact this.2.2.1.symm
  refine Ok.permR (Ok.permL (qFc l P O tick y o p hd.1 (fun c C=>∃ h j k n,(yf [h,j,k,n] (qT c)/\yx [h,j,k,n]=true)/\C=[(y,.obj (.loop r)),(a,.c [h,j,k,n])]) [(y,.obj (.loop r)),(a,.c Km)] ⟨_,_,_,_,⟨qw8,rfl⟩,rfl⟩ fun x c d C aa ⟨h,j,k,n,⟨_,_⟩,L⟩=>?_) ?_) ?_
  ·subst L;refine Q3.of_round (M:=[]) Ty.mixed H S has N rfl (by simp) (by rfl) (by rfl) fun F X J=>?_;generalize A:wV _ _ _=I;have U:I 11=.agg (qT d):=by rw [<-A];rfl
   have W:I 4=ptr a:=by rw [<-A];rfl
   clear A;refine qb fun Z K=>?_;simp only [↓rA,rU,U,W,simprocAttr];refine⟨[_],[_],rfl,?_⟩;simp only [rU,Q,K,simprocAttr];exact⟨[_],[_],[_],rfl,List.Sublist.cons _ (zc _),rfl,⟨_,_,_,_,⟨yf.refl _,rfl⟩,rfl⟩,rfl⟩
  ·exact(ux (l₁:=[_,_])).symm
  ·rintro v q rs ⟨⟨c,Y,z,⟨h,j,k,n,T,rfl⟩,rfl⟩,rfl⟩;exact⟨_,ux (l₁:=[_,_]),rfl,c,h,j,k,n,⟨z,T⟩,rfl⟩
 ·rintro y r v q rs H ⟨rfl,c,h,j,k,n,⟨z,R,ab⟩,rfl⟩;refine⟨_,rfl,fun _=>?_⟩;refine qa ?_;exact⟨_,[],[],wc R,zn _,zn _,⟨c,rfl,z⟩,rfl,rfl⟩
theorem qLo:zD 0 ⟨[],[],[],[]⟩:=zD.of (KM _) (fun t d=>absurd d y8) ⟨KM _,fun f a=>absurd a y8⟩ ⟨KM _,fun f a=>absurd a y8⟩ ⟨KM _,fun f a=>absurd a y8⟩
theorem qI5:Le (.agg [nilS,nilS,nilS,nilS]) (zO ⟨[],[],[],[]⟩):=wc (.cons (Le.nil 4) (.cons (Le.nil 18) (.cons (Le.nil 18) (.cons (Le.nil 18) .nil))))
theorem ql3 (l:List yg) (Q:l.length<=big) (N:∀ e ∈ l,VR e):Ok prog 18 [xN l] [] fun v A rs =>
  (∃ k:Int,v=vint k/\(k=0->l.length<=4096/\∀ i h,OkE l i h))/\A=[]/\rs=[]:=by
 unfold big at Q;refine oE func18 fun F w0 W=>?_;by_cases q:(4096:Int) < l.length
 ·refine qa ?_;exact r0 ⟨⟨_,rfl,fun h=>absurd h (by decide)⟩,rfl,rfl⟩
 have R:l.length<=4096:=by omega
 refine qb fun d L=>?_;simp only [↓rA,rB,results18];refine vg Ty.mixed (by rfl) l.length (fun i S=>(∀ j h,j < i->OkE l j h)/\(∃ (u:List V) (c:Cat),S.boxes=[(d,.c u)]/\(∃ w x y z,u=[w,x,y,z])/\Le (.agg u) (zO c)/\zD i c)/\S.rows=[]/\S.σ 0=xN l/\S.σ 3=ptr d/\S.σ 4=vint i) ⟨_,_,zc _,zc _,?_⟩ (fun i S p ⟨a,⟨u,c,H,⟨w,x,y,z,hu⟩,J,I⟩,o,D,G,n⟩=>?_) (fun S ⟨a,⟨u,c,H,⟨w,x,y,z,hu⟩,J,I⟩,o,D,G,n⟩=>?_)
 ·refine qB ?_;exact⟨fun j h a=>absurd a (qOe j),⟨_,⟨[],[],[],[]⟩,rfl,⟨_,_,_,_,rfl⟩,qI5,qLo⟩⟩
 ·subst hu;have U:=qj p;have T:=qv7 i c l i p (by omega) (by omega) I (N _ (zs p));refine qn ?_;refine qF (Ok.le (.c1 (.c1 (.cons J .nil))) T) ?_;rintro v A rs ⟨⟨C,k,rfl,P,Z⟩,rfl,rfl⟩;refine qb fun X M=>?_;have O:=aI L M;by_cases K:k=0
  case neg =>
   refine qa ?_;exact r0 ⟨⟨_,rfl,fun h=>absurd h K⟩,rfl,rfl⟩
  simp only [↓rA,rB,Nat.reduceAdd,Nat.reduceEqDiff,o,G,n,O,K,U,tU,Nat.reduceShiftRight,Nat.reduceMod];refine⟨[(d,.c (qT C))],[],?_,zn _,?_⟩
  ·refine qB ?_;simp
  ·refine qB ?_;refine⟨fun j h Y=>?_,_,C,rfl,⟨_,_,_,_,rfl⟩,Le.refl _,P⟩;by_cases e:j=i
   ·simp_all
   ·exact a j h (by omega)
 ·simp only [↓rA,rU,H,o,D,n,zq,WR,simprocAttr];exact r0 ⟨⟨_,rfl,fun _=>⟨R,fun i h=>a i h h⟩⟩,rfl,rfl⟩
def xF (f:Fct):FID:=⟨f.src,if f.kind=1 then f.seq else f.ref⟩
theorem qom (f:Fct):zk prog 85 [.agg (KN f)] (.agg (Qc (xF f))):=by
 refine oE func85 fun F p a=>?_;refine qb fun d n=>?_;refine qb fun e o=>?_;by_cases k:f.kind=1
 ·have j:(f.kind=1)=True:=eq_true k;exact qe (h:=by simp only [xF,if_pos k])
 ·exact qe (h:=by simp only [xF,if_neg k])
end Go.Proofs.YtkdgbjhbpbgdeaaGreatDoor
namespace Go.Lo
structure Bas where
 asserted:Bool
 last:yg
def qNp (b:Bas):List V:=qq b.asserted::XJ b.last
abbrev Xq (b:Bas):V:=.agg (qNp b)
def Qv (t:Int) (x:yg):Bool:=decide (x.tick<=t) && decide (x.kind=1)
end Go.Lo
namespace Go.Proofs.YtkdgbjhbpbgdeaaGreatDoor
def xy (o:Option Bas) (x:yg):Bas:=match o with
 | none=>⟨decide (x.fact.kind=1),x⟩
 | some b=>⟨b.asserted || decide (x.fact.kind=1),if b.last.fact.seq < x.fact.seq then x else b.last⟩
def jp (t:Int) (f:FID->Option Bas) (x:yg):FID->Option Bas:=if Qv t x=true then Z0 f (xF x.fact) (xy (f (xF x.fact)) x) else f
def Q6 (l:List yg) (t:Int):FID->Option Bas:=l.foldl (jp t) fun _=>none
theorem Q3.permR {P:Program} {l:Nat} {args:List V} {a:Bx} {Q Q':V->Bx->List VL.Row->Prop} (h:Q3 P l args a Q) (F:∀ v a rs,Q v a rs->∃ d,a.Perm d/\Q' v d rs):Q3 P l args a Q':=by
 intro w I J G q;refine(h w I J G q).mono fun e K ⟨x,v,d,n,o,z,H,C,A,D,u⟩=>?_;obtain⟨p,k,y⟩:=F v d n u;refine⟨x,v,p,n,o,z,H,C,A.perm k,fun b j=>D b ?_,y⟩;simp only [qL,z6] at j ⊢;exact j.imp (fun h=>(k.map (·.1)).mem_iff.2 h) id
abbrev cU (l:List yg) (t:Int) (a d:Nat) (J:Bx):Bx:=(d,.c [vint t])::(a,.c [xN l])::J
abbrev fnU (a d:Nat):V:=.lit (.func (.func 135) #[] #[.pointer (some ⟨a,0,none⟩),.pointer (some ⟨d,0,none⟩)])
theorem quz (l:List yg) (t:Int):Ok prog 86 [xN l,vint t] [] fun v e rs=>∃ a d,(a ≠ d/\d ≠ a)/\v=fnU a d/\e=cU l t a d []/\rs=[]:=by
 refine oE func86 fun F n j=>?_;refine qb fun a k=>?_;refine qb fun d h=>?_;refine qa ?_;exact⟨_,[_,_],[],Le.refl _,zc _,zn _,a,d,h.1,rfl,rfl,rfl⟩
theorem qo9 (l:List yg) (t:Int) (Q:l.length<=1000000) (e d:Nat) (hb:e ≠ d/\d ≠ e) (y:Nat) (J:Nat->Bx->Prop) (o:Bx) (N:J 0 o)
  (P:∀ i (h:i < l.length) a,¬ l[i].tick<=t->J i a->J (i+1) a)
  (H:∀ i (h:i < l.length) a,l[i].tick<=t->J i a->Q3 prog y [.agg (XJ l[i])] (a++cU l t e d []) fun v k rs=>v=qq true/\(∃ j,J (i+1) j/\k=cU l t e d j)/\rs=[]) :
  Ok prog 135 [.lit (.func (.yield y) #[] #[]),ptr e,ptr d] (cU l t e d o) fun v k rs=>v=.tup []/\(∃ j,J l.length j/\k=cU l t e d j)/\rs=[]:=by
 refine oE func135 fun F T K=>?_;simp only [↓rA,rB,results135,hb,tU,Nat.reduceShiftRight,Nat.reduceMod];refine zI Ty.mixed (by rfl) l.length (fun i S=>∃ a,J i a/\S.boxes=cU l t e d a/\S.rows=[]/\S.σ 0=.lit (.func (.yield y) #[] #[])/\S.σ 2=ptr d/\S.σ 6=xN l/\S.σ 7=vint l.length/\S.σ 8=vint i) ⟨_,_,_,_,zc _,zc _,zp _,zp _,?_⟩ (fun i S u ⟨a,n,D,G,w,x,z,A,C⟩=>?_) (fun S ⟨a,n,D,G,w,x,z,A,C⟩=>?_)
 ·refine qB ?_;simp_all
 ·have R:=qj u;have c1:=ym l[i];refine qn ?_;refine qX fun p q=>?_;have M:=q.1;have L:=q.2.1;by_cases I:l[i].tick<=t
  ·refine qa ?_;refine ye (a++cU l t e d []) [(p,.c (XJ l[i]))] ((x8 (l₁:=[(p,B.c (XJ l[i]))]) (l₂:=cU l t e d a)).trans (qOl _ (x8 (l₁:=cU l t e d []) (l₂:=a)))) (H i u a I n) ?_;rintro v k rs ⟨rfl,⟨j,O,rfl⟩,rfl⟩ _;refine qa ?_;refine⟨cU l t e d j,[],_,_,qOy _ _,zn _,zp _,zp _,?_⟩;refine qB ?_;simp_all
  ·refine qa ?_;refine⟨cU l t e d a,[],_,_,qN7 _ _,zn _,zp _,zp _,?_⟩;refine qB ?_;simp_all
 ·refine qn ?_;exact⟨_,_,[],Le.refl _,zc _,zn _,rfl,⟨a,n,rfl⟩,rfl⟩
abbrev ksF:List Sh × Bool:=([.s,.i .i64],true)
def JB (l:List yg) (t:Int) (y e a:Nat) (j:Loop) (n:Nat) (h:Bx):Prop :=
 ∃ (g:List (Nat × FID × Bas)) (d:Nat),h=[(y,.obj (.loop j)),(e,.c [.lit (.map (some a))]),(a,.m ksF (qP u4 Xq g) d)]/\kd id (Q6 (l.take n) t) g d/\g.length<=n
theorem qbe (l:List yg) (t:Int) (i:Nat) (h:i < l.length):Q6 (l.take (i+1)) t=jp t (Q6 (l.take i) t) l[i]:=by
 unfold Q6;rw [zt h,qPy];rfl
theorem kz {l:List yg} {t:Int} {y o d j k:Nat} {r:Loop} {n:Nat} {S:St}
  (hb:∃ a b c es cl,S.boxes=a::b::c::(y,.obj (.loop { r with state:=.busy }))::(o,.c [.lit (.map (some d))])::(d,.m ksF es cl)::cU l t j k []/\∃ g,es=qP u4 Xq g/\kd id (Q6 (l.take n) t) g cl/\g.length<=n) :
  qvt y r (fun v p rs=>v=qq true/\(∃ e,JB l t y o d r n e/\p=e++cU l t j k [])/\rs=[]) .normal S:=by
 obtain⟨a,b,c,es,cl,h,g,rfl,q,u⟩:=hb;exact⟨[_,_,_],_,_,h,List.Sublist.cons _ (List.Sublist.cons _ (List.Sublist.cons _ (zc _))),rfl,⟨_,⟨g,cl,rfl,q,u⟩,rfl⟩,rfl⟩
theorem qzu (l:List yg) (t:Int) (hl:l.length<=1000000) (hs:∀ x ∈ l,x.kind=1->1<=x.fact.seq):Ok prog 50 [xN l,vint t] [] fun v A rs =>
  ∃ e g cl,v=.lit (.map (some e))/\A=[(e,.m ksF (qP u4 Xq g) cl)]/\rs=[]/\kd id (Q6 l t) g cl/\g.length<=l.length:=by
 refine oE func50 fun F w0 I0=>?_;refine qb fun e hm=>?_;refine qB ?_;refine qX fun z h5=>?_;refine qa ?_;refine zB [] _ (zp _) (quz l t) ?_;rintro v A rs ⟨u,w,hb,rfl,rfl,rfl⟩ hN;simp only [List.cons_append,List.nil_append,z7,Jx,js,xb,y8,or_false,not_or,qOb,not_false_eq_true,and_true] at hN;refine qa ?_;refine wY rfl (gf:=135) (first:=#[]) (cap:=#[.pointer (some ⟨u,0,none⟩),.pointer (some ⟨w,0,none⟩)]) rfl Ty.cb135 (cU l t u w [(z,.c [.lit (.map (some e))]),(e,.m ksF [] 0)]) [] (by rfl)
  (fun y r v A rs=>rs=[]/\∃ k,JB l t y z e r l.length k/\A=k++cU l t u w []) ?_ ?_
 ·intro y r aa ad ak has ai;simp only [rB] at aa;have hy:=zS aa;simp only [Nb] at hy;refine Ok.permR (Ok.permL (qo9 l t hl u w hb y (JB l t y z e r) [(y,.obj (.loop r)),(z,.c [.lit (.map (some e))]),(e,.m ksF [] 0)] ⟨[],0,rfl,kd.nil,w3 _⟩ (fun i P Ji R ⟨g,cl,J,N,K⟩=>⟨g,cl,J,by rw [qbe l t i P];unfold jp Qv;rw [decide_eq_false R];simp_all,by omega⟩) fun i P Ji R hJ=>?_) ?_) fun v A rs ⟨J,⟨k,N,K⟩,h4⟩=>⟨_,K▸x8 (l₁:=cU l t u w []) (l₂:=k),h4,k,N,rfl⟩
  ·obtain⟨g,cl,rfl,L,ab⟩:=hJ;refine Q3.permR (Q:=fun v A rs=>v=qq true/\(∃ k,JB l t y z e r (i+1) k/\A=k++cU l t u w [])/\rs=[]) ?_ ?_
   ·show Q3 prog y _ ((y,.obj (.loop r))::(z,.c [.lit (.map (some e))])::(e,.m ksF (qP u4 Xq g) cl)::cU l t u w []) _;refine Q3.of_round (M:=[]) Ty.mixed ad ak has ai rfl (by simp) (by rfl) (by rfl) fun F w0 I0=>?_;generalize X:wV _ _ _=ag;have T:ag 13=.agg (XJ l[i]):=by rw [<-X];rfl
    have o:ag 5=ptr z:=by rw [<-X];rfl
    clear X;have c1:=ym l[i];have af:=hs _ (zs P);have W:=qbe l t i P;generalize l[i]=x at T c1 af W R;rw [c1] at T;refine qb fun b6 h6=>?_;simp only [↓rA,rU,T,simprocAttr];refine⟨[_],_,rfl,?_⟩;by_cases S:x.kind=1
    case neg =>
     simp only [↓rA,rB,S];refine⟨[_],_,_,rfl,List.Sublist.cons _ (zc _),rfl,⟨_,⟨g,cl,rfl,?_,by omega⟩,rfl⟩,rfl⟩;rw [W];unfold jp Qv;simp_all
    have e1:(x.kind=1)=True:=eq_true S;have aj:Qv t x=true:=by unfold Qv;rw [decide_eq_true R,decide_eq_true S];rfl
    have al:=af S;simp only [↓rA,rU,e1,simprocAttr];refine qo _ (qom x.fact) ?_;have H:=L.val (xF x.fact);have j:Q6 (l.take (i+1)) t=Z0 (Q6 (l.take i) t) (xF x.fact) (xy (Q6 (l.take i) t (xF x.fact)) x):=by rw [W];unfold jp;rw [if_pos aj]
    have d:=zb (cV:=Xq) jn (xF x.fact) g;generalize hid:xF x.fact=id at H j d;simp only [↓rA,rU,simprocAttr];refine qX fun b7 h7=>?_;have a:=aI h5 (aI h6 (aI h7 hy));simp only [↓rA,rU,o,a,simprocAttr];rw [d];cases O:zy g id with
    | none =>
     rw [O] at H d;simp only [Option.map_none] at H d;rw [<-H] at j;have ac:=L.new O (xy none x);simp only [↓rA,rU,simprocAttr];refine qX fun b8 U=>?_;have a:=aI a U;have ae:(0:Int) < x.fact.seq:=by omega
     have Z:qP u4 Xq g++[(cl,u4 id,Xq (xy none x))]=qP u4 Xq (g++[(cl,id,xy none x)]):=by rw [qP,qP,k8];rfl
     by_cases n:x.fact.kind=1
     ·have I:(x.fact.kind=1)=True:=eq_true n;simp only [↓rA,rU,o,a,I,ae,simprocAttr];rw [d];simp only [↓rA,rB,a];refine kz ⟨_,_,_,_,_,rfl,g++[(cl,id,xy none x)],?_,by rw [j];exact ac,by rw [zr];simp only [List.length_cons,List.length_nil];omega⟩;rw [<-Z];simp only [xy,I,decide_true];rfl
     ·simp only [↓rA,rU,o,a,n,ae,simprocAttr];rw [d];simp only [↓rA,rB,a];refine kz ⟨_,_,_,_,_,rfl,g++[(cl,id,xy none x)],?_,by rw [j];exact ac,by rw [zr];simp only [List.length_cons,List.length_nil];omega⟩;rw [<-Z];simp only [xy,n,decide_false];rfl
    | some p =>
     rw [O] at H d;simp only [Option.map_some] at H d;rw [<-H] at j;have G:=fun v=>L.old O v;rw [qA4];generalize p.2.2=b at H d j ⊢;have Y:Xq b=.agg (qq b.asserted::vint b.last.no::vint b.last.tick::vint b.last.kind::(KN b.last.fact++(Up b.last.erasure++cG b.last.change b.last.change.feature.body.hd (kI b.last.change.feature.body.args)))):=rfl;rw [Y] at d;have D:=fun v=>xI (cV:=Xq) jn id v g;simp only [↓rA,rU,Y,simprocAttr];refine qX fun b8 U=>?_;have a:=aI a U;have C:∀ v,(ko id v g).length<=i+1:=fun v=>by rw [Kp];omega
     cases h:b.asserted <;> by_cases n:x.fact.kind=1 <;> by_cases q:b.last.fact.seq < x.fact.seq
     ·have I:(x.fact.kind=1)=True:=eq_true n;simp only [↓rA,rU,o,a,I,q,simprocAttr];rw [d];simp only [↓rA,rB,a,h];refine kz ⟨_,_,_,_,_,rfl,ko id (xy (some b) x) g,?_,by rw [j];exact G _,C _⟩;rw [<-D,show xy (some b) x=⟨true,x⟩ by simp [xy,h,n,q]];rfl
     ·have I:(x.fact.kind=1)=True:=eq_true n;simp only [↓rA,rU,o,a,I,q,simprocAttr];rw [d];simp only [↓rA,rB,a,h];refine kz ⟨_,_,_,_,_,rfl,ko id (xy (some b) x) g,?_,by rw [j];exact G _,C _⟩;rw [<-D,show xy (some b) x=⟨true,b.last⟩ by simp [xy,h,n,q]];rfl
     ·simp only [↓rA,rU,o,a,n,q,simprocAttr];rw [d];simp only [↓rA,rB,a,h];refine kz ⟨_,_,_,_,_,rfl,ko id (xy (some b) x) g,?_,by rw [j];exact G _,C _⟩;rw [<-D,show xy (some b) x=⟨false,x⟩ by simp [xy,h,n,q]];rfl
     ·simp only [↓rA,rU,o,a,n,q,simprocAttr];rw [d];simp only [↓rA,rB,a,h];refine kz ⟨_,_,_,_,_,rfl,ko id (xy (some b) x) g,?_,by rw [j];exact G _,C _⟩;rw [<-D,show xy (some b) x=⟨false,b.last⟩ by simp [xy,h,n,q]];rfl
     ·simp only [↓rA,rU,o,a,q,simprocAttr];rw [d];simp only [↓rA,rB,a,h];refine kz ⟨_,_,_,_,_,rfl,ko id (xy (some b) x) g,?_,by rw [j];exact G _,C _⟩;rw [<-D,show xy (some b) x=⟨true,x⟩ by simp [xy,h,q]];rfl
     ·simp only [↓rA,rU,o,a,q,simprocAttr];rw [d];simp only [↓rA,rB,a,h];refine kz ⟨_,_,_,_,_,rfl,ko id (xy (some b) x) g,?_,by rw [j];exact G _,C _⟩;rw [<-D,show xy (some b) x=⟨true,b.last⟩ by simp [xy,h,q]];rfl
     ·simp only [↓rA,rU,o,a,q,simprocAttr];rw [d];simp only [↓rA,rB,a,h];refine kz ⟨_,_,_,_,_,rfl,ko id (xy (some b) x) g,?_,by rw [j];exact G _,C _⟩;rw [<-D,show xy (some b) x=⟨true,x⟩ by simp [xy,h,q]];rfl
     ·simp only [↓rA,rU,o,a,q,simprocAttr];rw [d];simp only [↓rA,rB,a,h];refine kz ⟨_,_,_,_,_,rfl,ko id (xy (some b) x) g,?_,by rw [j];exact G _,C _⟩;rw [<-D,show xy (some b) x=⟨true,b.last⟩ by simp [xy,h,q]];rfl
   ·rintro v A rs ⟨J,⟨k,N,rfl⟩,K⟩;exact⟨_,x8 (l₁:=k) (l₂:=cU l t u w []),J,⟨k,N,rfl⟩,K⟩
  ·exact(x8 (l₁:=[(y,B.obj (.loop r))]) (l₂:=cU l t u w [])).append_right [(z,B.c [.lit (.map (some e))]),(e,B.m ksF [] 0)]
 ·intro y r v A rs ad ⟨J,k,⟨g,cl,ah,L,ab⟩,K⟩;subst J ah K;refine⟨(z,.c [.lit (.map (some e))])::(e,.m ksF (qP u4 Xq g) cl)::cU l t u w [],rfl,fun _=>?_⟩;rw [xa (w3 _)] at L;refine qa ?_;exact⟨_,[_],[],Le.refl _,List.Sublist.cons _ (List.Sublist.cons_cons _ (zn _)),zn _,e,g,cl,rfl,rfl,rfl,L,ab⟩
end Go.Proofs.YtkdgbjhbpbgdeaaGreatDoor
namespace Go.Lo
structure ErM where
 kinds:Str->Option Str
 about:Str × Str->Option (List FID)
 ids:FID->Option Unit
end Go.Lo
namespace Go.Proofs.YtkdgbjhbpbgdeaaGreatDoor
def qul (m:ErM) (f:Fct):Str × Str:=((m.kinds f.table).getD ⟨#[]⟩,f.key)
def qt0 (ids:FID->Option Unit) (l:List FID):FID->Option Unit:=l.foldl (fun s i=>Z0 s i ()) ids
def Qy (m:ErM) (x:yg):ErM :=
 if x.kind=3/\x.change.kind=1 then { m with kinds:=Z0 m.kinds x.change.table.name x.change.table.entity }
 else if x.kind=1/\x.fact.kind ≠ 3 then { m with about:=Z0 m.about (qul m x.fact) (((m.about (qul m x.fact)).getD [])++[xF x.fact]) }
 else if x.kind=2/\x.erasure.kind=2 then { m with ids:=Z0 m.ids ⟨x.erasure.src,x.erasure.seq⟩ () }
 else if x.kind=2 then { m with ids:=qt0 m.ids ((m.about (x.erasure.entity,x.erasure.key)).getD []) }
 else m
def er0:ErM:=⟨fun _=>none,fun _=>none,fun _=>none⟩
def Q5 (l:List yg):ErM:=l.foldl Qy er0
theorem qyl (l:List yg) (i:Nat) (h:i < l.length):Q5 (l.take (i+1))=Qy (Q5 (l.take i)) l[i]:=by
 unfold Q5;rw [zt h,qPy];rfl
def jg (l:List yg) (i:FID):Bool:=((Q5 l).ids i).isSome
def qvs (i:FID) (b:Bas):Rw:=⟨i,b.last.fact.table,b.last.fact.key,b.last.fact.event,b.last.fact.fields,b.last.no,b.last.tick⟩
def jH (gone:FID->Bool) (p:FID × Bas):Option Rw:=if p.2.asserted=true/\¬ p.2.last.fact.kind=3/\gone p.1=false then some (qvs p.1 p.2) else none
theorem qc6 {gone:FID->Bool} {p:FID × Bas} {r:Rw} (h:jH gone p=some r):r.id=p.1:=by
 unfold jH at h;split at h
 ·cases h;rfl
 ·cases h
structure VP (f:FID->Option Bas) (gone:FID->Bool) (E:List Rw):Prop where
 sorted:E.Pairwise fun a b=>cmpRow a b < 0
 mem:∀ r,r ∈ E↔∃ b,f r.id=some b/\jH gone (r.id,b)=some r
theorem Zg {α:Type} {R:α->α->Prop} (j:∀ a b,R a b->¬ R b a):∀ {l m:List α},l.Pairwise R->m.Pairwise R->(∀ k,k ∈ l↔k ∈ m)->l=m
 | [],[],_,_,_=>rfl
 | [],y::m,_,_,h=>absurd ((h y).2 x6) (by simp)
 | x::l,[],_,_,h=>absurd ((h x).1 x6) (by simp)
 | x::l,y::m,hl,hm,h=>by
  have cl:=vt.1 hl;have n:=vt.1 hm;have p:∀ a,¬ R a a:=fun a o=>j a a o o;have w:x=y:=by
   rcases xb.1 ((h x).1 x6) with e | u
   ·exact e
   rcases xb.1 ((h y).2 x6) with e | z
   ·simp_all
   ·exact absurd (cl.1 y z) (j _ _ (n.1 x u))
  subst w;rw [Zg j cl.2 n.2 fun k=>⟨fun d=>?_,fun d=>?_⟩]
  ·rcases xb.1 ((h k).1 (z8 _ d)) with rfl | q
   ·exact absurd (cl.1 k d) (p k)
   omega
  ·rcases xb.1 ((h k).2 (z8 _ d)) with rfl | q
   ·exact absurd (n.1 k d) (p k)
   omega
theorem VP.unique {f:FID->Option Bas} {gone:FID->Bool} {E d:List Rw} (h:VP f gone E) (e:VP f gone d):E=d :=
 Zg (R:=fun a b=>cmpRow a b < 0) (fun a b j k=>by have:=kT.anti a b;omega) h.sorted e.sorted fun r=>(h.mem r).trans (e.mem r).symm
theorem qs7 {a b:Rw} (h:cmpRow a b=0):a.id=b.id:=by
 unfold cmpRow at h;rw [qfb] at h;exact ZW.1 (qks h).2
theorem Kt {f:FID->Option Bas} {gone:FID->Bool} {g:List (Nat × FID × Bas)} {cl:Nat} (n:kd id f g cl) {E:List Rw} (z:E.Perm (g.filterMap fun p=>jH gone p.2)) (K:E.Pairwise fun x y=>¬ cmpRow y x < 0):VP f gone E where
 sorted:=by
  have u:(g.filterMap fun p=>jH gone p.2).Pairwise fun a b=>¬ a.id=b.id:=by
   rw [List.pairwise_filterMap];refine n.apart.imp fun {a b} h=>?_;intro r o L J e;have M:=qc6 (show jH gone a.2=some r from o);have N:=qc6 (show jH gone b.2=some L from J);exact h.2 (by simp_all)
  have w:E.Pairwise fun a b=>¬ a.id=b.id:=(z.pairwise_iff fun h e=>h e.symm).2 u;refine(K.and w).imp fun {a b} h=>?_;have:=kT.anti a b;have O:cmpRow a b ≠ 0:=fun e=>h.2 (qs7 e);omega
 mem r:=by
  rw [z.mem_iff,qMx];constructor
  ·rintro⟨p,A,o⟩;have e:=qc6 o;have D:zy g p.2.1=some p:=by
    cases k:zy g p.2.1 with
    | none=>exact absurd rfl (vn k p A)
    | some q =>
     obtain⟨H,I⟩:=xh k;have:=qRg.1 n.apart;obtain⟨i,F,rfl⟩:=qOk A;obtain⟨j,G,rfl⟩:=qOk H;rcases Nat.lt_trichotomy i j with h | h | h
     ·simp_all
     ·simp_all
     ·exact absurd I.symm (this j i G F h).2
   have d:=n.val r.id;rw [e,D] at d;refine⟨p.2.2,by simp_all,?_⟩;simp_all
  ·rintro⟨b,C,o⟩;have d:=n.val r.id;rw [C] at d;cases k:zy g r.id with
   | none=>simp_all
   | some p =>
    rw [k] at d;simp only [Option.map_some,id,qAo] at d;obtain⟨u,w⟩:=xh k;refine⟨p,u,?_⟩;rw [show p.2=(r.id,b) from Prod.ext w.symm d];omega
theorem qtq (l:List yg) (t:Int):∃ g cl,kd id (Q6 l t) g cl:=by
 unfold Q6
 suffices h:∀ (l:List yg) (f:FID->Option Bas),(∃ g cl,kd id f g cl)->∃ g cl,kd id (l.foldl (jp t) f) g cl from h l _ ⟨[],0,kd.nil⟩
 intro l
 induction l with
 | nil=>simp
 | cons x l d =>
  intro f ⟨g,cl,h⟩;refine d _ ?_;unfold jp;split
  ·cases a:zy g (xF x.fact) with
   | none=>exact⟨_,_,h.new a _⟩
   | some p=>exact⟨_,_,h.old a _⟩
  ·exact⟨g,cl,h⟩
theorem qyg (l:List yg) (t:Int):∃ E,VP (Q6 l t) (jg l) E:=by
 obtain⟨g,k,j⟩:=qtq l t;refine⟨(g.filterMap fun p=>jH (jg l) p.2).mergeSort fun a b=>decide (cmpRow a b<=0),Kt j (qQh _ _) ?_⟩;have:=qRm (le:=fun a b:Rw=>decide (cmpRow a b<=0)) (fun a b c d e=>by
  simp only [decide_eq_true_eq] at *;exact kT.trans a b c d e) (fun a b=>by
  have:=kT.anti a b;by_cases h:cmpRow a b<=0
  ·simp [h]
  ·have:cmpRow b a<=0:=by omega
   simp_all) (g.filterMap fun p=>jH (jg l) p.2)
 refine this.imp fun {a b} h=>?_;have n:cmpRow a b<=0:=by simpa using h
 have:=kT.anti a b;omega
noncomputable def Zv (l:List yg) (t:Int):List Rw:=(qyg l t).choose
theorem qxm (l:List yg) (t:Int):VP (Q6 l t) (jg l) (Zv l t):=(qyg l t).choose_spec
end Go.Proofs.YtkdgbjhbpbgdeaaGreatDoor
namespace Go.Lo
section
variable {α β:Type} [DecidableEq α] {kV:α->Value} {cV:β->V}
theorem qle {g:List (Nat × α × β)} {a:α} {p:Nat × α × β} (h:zy g a=some p):∃ A B,g=A++p::B/\p.2.1=a/\∀ v,ko a v g=A++(p.1,a,v)::B:=by
 induction g with
 | nil=>cases h
 | cons q g j =>
  unfold zy at h;rw [qQ5] at h;by_cases e:a=q.2.1
  ·rw [decide_eq_true e] at h;obtain rfl:=KL h;exact⟨[],g,rfl,e.symm,fun v=>by unfold ko;simp_all⟩
  ·rw [decide_eq_false e] at h;obtain⟨A,B,rfl,d,k⟩:=j h;exact⟨q::A,B,rfl,d,fun v=>by unfold ko;simp_all⟩
omit [DecidableEq α] in
theorem Xt {g:List (Nat × α × β)} {n:Nat} {v:V} (h:∀ p ∈ g,p.1 ≠ n):jF n v (qP kV cV g)=qP kV cV g:=by
 unfold jF qP;rw [qN5];refine qLu fun p a=>?_;simp only [Function.comp];rw [if_neg (h p a)]
omit [DecidableEq α] in
theorem qjg {A B:List (Nat × α × β)} {n:Nat} {a:α} {u:β} (v:β) (h:zT (A++(n,a,u)::B)):jF n (cV v) (qP kV cV (A++(n,a,u)::B))=qP kV cV (A++(n,a,v)::B):=by
 obtain⟨z,q,w⟩:=qMl.1 h;have x:=(vt.1 q).1;have e:∀ X Y:List Ent,jF n (cV v) (X++Y)=jF n (cV v) X++jF n (cV v) Y:=fun X Y=>k8;have o:=Xt (kV:=kV) (cV:=cV) (n:=n) (v:=cV v) (g:=A) fun p d=>by have:=(w p d _ x6).1;omega
 have y:=Xt (kV:=kV) (cV:=cV) (n:=n) (v:=cV v) (g:=B) fun p d=>by have:=(x p d).1;omega
 have j:qP kV cV (A++(n,a,u)::B)=qP kV cV A++((n,kV a,cV u)::qP kV cV B):=by simp [qP]
 have k:qP kV cV (A++(n,a,v)::B)=qP kV cV A++((n,kV a,cV v)::qP kV cV B):=by simp [qP]
 rw [j,k,e,o];congr 1;show (if n=n then _ else _)::jF n (cV v) (qP kV cV B)=_;simp_all
end
abbrev cAb (p:Value × List FID):V:=.list (some p.1) 2 (p.2.map Qc)
abbrev vU (_:Unit):V:=qq true
abbrev ksS:List Sh × Bool:=([.s],false)
abbrev qfx:List Sh × Bool:=([.s,.s],true)
end Go.Lo
namespace Go.Proofs.YtkdgbjhbpbgdeaaGreatDoor
abbrev yV (p:Nat × (Str × Str) × (Value × List FID)):VL.Row:=⟨p.2.2.1,2,60⟩
abbrev bxE (a d e:Nat) (n:List (Nat × Str × Str)) (j:Nat) (k:List (Nat × (Str × Str) × (Value × List FID))) (h:Nat) (g1:List (Nat × FID × Unit)) (c1:Nat):Bx :=
 [(e,.m ksS (qP Jt vstr n) j),(d,.m qfx (qP kSS cAb k) h),(a,.m ksF (qP u4 vU g1) c1)]
structure qAs (m:ErM) (n:Nat) (g3:List (Nat × Str × Str)) (c3:Nat) (g2:List (Nat × (Str × Str) × (Value × List FID))) (c2:Nat) (g1:List (Nat × FID × Unit)) (c1:Nat):Prop where
 kinds:kd id m.kinds g3 c3
 about:kd (fun p:Value × List FID=>p.2) m.about g2 c2
 ids:kd id m.ids g1 c1
 len:∀ p ∈ g2,p.2.2.2.length<=n
theorem qAs.up {m n g3 c3 g2 c2 g1 c1} (h:qAs m n g3 c3 g2 c2 g1 c1):qAs m (n+1) g3 c3 g2 c2 g1 c1:=⟨h.1,h.2,h.3,fun p a=>qIa (h.4 p a)⟩
theorem uD {α:Type} {l m:List α} (h:l=m):m.Sublist l:=h▸zc _
theorem vc {α β:Type} {kV:α->Value} {cV:β->V} (g:List (Nat × α × β)) (p:Nat × α × β):qP kV cV g++[(p.1,kV p.2.1,cV p.2.2)]=qP kV cV (g++[p]):=by simp
theorem qjz {o:Option Str} {A:V->Prop} {B:Prop} {p q} (a:A (vstr ⟨#[]⟩)->B) (h:A (vstr (o.getD ⟨#[]⟩))):vD (o.map vstr) A B p q:=by
 cases o
 ·exact a h
 ·exact h
def qNv (o a p d q:Nat) (D:List (Nat × Str × Str)) (A:Nat) (e:List (Nat × (Str × Str) × (Value × List FID))) (z:Nat) (g1:List (Nat × FID × Unit)) (c1:Nat) (l:List yg) (i:Nat) (x:yg) (w:Str) (u:List Ent) (C h:Nat) (v0:V) (n:List FID) (y:List VL.Row) (L:Nat->Bool) (S:St):Prop :=
 S.σ 3=.lit (.map (some o))/\S.σ 4=.lit (.map (some a))/\S.σ 5=.lit (.map (some p))/\S.σ 7=ptr d/\S.σ 8=ptr q/\S.σ 14=xN l/\S.σ 15=vint l.length/\S.σ 16=vint i /\
 (L 8=true->L 5=true)/\(L 10=true->L 6=true/\L 8=true) /\
 (L 0=true->S.σ 58=.lit (.map (some a)))/\(L 1=true->S.σ 59=.agg [vstr w,vstr x.fact.key])/\(L 2=true->S.σ 61=.lit (.pointer (some ⟨d,3,none⟩)))/\(L 3=true->S.σ 62=.agg (KN x.fact))/\(L 4=true->S.σ 63=.agg (Qc (xF x.fact))) /\
 (L 6=true->S.σ 65=.tup [v0,vint h])/\(L 7=true->S.σ 60=v0)/\(L 9=true->S.σ 67=vint h) /\
 ∃ k j,(L 5=true->S.σ 64=.list (some k) 2 [Qc (xF x.fact)])/\(L 8=true->S.σ 66=cAb (j,n++[xF x.fact])) /\
  S.rows=(bif L 8 then ⟨j,2,60⟩::⟨k,2,60⟩::y else bif L 5 then ⟨k,2,60⟩::e.map yV else e.map yV) /\
  S.boxes=[(q,.c [vstr w,vstr x.fact.key]),(d,.c (XJ x)),(p,.m ksS (qP Jt vstr D) A),(a,.m qfx (bif L 10 then jF h (cAb (j,n++[xF x.fact])) u else bif L 6 then u else qP kSS cAb e) (bif L 6 then C else z)),(o,.m ksF (qP u4 vU g1) c1)]
def TE (l:List yg) (d e h:Nat) (i:Nat) (S:St):Prop:=∃ o k a j n c1,qAs (Q5 (l.take i)) i o k a j n c1/\S.boxes=bxE d e h o k a j n c1/\S.rows=a.map yV/\S.σ 3=.lit (.map (some d))/\S.σ 4=.lit (.map (some e))/\S.σ 5=.lit (.map (some h))/\S.σ 14=xN l/\S.σ 15=vint l.length/\S.σ 16=vint i
theorem uF {l:List yg} {a d e i:Nat} {S:St} (X:Bx) {k j h:List Ent} {g3 c3 g2 c2 g1 c1} {R:List VL.Row} (hb:S.boxes=X++[(e,.m ksS k c3),(d,.m qfx j c2),(a,.m ksF h c1)])
  (q:S.σ 3=.lit (.map (some a))) (u:S.σ 4=.lit (.map (some d))) (w:S.σ 5=.lit (.map (some e))) (n:S.σ 14=xN l) (o:S.σ 15=vint l.length) (p:S.σ 16=vint ((i+1:Nat):Int))
  (z:R.Sublist S.rows) (y:R.Perm (g2.map yV)) (D:k=qP Jt vstr g3) (C:j=qP kSS cAb g2) (A:h=qP u4 vU g1) (x:qAs (Q5 (l.take (i+1))) (i+1) g3 c3 g2 c2 g1 c1):Qg (TE l a d e (i+1)) S:=by
 subst D C A;exact⟨_,R,_,_,by simp_all,z,zp _,y,g3,c3,g2,c2,g1,c1,x,rfl,rfl,q,u,w,n,o,p⟩
theorem qtz (ids:FID->Option Unit) (L:List FID) (j:Nat) (h:j < L.length):qt0 ids (L.take (j+1))=Z0 (qt0 ids (L.take j)) L[j] ():=by
 unfold qt0;rw [zt h,qPy];rfl
theorem qse (l:List yg) (hl:l.length<=1000000):Ok prog 49 [xN l] [] fun v bs rs =>
  ∃ b3 g1 c1,v=.lit (.map (some b3))/\bs=[(b3,.m ksF (qP u4 vU g1) c1)]/\rs=[]/\kd id (Q5 l).ids g1 c1:=by
 refine Ok.of_exM [(11,3)] Ty.mixed func49 rfl (by simp) (by rfl) fun F w0 I0=>?_;refine qb fun b3 h3=>?_;refine qB ?_;refine qX fun b4 h4=>?_;have J:=aI h3 h4;refine qB ?_;refine qX fun b5 h5=>?_;have J:=aI J h5;simp only [rB,reduceCtorEq];refine zI Ty.mixed (by rfl) l.length (TE l b3 b4 b5) ⟨_,_,_,_,zc _,zc _,zp _,zp _,?_⟩ (fun i S hi ⟨g3,c3,G,P,g1,c1,a,z,d,k,u,q,C,D,H⟩=>?_) (fun S ⟨g3,c3,G,P,g1,c1,a,z,d,k,u,q,C,D,H⟩=>?_)
 ·unfold TE;refine qB ?_;exact⟨[],0,[],0,[],0,⟨kd.nil,kd.nil,kd.nil,fun p hp=>absurd hp y8⟩,rfl,rfl⟩
 ·have aw:=qj hi;have ae:=qyl l i hi;have an:=ym l[i];refine qn ?_;refine qX fun b7 h7=>?_;have J:=aI J h7;generalize l[i]=x at an ae;by_cases k3:x.kind=3
  ·have e3:(x.kind=3)=True:=eq_true k3;have n1:¬ x.kind=1:=by omega
   have n2:¬ x.kind=2:=by omega
   by_cases kc:x.change.kind=1
   ·have ec:(x.change.kind=1)=True:=eq_true kc;have ac:=zb (cV:=vstr) kW x.change.table.name g3;have al:=xI (cV:=vstr) kW x.change.table.name x.change.table.entity g3;have K:Q5 (l.take (i+1))={ Q5 (l.take i) with kinds:=Z0 (Q5 (l.take i)).kinds x.change.table.name x.change.table.entity }:=by rw [ae];unfold Qy;rw [if_pos ⟨k3,kc⟩]
    simp only [↓rA,rU,z,q,J,e3,ec,simprocAttr];rw [ac];cases M:zy g3 x.change.table.name with
    | none =>
     rw [qI9];refine qa ?_;exact uF [_] rfl k u q C D rfl (R:=G.map yV) (uD d) (zp _) (vc g3 (c3,x.change.table.name,x.change.table.entity)) rfl rfl (by rw [K];exact⟨a.kinds.new M _,a.about,a.ids,a.up.len⟩)
    | some p =>
     rw [qA4];simp only [↓rA,rU,H,J,aw,simprocAttr];exact uF [_] rfl k u q C D rfl (R:=G.map yV) (uD d) (zp _) al rfl rfl (by rw [K];exact⟨a.kinds.old M _,a.about,a.ids,a.up.len⟩)
   ·have K:Q5 (l.take (i+1))=Q5 (l.take i):=by rw [ae];unfold Qy;rw [if_neg (fun h=>kc h.2),if_neg (fun h=>n1 h.1),if_neg (fun h=>n2 h.1),if_neg n2]
    refine qa ?_;exact uF [_] rfl k u q C D rfl (R:=G.map yV) (uD d) (zp _) rfl rfl rfl (by rw [K];exact a.up)
  ·by_cases k1:x.kind=1
   ·have e1:(x.kind=1)=True:=eq_true k1;have n2:¬ x.kind=2:=by omega
    by_cases kf:x.fact.kind=3
    ·have ef:(x.fact.kind=3)=True:=eq_true kf;have K:Q5 (l.take (i+1))=Q5 (l.take i):=by rw [ae];unfold Qy;rw [if_neg (fun h=>k3 h.1),if_neg (fun h=>h.2 kf),if_neg (fun h=>n2 h.1),if_neg n2]
     refine qa ?_;exact uF [_] rfl k u q C D rfl (R:=G.map yV) (uD d) (zp _) rfl rfl rfl (by rw [K];exact a.up)
    ·have K:Q5 (l.take (i+1))={ Q5 (l.take i) with about:=Z0 (Q5 (l.take i)).about (qul (Q5 (l.take i)) x.fact) ((((Q5 (l.take i)).about (qul (Q5 (l.take i)) x.fact)).getD [])++[xF x.fact]) }:=by rw [ae];unfold Qy;rw [if_neg (fun h=>k3 h.1),if_pos ⟨k1,kf⟩]
     have ac:=zb (cV:=vstr) kW x.fact.table g3;have aK:=a.kinds.val x.fact.table;have aE:VL.findM (qP Jt vstr g3) (Jt x.fact.table)=((Q5 (l.take i)).kinds x.fact.table).map vstr:=by rw [ac,<-aK,Option.map_map];rfl
     have aL:qul (Q5 (l.take i)) x.fact=(((Q5 (l.take i)).kinds x.fact.table).getD ⟨#[]⟩,x.fact.key):=rfl;rw [aL] at K;simp only [↓rA,rU,z,q,J,k3,e1,kf,simprocAttr];rw [aE];refine qjz id ?_;generalize ((Q5 (l.take i)).kinds x.fact.table).getD ⟨#[]⟩=w1 at K;refine qb fun b8 h8=>?_;have J:=aI J h8;simp only [↓rA,rU,simprocAttr];have ar:=a.about.apart;have aG:=a.about.lt;have aC:∃ (af:List Ent) (ag st:Nat) (v0:V) (O:List FID) (R':List VL.Row) (gN:Value->List (Nat × (Str × Str) × (Value × List FID))),O.length<=i/\((Q5 (l.take i)).about (w1,x.fact.key)).getD []=O /\
       ((QW (qP kSS cAb G) (kSS (w1,x.fact.key))=none/\af=qP kSS cAb G++[(P,kSS (w1,x.fact.key),nilS)]/\ag=P+1/\v0=nilS/\st=P)∨(∃ e,QW (qP kSS cAb G) (kSS (w1,x.fact.key))=some e/\af=qP kSS cAb G/\ag=P/\v0=e.2.2/\st=e.1)) /\
       ((v0=nilS/\O=[]/\R'=G.map yV)∨(∃ y0 A B,v0=.list (some y0) 2 (O.map Qc)/\G.map yV=A++⟨y0,2,60⟩::B/\R'=A++B)) /\
       (∀ y,jF st (cAb (y,O++[xF x.fact])) af=qP kSS cAb (gN y)/\kd (fun p:Value × List FID=>p.2) (Z0 (Q5 (l.take i)).about (w1,x.fact.key) (O++[xF x.fact])) (gN y) ag/\((⟨y,2,60⟩:VL.Row)::R').Perm ((gN y).map yV)/\∀ p ∈ gN y,p.2.2.2.length<=i+1)/\∃ e ∈ af,e.1=st:=by
      have ak:=Zt (cV:=cAb) YP (w1,x.fact.key) G;have ad:=a.about.val (w1,x.fact.key);cases M:zy G (w1,x.fact.key) with
      | none =>
       rw [M] at ak ad;refine⟨_,_,_,nilS,[],G.map yV,fun y=>G++[(P,(w1,x.fact.key),(y,[xF x.fact]))],KM _,by rw [<-ad];rfl,.inl ⟨ak,rfl,rfl,rfl,rfl⟩,.inl ⟨rfl,rfl,rfl⟩,fun y=>⟨?_,a.about.new M (y,[xF x.fact]),?_,fun p hp=>?_⟩,_,z6.2 (.inr x6),rfl⟩
       ·have e:∀ X Y:List Ent,jF P (cAb (y,[]++[xF x.fact])) (X++Y)=jF P (cAb (y,[]++[xF x.fact])) X++jF P (cAb (y,[]++[xF x.fact])) Y:=fun X Y=>k8;rw [e,Xt fun p hp=>qRu (aG p hp),<-vc];congr 1;show [if P=P then _ else _]=_;simp
       ·rw [k8];exact(x8 (l₁:=[_]))
       ·rcases z6.1 hp with hp | hp
        ·exact qIa (a.len p hp)
        simp_all
      | some p =>
       rw [M] at ak ad;obtain⟨A,B,ao,av,au⟩:=qle M;obtain⟨pn,pk,y0,O⟩:=p;simp only at av;subst av;have ap:=a.len _ (xh M).1;refine⟨_,_,_,.list (some y0) 2 (O.map Qc),O,A.map yV++B.map yV,fun y=>ko (w1,x.fact.key) (y,O++[xF x.fact]) G,ap,by rw [<-ad];rfl,.inr ⟨_,ak,rfl,rfl,rfl,rfl⟩,.inr ⟨y0,A.map yV,B.map yV,rfl,by simp_all,rfl⟩,fun y=>⟨?_,a.about.old M (y,O++[xF x.fact]),?_,fun p hp=>?_⟩,?_⟩
       ·show jF pn _ _=qP kSS cAb (ko _ _ G);rw [au,ao];rw [ao] at ar;exact qjg (y,O++[xF x.fact]) ar
       ·show List.Perm _ (List.map yV (ko _ _ G));rw [au,k8];exact ux.symm
       ·obtain⟨p',aH,e1,e2,e3⟩:=uX hp;rcases e3 with rfl | e3
        ·exact qIa (a.len _ aH)
        simp_all
       ·rw [ao];exact⟨_,x9.2 ⟨_,z6.2 (.inr x6),rfl⟩,rfl⟩
     obtain⟨af,ag,st,v0,O,R',gN,ap,az,aA,aB,aF,aJ⟩:=aC;rw [az] at K;refine JP Ty.mixed (by rfl) (by rfl) (qNv b3 b4 b5 b7 b8 g3 c3 G P g1 c1 l i x w1 af ag st v0 O R') ?_ ?_ ?_
     ·exact⟨k,u,q,rfl,rfl,C,D,H,fun h=>(by cases h),fun h=>(by cases h),fun h=>(by cases h),fun h=>(by cases h),fun h=>(by cases h),fun h=>(by cases h),fun h=>(by cases h),fun h=>(by cases h),fun h=>(by cases h),fun h=>(by cases h),nilv,nilv,fun h=>(by cases h),fun h=>(by cases h),d,rfl⟩
     ·intro L S n o I N Z ⟨k,u,q,Q,T,C,D,H,j8,ab,f0,f1,f2,f3,f4,f6,f7,f9,U,W,f5,f8,d,z⟩
      match n,I with
      | 0,I =>
       cases I;refine qa ?_;exact⟨k,u,q,Q,T,C,D,H,j8,ab,fun _=>rfl,f1,f2,f3,f4,f6,f7,f9,U,W,f5,f8,d,z⟩
      | 1,I =>
       cases I;refine qa ?_;exact⟨k,u,q,Q,T,C,D,H,j8,ab,f0,fun _=>rfl,f2,f3,f4,f6,f7,f9,U,W,f5,f8,d,z⟩
      | 2,I =>
       cases I;refine qa ?_;exact⟨k,u,q,Q,T,C,D,H,j8,ab,f0,f1,fun _=>rfl,f3,f4,f6,f7,f9,U,W,f5,f8,d,z⟩
      | 3,I =>
       cases I;have l2:=dt Z 2;have d2:=f2 l2;refine qa ?_;exact⟨k,u,q,Q,T,C,D,H,j8,ab,f0,f1,f2,fun _=>rfl,f4,f6,f7,f9,U,W,f5,f8,d,z⟩
      | 4,I =>
       cases I;have l3:=dt Z 3;have d3:=f3 l3;simp only [↓rA,rU,z,d3,simprocAttr];refine qo _ (qom x.fact) ?_;simp only [↓rA,rB,d];exact⟨k,u,q,Q,T,C,D,H,j8,ab,f0,f1,f2,f3,fun _=>rfl,f6,f7,f9,U,W,f5,f8,rfl,rfl⟩
      | 5,I =>
       cases I;have l4:=dt Z 4;have d4:=f4 l4;have l8:L 8=false:=qOh.2 fun h=>by rw [j8 h] at N;cases N
       simp only [l8,N,cond_false] at d;refine qa ?_;refine fun y=>?_;refine⟨k,u,q,Q,T,C,D,H,fun _=>rfl,ab,f0,f1,f2,f3,f4,f6,f7,f9,y,W,fun _=>rfl,fun h=>absurd (show L 8=true from h) (by rw [l8];decide),?_,z⟩;show _=(bif L 8 then _ else _);rw [l8];exact congrArg _ d
      | 6,I =>
       cases I;have l0:=dt Z 0;have d0:=f0 l0;have l1:=dt Z 1;have d1:=f1 l1;have aa:L 10=false:=qOh.2 fun h=>by rw [(ab h).1] at N;cases N
       simp only [aa,N,cond_false] at z;rcases aA with⟨h1,h2,h3,h4,h5⟩ | ⟨e,h1,h2,h3,h4,h5⟩
       ·subst h2 h3 h4 h5;simp only [↓rA,rU,z,J,d0,d1,simprocAttr];rw [h1];simp only [↓rA,rB,z,J];refine⟨k,u,q,Q,T,C,D,H,j8,fun h=>absurd (show L 10=true from h) (by rw [aa];decide),f0,f1,f2,f3,f4,fun _=>rfl,f7,f9,U,W,f5,f8,d,?_⟩;show _=[_,_,_,(b4,B.m qfx (bif L 10 then _ else _) _),_];rw [aa];rfl
       ·subst h2 h3 h4 h5;simp only [↓rA,rU,z,J,d0,d1,simprocAttr];rw [h1];refine qa ?_;refine⟨k,u,q,Q,T,C,D,H,j8,fun h=>absurd (show L 10=true from h) (by rw [aa];decide),f0,f1,f2,f3,f4,fun _=>rfl,f7,f9,U,W,f5,f8,d,?_⟩;show _=[_,_,_,(b4,B.m qfx (bif L 10 then _ else _) _),_];rw [aa];exact z
      | 7,I =>
       cases I;have l6:=dt Z 6;have d6:=f6 l6;refine qa ?_;exact⟨k,u,q,Q,T,C,D,H,j8,ab,f0,f1,f2,f3,f4,f6,fun _=>rfl,f9,U,W,f5,f8,d,z⟩
      | 8,I =>
       cases I;have l7:=dt Z 7;have d7:=f7 l7;have l5:=dt Z 5;have d5:=f5 l5;have aa:L 10=false:=qOh.2 fun h=>by rw [(ab h).2] at N;cases N
       simp only [N,l5,cond_false,cond_true] at d;simp only [aa,cond_false] at z;rcases aB with⟨h1,h2,h3⟩ | ⟨y0,A1,B1,h1,h2,h3⟩
       ·subst h1 h2 h3;refine qa ?_;refine jS.l ?_;refine qa ?_;refine fun y=>⟨k,u,q,Q,T,C,D,H,fun _=>l5,fun h=>absurd (show L 10=true from h) (by rw [aa];decide),f0,f1,f2,f3,f4,f6,f7,f9,U,y,f5,fun _=>rfl,congrArg _ d,?_⟩;show _=[_,_,_,(b4,B.m qfx (bif L 10 then _ else _) _),_];rw [aa];exact z
       ·subst h1 h3;rw [h2] at d;refine qa ?_;refine ZJ (l1:=⟨U,2,60⟩::A1) ?_;refine qa ?_;refine⟨by omega,fun y=>⟨k,u,q,Q,T,C,D,H,fun _=>l5,fun h=>absurd (show L 10=true from h) (by rw [aa];decide),f0,f1,f2,f3,f4,f6,f7,f9,U,y,f5,fun _=>?_,rfl,?_⟩⟩
        ·show V.list (some y) 2 (O.map Qc++[Qc _])=V.list (some y) 2 ((O++[_]).map Qc);simp
        ·show _=[_,_,_,(b4,B.m qfx (bif L 10 then _ else _) _),_];rw [aa];exact z
      | 9,I =>
       cases I;have l6:=dt Z 6;have d6:=f6 l6;refine qa ?_;exact⟨k,u,q,Q,T,C,D,H,j8,ab,f0,f1,f2,f3,f4,f6,f7,fun _=>rfl,U,W,f5,f8,d,z⟩
      | 10,I =>
       cases I;have l0:=dt Z 0;have d0:=f0 l0;have l9:=dt Z 9;have d9:=f9 l9;have l8:=dt Z 8;have d8:=f8 l8;have l6:L 6=true:=Z ⟨6,.phase⟩ (by simp) rfl;simp only [N,l6,cond_false,cond_true] at z;simp only [↓rA,rB,z,J,d0,d9,d8];obtain⟨e,aD,aO⟩:=aJ;refine⟨⟨e,aD,by omega⟩,k,u,q,Q,T,C,D,H,j8,fun _=>⟨l6,l8⟩,f0,f1,f2,f3,f4,f6,f7,f9,U,W,f5,f8,d,?_⟩;show _=[_,_,_,(b4,B.m qfx (jF _ _ _) (bif L 6 then _ else _)),_];rw [l6];rfl
      | n+11,I=>cases I
     ·intro L S N ⟨k,u,q,Q,T,C,D,H,j8,ab,f0,f1,f2,f3,f4,f6,f7,f9,U,W,f5,f8,d,z⟩;replace N:∀ i,i < 11->L i=true:=N;have l8:=N 8 (by decide);have aa:=N 10 (by decide);have l6:=N 6 (by decide);simp only [l8,cond_true] at d;simp only [aa,l6,cond_true] at z;obtain⟨q2,qg,qp,ql⟩:=aF W;refine qa ?_;exact uF [_,_] z k u q C D rfl (R:=⟨W,2,60⟩::R') (List.Sublist.trans (List.Sublist.cons_cons _ (qN7 _ _)) (uD d)) qp rfl q2 rfl (by rw [K];exact⟨a.kinds,qg,a.ids,ql⟩)
   ·by_cases k2:x.kind=2
    ·have e2:(x.kind=2)=True:=eq_true k2;by_cases ke:x.erasure.kind=2
     ·have ee:(x.erasure.kind=2)=True:=eq_true ke;have K:Q5 (l.take (i+1))={ Q5 (l.take i) with ids:=Z0 (Q5 (l.take i)).ids ⟨x.erasure.src,x.erasure.seq⟩ () }:=by rw [ae];unfold Qy;rw [if_neg (fun h=>k3 h.1),if_neg (fun h=>k1 h.1),if_pos ⟨k2,ke⟩]
      have ac:=zb (cV:=vU) jn ⟨x.erasure.src,x.erasure.seq⟩ g1;have al:=xI (cV:=vU) jn ⟨x.erasure.src,x.erasure.seq⟩ () g1;simp only [↓rA,rU,z,k,J,k3,k1,e2,ee,simprocAttr];rw [ac];cases M:zy g1 ⟨x.erasure.src,x.erasure.seq⟩ with
      | none =>
       rw [qI9];refine qa ?_;exact uF [_] rfl k u q C D rfl (R:=G.map yV) (uD d) (zp _) rfl rfl (vc g1 (c1,⟨x.erasure.src,x.erasure.seq⟩,())) (by rw [K];exact⟨a.kinds,a.about,a.ids.new M _,a.up.len⟩)
      | some p =>
       rw [qA4];simp only [↓rA,rU,H,J,aw,simprocAttr];exact uF [_] rfl k u q C D rfl (R:=G.map yV) (uD d) (zp _) rfl rfl al (by rw [K];exact⟨a.kinds,a.about,a.ids.old M _,a.up.len⟩)
     ·have K:Q5 (l.take (i+1))={ Q5 (l.take i) with ids:=qt0 (Q5 (l.take i)).ids (((Q5 (l.take i)).about (x.erasure.entity,x.erasure.key)).getD []) }:=by rw [ae];unfold Qy;rw [if_neg (fun h=>k3 h.1),if_neg (fun h=>k1 h.1),if_neg (fun h=>ke h.2),if_pos k2]
      have ac:=zb (cV:=cAb) YP (x.erasure.entity,x.erasure.key) G;have ad:=a.about.val (x.erasure.entity,x.erasure.key);simp only [↓rA,rU,z,u,J,k3,k1,e2,ke,simprocAttr];rw [ac];cases M:zy G (x.erasure.entity,x.erasure.key) with
      | none =>
       rw [M] at ad;rw [<-ad] at K;rw [qI9];simp only [↓rA,rU,simprocAttr];refine qG Ty.mixed (by rfl) 0 (fun j S=>S.boxes=(b7,.c (XJ x))::bxE b3 b4 b5 g3 c3 G P g1 c1/\S.rows=G.map yV/\S.σ 3=.lit (.map (some b3))/\S.σ 4=.lit (.map (some b4))/\S.σ 5=.lit (.map (some b5))/\S.σ 14=xN l/\S.σ 15=vint l.length/\S.σ 16=vint i/\S.σ 95=vint 0/\S.σ 96=vint 0) ⟨0,?_⟩ (fun j S hj _=>absurd hj (qOe _)) (fun S ⟨z,d,k,u,q,C,D,H,ai,aj⟩=>?_)
       ·simp only [rU,d,k,u,q,C,D,H,an,simprocAttr];rfl
       ·refine qa ?_;exact uF [_] z k u q C D rfl (R:=G.map yV) (uD d) (zp _) rfl rfl rfl (by rw [K];exact a.up)
      | some p =>
       obtain⟨st,w,y0,L⟩:=p;rw [M] at ad;rw [<-ad] at K;have N:L.length<=i:=a.len _ (xh M).1;rw [qA4];simp only [↓rA,rU,simprocAttr];refine vg Ty.mixed (by rfl) L.length (fun j S=>∃ g1 c1,kd id (qt0 (Q5 (l.take i)).ids (L.take j)) g1 c1/\S.boxes=(b7,.c (XJ x))::bxE b3 b4 b5 g3 c3 G P g1 c1/\S.rows=G.map yV/\S.σ 3=.lit (.map (some b3))/\S.σ 4=.lit (.map (some b4))/\S.σ 5=.lit (.map (some b5))/\S.σ 14=xN l/\S.σ 15=vint l.length/\S.σ 16=vint i/\S.σ 94=.list (some y0) 2 (L.map Qc)/\S.σ 95=vint L.length/\S.σ 96=vint j) ⟨_,_,zc _,zc _,g1,c1,a.ids,?_⟩ (fun j S hj ⟨g1,c1,ah,z,d,k,u,q,C,D,H,am,ai,aj⟩=>?_) (fun S ⟨g1,c1,ah,z,d,k,u,q,C,D,H,am,ai,aj⟩=>?_)
       ·simp only [rU,d,k,u,q,C,D,H,an,simprocAttr];rfl
       ·have ax:=qj hj;have ac:=zb (cV:=vU) jn L[j] g1;have al:=xI (cV:=vU) jn L[j] () g1;have aq:=qtz (Q5 (l.take i)).ids L j hj;simp only [↓rA,rU,z,d,am,ai,aj,zq,hj,simprocAttr];refine qX fun aM ay=>?_;have J:=aI J ay;simp only [↓rA,rU,z,k,J,simprocAttr];rw [ac];cases M:zy g1 L[j] with
        | none =>
         rw [qI9];simp only [↓rA,rU,J,aj,ax,simprocAttr];refine⟨_,_,List.Sublist.cons _ (zc _),zc _,g1++[(c1,L[j],())],c1+1,by rw [aq];exact ah.new M _,?_⟩;simp only [rU,d,k,u,q,C,D,H,am,ai,simprocAttr];simp
        | some p =>
         rw [qA4];simp only [↓rA,rU,J,aj,ax,simprocAttr];refine⟨_,_,List.Sublist.cons _ (zc _),zc _,ko L[j] () g1,c1,by rw [aq];exact ah.old M _,?_⟩;simp only [rU,d,k,u,q,C,D,H,am,ai,simprocAttr];simp_all
       ·rw [xa (w3 _)] at ah;refine qn ?_;exact uF [_] z k u q C D rfl (R:=G.map yV) (uD d) (zp _) rfl rfl rfl (by rw [K];exact⟨a.kinds,a.about,ah,a.up.len⟩)
    ·have K:Q5 (l.take (i+1))=Q5 (l.take i):=by rw [ae];unfold Qy;rw [if_neg (fun h=>k3 h.1),if_neg (fun h=>k1 h.1),if_neg (fun h=>k2 h.1),if_neg k2]
     refine qa ?_;exact uF [_] rfl k u q C D rfl (R:=G.map yV) (uD d) (zp _) rfl rfl rfl (by rw [K];exact a.up)
 ·rw [xa (w3 _)] at a;refine qn ?_;exact⟨_,[_],[],Le.refl _,List.Sublist.cons _ (List.Sublist.cons _ (List.Sublist.cons_cons _ (zn _))),zn _,b3,g1,c1,rfl,rfl,rfl,a.ids⟩
end Go.Proofs.YtkdgbjhbpbgdeaaGreatDoor
namespace Go.Ar
variable {α:Type}
theorem qcb {c:α->α->Int} (h:VN c):Go.Sort.SWO (Go.Proofs.ltOf c) where
 irrefl x:=by simp [Go.Proofs.ltOf,h.refl]
 trans x y z h1 h2:=by
  simp only [Go.Proofs.ltOf,decide_eq_true_eq] at *;exact h.lt_trans h1 h2
 ntrans x y z h1 h2:=by
  simp only [Go.Proofs.ltOf,decide_eq_false_iff_not] at *;have a:=h.anti x y;have d:=h.anti y z;have e:=h.anti x z;have:=h.trans z y x;omega
end Go.Ar
namespace Go.Proofs.YtkdgbjhbpbgdeaaGreatDoor
open Arr
theorem qpo:zk prog 51 [nilS,.lit (.func (.func 52) #[] #[])] (.tup []):=Ok.sortNil Tryz.sortR 0 _
theorem qpp (l:List Rw) (rest:List V) (b cap:Nat) (e:l.length < 4611686018427387904) :
  Ok prog 51 [.lit (.slice (some ⟨b,0,none⟩) l.length cap),.lit (.func (.func 52) #[] #[])] [(b,.c ((l.map zJ).flatten++rest))] fun v d rs =>
   v=.tup []/\rs=[]/\∃ a:List Rw,a.Perm l/\a.Pairwise (fun x y=>¬ cmpRow y x < 0)/\d=[(b,.c ((a.map zJ).flatten++rest))] :=
 Ok.sortFunc Tryz.sortR (k:=8) isAgg62 sizeOf62 zJ (fun _=>rfl) cmpRow (qcb kT) (g:=52) (enters_of func52 (by rfl) rfl) l
  (fun x h y j=>qs6 x y) rest b cap e
theorem XH (l:List Rw):(l.map zJ).flatten.length=l.length * 8:=by
 induction l with
 | nil=>rfl
 | cons x l a=>simp only [z7,List.flatten_cons,zr,a,List.length_cons,List.length_nil];omega
abbrev qN3 (E:List Rw) (v:V) (a:Bx):Prop:=(v=nilS/\a=[]/\E=[])∨∃ b c,v=.lit (.slice (some ⟨b,0,none⟩) E.length c)/\E.length<=c/\a=[(b,.c ((E.map zJ).flatten++zC ((c - E.length) * 8)))]
theorem qEw (l:List yg) (t:Int) (hl:l.length<=1000000) (hs:∀ x ∈ l,x.kind=1->1<=x.fact.seq):Ok prog 21 [xN l,vint t] [] fun v W rs=>rs=[]/\qN3 (Zv l t) v W:=by
 have hE:∀ E',VP (Q6 l t) (jg l) E'->E'=Zv l t:=fun E' h=>h.unique (qxm l t);generalize Zv l t=E at hE;refine oE func21 fun F w0 I0=>?_;refine qa ?_;refine zB [] _ (zp _) (qse l hl) ?_;rintro v W rs ⟨G,K,c1,rfl,rfl,rfl,af⟩ _;refine qa ?_;refine zB [] [_] (zp _) (qzu l t hl hs) ?_;rintro v W rs ⟨A,g,J,rfl,rfl,rfl,M,al⟩ hN;simp only [List.cons_append,List.nil_append,z7,Jx,js,xb,y8,or_false,qOb,not_false_eq_true,and_true] at hN;have hm:A ≠ G/\G ≠ A:=⟨hN,fun e=>hN e.symm⟩;refine qa ?_;refine fun U hi=>?_;replace hi:=zS hi;try simp only [Nb] at hi
 have d:=aI hm hi;refine qa ?_;refine Qi Ty.mixed (by rfl) (fun x=>(xP g x.1).length) (fun(x:List Nat × List Rw) S=>ve (jH (jg l)) g x.1 x.2/\S.σ 5=.lit (.map (some G))/\S.σ 14=ptr U/\S.rows=[]/\((x.2=[]/\S.σ 4=nilS/\S.boxes=[(U,.it A J x.1 J),(A,.m ksF (qP u4 Xq g) J),(G,.m ksF (qP u4 vU K) c1)]) ∨
  ∃ b c,(x.2.length<=c/\(U ≠ b/\b ≠ U)/\(A ≠ b/\b ≠ A)/\(G ≠ b/\b ≠ G))/\S.σ 4=.lit (.slice (some ⟨b,0,none⟩) x.2.length c)/\S.boxes=[(b,.c ((x.2.map zJ).flatten++zC ((c - x.2.length) * 8))),(U,.it A J x.1 J),(A,.m ksF (qP u4 Xq g) J),(G,.m ksF (qP u4 vU K) c1)])) ([],[])
  ⟨_,_,zc _,zc _,ve.start g,?_⟩ (fun⟨seen,D⟩ S ⟨N,g5,ag,gr,k⟩=>?_)
 ·exact qA
 simp only at N k;have ak:=N.len;rcases k with⟨ah,g4,L⟩ | ⟨b,c,⟨aa,H⟩,g4,L⟩
 ·subst ah;refine qa ?_;refine⟨fun ac=>?_,fun e P Q=>?_⟩
  ·refine qi _ qpo ?_;refine qa ?_;rw [qU] at ac;have ab:=hE [] (Kt M (N.done (by simp_all)) List.Pairwise.nil);exact⟨nilS,[],[],Le.refl _,zn _,zn _,rfl,.inl ⟨rfl,rfl,ab.symm⟩⟩
  ·rw [qU] at P;obtain⟨p,C,rfl⟩:=x9.1 P;have n:=N.step M.apart C;have o:=xW M.apart C;have ad:(seen++[p.1]).getLast? = some p.1:=by simp
   simp only at Q;have R:=zb (cV:=vU) jn p.2.1 K;have I:=af.val p.2.1;obtain⟨z,j,a⟩:=p;simp only at Q n o ad R I;have c2:Xq a=.agg (qq a.asserted::vint a.last.no::vint a.last.tick::vint a.last.kind::(KN a.last.fact++(Up a.last.erasure++cG a.last.change a.last.change.feature.body.hd (kI a.last.change.feature.body.args)))):=rfl;refine qb fun b6 X=>?_;have d:=aI d X;refine qb fun b7 Y=>?_;have d:=aI d Y;refine qb fun b8 Z=>?_;have d:=aI d Z;cases O:a.asserted
   ·have u:jH (jg l) (j,a)=none:=by unfold jH;rw [if_neg (fun h=>by rw [O] at h;cases h.1)]
    refine qa ?_;refine⟨(seen++[z],[]),o,_,[],List.Sublist.cons _ (List.Sublist.cons _ (List.Sublist.cons _ (zc _))),zn _,by simpa [u] using n,?_⟩;exact qA
   ·by_cases w:a.last.fact.kind=3
    ·have e3:(a.last.fact.kind=3)=True:=eq_true w;have u:jH (jg l) (j,a)=none:=by unfold jH;rw [if_neg (fun h=>h.2.1 w)]
     refine qa ?_;refine⟨(seen++[z],[]),o,_,[],List.Sublist.cons _ (List.Sublist.cons _ (List.Sublist.cons _ (zc _))),zn _,by simpa [u] using n,?_⟩;exact qA
    ·simp only [↓rA,rU,g5,L,d,w,simprocAttr];rw [R];cases T:zy K j with
     | some q =>
      have u:jH (jg l) (j,a)=none:=by unfold jH;rw [if_neg (fun h=>by rw [jg,<-I,T] at h;cases h.2.2)]
      rw [qA4];refine qa ?_;refine⟨(seen++[z],[]),o,_,[],List.Sublist.cons _ (List.Sublist.cons _ (List.Sublist.cons _ (zc _))),zn _,by simpa [u] using n,?_⟩;exact qA
     | none =>
      have ae:jH (jg l) (j,a)=some (qvs j a):=by unfold jH;rw [if_pos ⟨O,w,by rw [jg,<-I,T];rfl⟩]
      rw [ae] at n;rw [qI9];refine qa ?_;refine fun y=>jS.r ?_;refine qa ?_;refine fun b c k hc=>?_;replace k:=zS k;simp only [Nb] at k;obtain⟨n8,n7,n6,n1,n2,n3,_⟩:=k;simp only [↓rA,rB,L];refine⟨(seen++[z],[qvs j a]),o,_,[],List.Sublist.cons_cons _ (List.Sublist.cons _ (List.Sublist.cons _ (List.Sublist.cons _ (zc _)))),zn _,n,?_⟩;refine qB ?_;exact⟨b,c,⟨hc,n1,n2,n3⟩,rfl,rfl⟩
 ·refine qa ?_;refine⟨fun ac=>?_,fun e P Q=>?_⟩
  ·refine qa ?_;refine qr [_] [_,_,_] (zp _) (qpp D _ b c (by omega)) ?_;rintro v W rs ⟨rfl,rfl,l',C,aj,rfl⟩;rw [qU] at ac;have ab:=hE l' (Kt M (C.trans (N.done (by simp_all))) aj);refine qa ?_;have ai:E.length=D.length:=by rw [<-ab];exact C.length_eq
   exact⟨_,[_],[],Le.refl _,List.Sublist.cons_cons _ (zn _),zn _,rfl,.inr ⟨b,c,by rw [ai],by omega,by simp_all⟩⟩
  ·rw [qU] at P;obtain⟨p,C,rfl⟩:=x9.1 P;have n:=N.step M.apart C;have o:=xW M.apart C;have ad:(seen++[p.1]).getLast? = some p.1:=by simp
   simp only at Q;have R:=zb (cV:=vU) jn p.2.1 K;have I:=af.val p.2.1;obtain⟨z,j,a⟩:=p;simp only at Q n o ad R I;have c2:Xq a=.agg (qq a.asserted::vint a.last.no::vint a.last.tick::vint a.last.kind::(KN a.last.fact++(Up a.last.erasure++cG a.last.change a.last.change.feature.body.hd (kI a.last.change.feature.body.args)))):=rfl;refine qb fun b6 X=>?_;have d:=aI d X;refine qb fun b7 Y=>?_;have d:=aI d Y;refine qb fun b8 Z=>?_;have d:=aI d Z;cases O:a.asserted
   ·have u:jH (jg l) (j,a)=none:=by unfold jH;rw [if_neg (fun h=>by rw [O] at h;cases h.1)]
    refine qa ?_;refine⟨(seen++[z],D),o,_,[],List.Sublist.cons _ (List.Sublist.cons _ (List.Sublist.cons _ (zc _))),zn _,by simpa [u] using n,?_⟩;refine qB ?_;exact .inr ⟨b,c,⟨aa,H⟩,rfl,rfl⟩
   ·by_cases w:a.last.fact.kind=3
    ·have e3:(a.last.fact.kind=3)=True:=eq_true w;have u:jH (jg l) (j,a)=none:=by unfold jH;rw [if_neg (fun h=>h.2.1 w)]
     refine qa ?_;refine⟨(seen++[z],D),o,_,[],List.Sublist.cons _ (List.Sublist.cons _ (List.Sublist.cons _ (zc _))),zn _,by simpa [u] using n,?_⟩;refine qB ?_;exact .inr ⟨b,c,⟨aa,H⟩,rfl,rfl⟩
    ·simp only [↓rA,rU,g5,L,d,H,w,simprocAttr];rw [R];cases T:zy K j with
     | some q =>
      have u:jH (jg l) (j,a)=none:=by unfold jH;rw [if_neg (fun h=>by rw [jg,<-I,T] at h;cases h.2.2)]
      rw [qA4];refine qa ?_;refine⟨(seen++[z],D),o,_,[],List.Sublist.cons _ (List.Sublist.cons _ (List.Sublist.cons _ (zc _))),zn _,by simpa [u] using n,?_⟩;refine qB ?_;exact .inr ⟨b,c,⟨aa,H⟩,rfl,rfl⟩
     | none =>
      have ae:jH (jg l) (j,a)=some (qvs j a):=by unfold jH;rw [if_pos ⟨O,w,by rw [jg,<-I,T];rfl⟩]
      rw [ae] at n;rw [qI9];refine qa ?_;refine fun y=>jS.r ?_;simp only [↓rA,rU,L,gr,d,H,simprocAttr];have q8:¬ b8=b:=fun e=>Z.2.2.1.1 e.symm;have q7:¬ b7=b:=fun e=>Y.2.1.1 e.symm;have q6:¬ b6=b:=fun e=>X.1.1 e.symm;refine⟨⟨by rw [zr,XH,xC,<-uu];omega,aa,by omega⟩,fun b' c' k hc=>?_⟩;simp only [wo,J0,decide_true,qL3,kA,if_false,List.filter_nil,H,q8,q7,q6,decide_false,qMw,if_true] at k ⊢;replace k:=zS k;simp only [Nb] at k;obtain⟨n8,n7,n6,n1,n2,n3,_⟩:=k;simp only [↓rA,rB,L,d,H];refine⟨(seen++[z],D++[qvs j a]),o,_,[],List.Sublist.cons_cons _ (List.Sublist.cons _ (List.Sublist.cons _ (List.Sublist.cons _ (zc _)))),zn _,n,?_⟩;simp only [rU,g5,ag,zr,simprocAttr];refine .inr ⟨b',c',⟨hc,n1,n2,n3⟩,rfl,?_⟩;rw [qBf (XH D),k8,qK0];rfl
theorem qof {α:Type} {A B:List α} {n:Nat} (h:A.length=n):(A++B).drop n=B:=qK3 h
theorem wa (l:List Rw):((l.map zJ).flatten).length=l.length * 8:=XH l
abbrev fn2 (g:FuncId) (b a:Nat):V:=.lit (.func (.func g) #[] #[.pointer (some ⟨b,0,none⟩),.pointer (some ⟨a,0,none⟩)])
theorem U0 (l:List Rw) (i:Nat) (a:i < l.length) (rest:List V):∃ A B:List V,A.length=i * 8/\(l.map zJ).flatten++rest=A++(zJ l[i]++B):=by
 refine⟨((l.take i).map zJ).flatten,((l.drop (i+1)).map zJ).flatten++rest,?_,?_⟩
 ·rw [wa,kB,qKt (by omega)]
 ·conv=>lhs;rw [<-qBq i l,qGt a]
  simp only [k8,z7,qK0,List.flatten_cons,jm]
def kp (p:Rw->Bool) (l:List Rw):List Rw:=l.filter fun x=>!p x
theorem Qu (p:Rw->Bool) (l:List Rw) (i:Nat) (h:i < l.length):kp p (l.take (i+1))=kp p (l.take i)++(if p l[i]=true then [] else [l[i]]):=by
 unfold kp;rw [zt h,qQo];cases a:p l[i] <;> simp only [J0,List.filter_nil,a,qL3,qMw,if_true,if_false,kA]
theorem XB {p:Rw->Bool}:∀ {l:List Rw},(∀ x ∈ l,p x=false)->kp p l=l
 | [],_=>rfl
 | q::l,h=>by
  unfold kp;simp_all
theorem UL {p:Rw->Bool} {l:List Rw} {i:Nat} (k:i < l.length) (h:∀ j (e:j < i),p (l[j]'(by omega))=false):kp p (l.take i)=l.take i:=by
 refine XB fun q d=>?_;obtain⟨j,a,rfl⟩:=qOk d;rw [kB] at a;rw [List.getElem_take];exact h j (by omega)
theorem qa0 (K l:List Rw) (G:List V) (j:Nat) (a:j < l.length) (rest:List V):∃ X Y:List V,X.length=K.length * 8+G.length/\(K.map zJ).flatten++(G++(((l.drop j).map zJ).flatten++rest))=X++(zJ l[j]++Y)/\X=(K.map zJ).flatten++G/\Y=((l.drop (j+1)).map zJ).flatten++rest:=by
 refine⟨(K.map zJ).flatten++G,((l.drop (j+1)).map zJ).flatten++rest,by rw [zr,wa],?_,rfl,rfl⟩;rw [qGt a];simp only [z7,List.flatten_cons,jm]
theorem U5 (a G Z row:List V) {m:Nat} (h:a.length=m) (d:8<=G.length):(a++G++Z).take m++row++(a++G++Z).drop (m+8)=a++(row++(G.drop 8++Z)):=by
 subst h;rw [jm a G Z,qBf,<-qK1,qK3,qPe d,jm] <;> rfl
theorem qUm (l:List Rw) (p:Rw->Bool) (g:FuncId) (o:Array Value) (b c:Nat) (J:Bx) (G:zg prog g=true) (H:∀ x ∈ l,Ok prog g (.agg (zJ x)::o.toList.map .lit) J fun v a rs=>v=qq (p x)/\a=J/\rs=[]) (rest:List V) (M:l.length<=1000) :
  Ok prog 48 [.lit (.slice (some ⟨b,0,none⟩) l.length c),.lit (.func (.func g) #[] o)] ((b,.c ((l.map zJ).flatten++rest))::J) fun v a rs =>
   a=(b,.c ((l.map zJ).flatten++rest))::J/\rs=[]/\((v=vint (-1)/\∀ i (h:i < l.length),p l[i]=false)∨∃ i,∃ h:i < l.length,v=vint i/\p l[i]=true/\∀ j (C:j < i),p (l[j]'(by omega))=false):=by
 refine oE func48 fun F N K=>?_;refine qa ?_;refine qG Ty.mixed (by rfl) l.length (fun i S=>(∀ j (h:j < l.length),j < i->p l[j]=false)/\S.boxes=(b,.c ((l.map zJ).flatten++rest))::J/\S.rows=[]/\S.σ 0=.lit (.slice (some ⟨b,0,none⟩) l.length c)/\S.σ 1=.lit (.func (.func g) #[] o)/\S.σ 7=vint l.length/\S.σ 8=vint i) ⟨0,?_⟩ (fun i S k ⟨d,z,A,q,u,w,y⟩=>?_) (fun S ⟨d,z,A,q,u,w,y⟩=>?_)
 ·refine qB ?_;simp
 ·obtain⟨X,Y,D,e⟩:=U0 l i k rest;rw [e] at z;simp only [↓rA,rU,z,q,u,w,y,G,zq,k,qof D,simprocAttr];refine qr ((b,.c (X++(zJ l[i]++Y)))::J) [] (by rw [wl];exact zp _) (Ok.frame [(b,.c (X++(zJ l[i]++Y)))] (H l[i] (zs k))) ?_;rintro v a rs ⟨_,rfl,_,rfl,rfl,rfl⟩;cases I:p l[i]
  ·simp only [↓rA,rU,wl,A,q,u,w,y,qv (n:=(i:Int)+1) (by omega) (by omega),simprocAttr];exact⟨0,fun j h C=>if L:j=i then by simp_all else d j h (by omega),by simp_all,rfl⟩
  ·simp only [↓rA,rU,wl,A,simprocAttr];exact⟨_,_,[],Le.refl _,zc _,zn _,by simp_all,rfl,.inr ⟨i,k,rfl,I,fun j C=>d j (by omega) C⟩⟩
 ·refine qn ?_;exact⟨_,_,[],Le.refl _,zc _,zn _,rfl,rfl,.inl ⟨rfl,fun i h=>d i h h⟩⟩
theorem qR7 (l:List Rw) (p:Rw->Bool) (g:FuncId) (C:Array Value) (b c:Nat) (J:Bx) (Q:zg prog g=true) (R:∀ x ∈ l,Ok prog g (.agg (zJ x)::C.toList.map .lit) J fun v z rs=>v=qq (p x)/\z=J/\rs=[]) (rest:List V) (hl:l.length<=1000) (hc:l.length<=c) :
  Ok prog 20 [.lit (.slice (some ⟨b,0,none⟩) l.length c),.lit (.func (.func g) #[] C)] ((b,.c ((l.map zJ).flatten++rest))::J) fun v z rs =>
   rs=[]/\∃ r',v=.lit (.slice (some ⟨b,0,none⟩) (kp p l).length c)/\z=[(b,.c (((kp p l).map zJ).flatten++r'))]:=by
 refine oE func20 fun F w0 I0=>?_;refine qa ?_;refine qr ((b,.c ((l.map zJ).flatten++rest))::J) [] (by rw [wl]) (qUm l p g C b c J Q R rest hl) ?_;rintro v z rs ⟨rfl,rfl,⟨rfl,ah⟩ | ⟨a,M,rfl,ad,ac⟩⟩
 ·have hk:kp p l=l:=XB fun q hq=>by
   obtain⟨j,hj,rfl⟩:=qOk hq;simp_all
  simp only [↓rA,rU,wl,simprocAttr];rw [hk];exact⟨_,[_],[],Le.refl _,List.Sublist.cons_cons _ (zn _),zn _,rfl,rest,rfl,rfl⟩
 ·have af:¬ ((a:Int)=-1):=by omega
  have ae:=UL M ac;have L:kp p (l.take (a+1))=l.take a:=by rw [Qu p l a M,ae,if_pos ad,wl]
  simp only [↓rA,rU,wl,af,qv (n:=(a:Int)+1) (by omega) (by omega),simprocAttr];refine zI Ty.mixed (by rfl) (l.length - (a+1)) (fun i S=>∃ G:List V,G.length=(a+1+i - (kp p (l.take (a+1+i))).length) * 8/\(kp p (l.take (a+1+i))).length < a+1+i/\S.boxes=(b,.c (((kp p (l.take (a+1+i))).map zJ).flatten++(G++(((l.drop (a+1+i)).map zJ).flatten++rest))))::J/\S.rows=[]/\S.σ 0=.lit (.slice (some ⟨b,0,none⟩) l.length c)/\S.σ 1=.lit (.func (.func g) #[] C)/\S.σ 5=vint (kp p (l.take (a+1+i))).length/\S.σ 6=vint ((a+1+i:Nat):Int)) ⟨_,_,_,_,zc _,zc _,zp _,zp _,?_⟩ (fun i S hi ⟨G,o,y,d,H,w,D,k,u⟩=>?_) (fun S ⟨G,o,y,d,H,w,D,k,u⟩=>?_)
  ·simp only [rU,simprocAttr];refine⟨zJ l[a],?_,?_,?_,?_,rfl⟩
   ·rw [L,kB,qKt (by omega),qO0];rfl
   ·rw [L,kB];omega
   ·rw [L]
    conv=>lhs;rw [<-qBq a l,qGt M]
    simp only [k8,z7,qK0,List.flatten_cons,jm]
   ·rw [L,kB,qKt (by omega)]
  ·generalize hj:a+1+i=j at o y d k u;have I:j < l.length:=by omega
   have A:=Qu p l j I;generalize hK:kp p (l.take j)=K at o y d k A;obtain⟨X,Y,hX,e,U,eY⟩:=qa0 K l G j I rest;have aa:X.length=j * 8:=by rw [hX,o];omega
   rw [e] at d;simp only [↓rA,rU,d,H,w,u,zq,I,qof aa,simprocAttr];refine qX fun O W=>?_;simp only [↓rA,rU,d,D,Q,simprocAttr];refine qr ((O,.c (zJ l[j]))::(b,.c (X++(zJ l[j]++Y)))::J) [] (by rw [wl];exact zp _) (Ok.frame [(O,.c (zJ l[j])),(b,.c (X++(zJ l[j]++Y)))] (R l[j] (zs I))) ?_;rintro v z rs ⟨b1,P,_,rfl,ab,rfl⟩;rw [ab] at P;subst P;have T:=qv (n:=(j:Int)+1) (by omega) (by omega);cases hx:p l[j]
   ·have ag:=qv (n:=(K.length:Int)+1) (by omega) (by omega);rw [if_neg (by simp_all)] at A;subst U;have Z:8<=G.length:=by omega
    simp only [↓rA,rU,wl,H,w,k,u,zq,W,T,ag,simprocAttr];refine⟨by omega,?_,?_⟩
    ·simp only [zr,List.length_cons];rw [wa];omega
    refine⟨_,[],_,[],List.Sublist.cons _ (zc _),zn _,zp _,zp _,?_⟩;simp only [rU,w,D,simprocAttr];have N:a+1+(i+1)=j+1:=by omega
    rw [N,A];refine⟨G.drop 8++zJ l[j],?_,?_,?_,?_,?_⟩
    ·simp_all
    ·simp_all
    ·refine congrArg (fun c=>(b,B.c c)::J) ((U5 _ G (zJ l[j]++Y) (zJ l[j]) (wa K) Z).trans ?_);simp_all
    ·simp
    ·rfl
   ·rw [if_pos hx,wl] at A;simp only [↓rA,rU,wl,H,u,T,simprocAttr];refine⟨_,[],_,[],List.Sublist.cons _ (zc _),zn _,zp _,zp _,?_⟩;simp only [rU,w,D,k,simprocAttr];have N:a+1+(i+1)=j+1:=by omega
    rw [N,A];refine⟨G++zJ l[j],?_,by omega,?_,rfl,?_⟩
    ·rw [zr,o];show _+8=_;omega
    ·simp_all
    rfl
  ·have hn:a+1+(l.length - (a+1))=l.length:=by omega
   rw [hn] at o y d k u;rw [xa (w3 _)] at o y d k;rw [qFs (w3 _)] at d;generalize hK:kp p l=K at o y d k;simp only [↓rA,rU,w,k,u,zq,WR,simprocAttr];refine⟨by omega,hc,⟨fun h=>absurd h (by omega),fun h=>?_⟩⟩;refine qa ?_;rw [if_neg (by omega)];refine⟨?_,by omega,?_⟩
   ·simp only [zr,wa,o];omega
   exact⟨_,[_],[],Le.refl _,List.Sublist.cons_cons _ (zn _),zn _,rfl,_,by simp,by rw [qBf (wa K),jm]⟩
noncomputable def Q4 (a:List Tab) (s:Str):Option Tab:=a.find? fun t=>decide (t.name=s)
theorem qbv (c:Cat) (s:Str) (K:c.tables.length<=1000000):zk prog 9 [zO c,vstr s] (.tup [.agg (cTab ((Q4 c.tables s).getD tab0)),qq (Q4 c.tables s).isSome]):=by
 refine oE func9 fun F L I=>?_;refine qb fun A C=>?_;refine qb fun x D=>?_;have w:=aI C D;refine qa ?_;refine zI Ty.mixed (by rfl) c.tables.length (fun i S=>Q4 (c.tables.take i) s=none/\S.boxes=[(x,.c [vstr qH,vstr qH,nilS,vint 0]),(A,.c (qT c))]/\S.rows=[]/\S.σ 1=vstr s/\S.σ 4=ptr x/\S.σ 9=qR c.tables/\S.σ 10=vint c.tables.length/\S.σ 11=vint i) ⟨_,_,_,_,zc _,zc _,zp _,zp _,?_⟩ (fun i S k ⟨a,h,j,d,p,u,n,o⟩=>?_) (fun S ⟨a,h,j,d,p,u,n,o⟩=>?_)
 ·exact qD
 ·have H:=qj k;have z:c.tables.take (i+1)=c.tables.take i++[c.tables[i]]:=zt k;have y:c.tables=c.tables.take i++c.tables[i]::c.tables.drop (i+1):=by rw [<-qGt k,qBq]
  simp only [↓rA,rU,h,j,u,n,o,zq,k,simprocAttr];generalize c.tables[i]=t at z y;refine qX fun J G=>?_;have w:=aI w G;by_cases q:t.name=s
  ·have e:Q4 c.tables s=some t:=by
    unfold Q4 at a ⊢;rw [y,qO7,a];simp [q]
   rw [e];subst q;simp only [↓rA,rU,h,j,d,p,w,simprocAttr];exact qc rfl
  ·simp only [↓rA,rU,h,d,o,q,H,simprocAttr];refine⟨_,_,_,_,(zc _).cons _,zc _,zp _,zp _,?_,rfl,j,d,p,u,n,rfl⟩;unfold Q4 at a ⊢;rw [z,qO7,a];simp [q]
 ·rw [xa (w3 _)] at a;rw [a];refine qn ?_;exact⟨_,[],[],jf (.cons qko (.c1 .nil)),zn _,zn _,rfl,rfl,rfl⟩
noncomputable def Un (c:Cat) (tick:Int) (r:Rw):Bool:=let t:=(Q4 c.tables r.table).getD tab0;!decide (t.keep=0) && decide (IntKind.i64.wrap (r.event+t.keep) < tick)
theorem qBd (c:Cat) (h:c.tables.length<=1000000) (tick:Int) (r:Rw) (d a:Nat) (hb:d ≠ a/\a ≠ d):Ok prog 22 [.agg (zJ r),ptr d,ptr a] [(d,.c (qT c)),(a,.c [vint tick])] fun v e rs=>v=qq (Un c tick r)/\e=[(d,.c (qT c)),(a,.c [vint tick])]/\rs=[]:=by
 refine oE func22 fun F w j=>?_;refine qb fun k o=>?_;refine qi _ (qbv c r.table h) ?_;unfold Un;generalize (Q4 c.tables r.table).getD tab0=t;generalize (Q4 c.tables r.table).isSome=u;refine qb fun n p=>?_;by_cases q:t.keep=0
 ·refine qa ?_;exact⟨_,[_,_],[],Le.refl _,((zc _).cons _).cons _,zn _,by simp [],rfl,rfl⟩
 ·refine qa ?_;exact⟨_,[_,_],[],Le.refl _,((zc _).cons _).cons _,zn _,by simp [],rfl,rfl⟩
theorem qk2 (g:FuncId) (b a:Nat):zk prog 48 [nilS,fn2 g b a] (vint (-1)):=by
 refine oE func48 fun F p e=>?_;refine qa ?_;refine qG Ty.mixed (by rfl) 0 (fun i S=>S.boxes=[]/\S.rows=[]/\S.σ 0=nilS/\S.σ 7=vint 0/\S.σ 8=vint i) ⟨0,?_⟩ (fun i S d=>absurd d (qOe i)) (fun S ⟨n,o,h,j,k⟩=>?_)
 ·exact qA
 ·exact qe
theorem qlv (g:FuncId) (b a:Nat):zk prog 20 [nilS,fn2 g b a] nilS:=by
 refine oE func20 fun F e d=>?_;refine qi _ (qk2 g b a) ?_;exact qe
theorem qin (l:List yg) (tick:Int) (Q:l.length<=1000) (H:∀ e ∈ l,VR e) (J:∀ x ∈ l,x.kind=1->1<=x.fact.seq) (D:(Zv l tick).length<=1000):Ok prog 6 [xN l,vint tick] [] fun v j rs=>(∃ c,KT c/\v=qZ ((Zv l tick).filter fun r=>!Un c tick r))/\j=[]/\rs=[]:=by
 have K:zg prog 22=true:=by kernel_rfl
 refine Ok.mono (Ok.boxP (k:=8) (p:=fun es=>∃ c,KT c/\es=((Zv l tick).filter fun r=>!Un c tick r).map zJ) (fun es ⟨c,_,h⟩ e q=>by rw [h] at q;obtain⟨r,_,rfl⟩:=x9.1 q;rfl) ?_) fun v j rs ⟨⟨es,⟨c,n,q⟩,R⟩,y,z⟩=>⟨⟨c,n,by simp_all⟩,y,z⟩;refine oE func6 fun F S M=>?_;refine qb fun a O=>?_;refine qa ?_;refine qF (qz2 l (by omega) H tick) ?_;rintro v j rs ⟨⟨c,rfl,n⟩,rfl,rfl⟩;refine qb fun d u=>?_;refine qa ?_;refine zB [] _ (zp _) (qEw l tick (by omega) J) ?_;rintro v j rs ⟨rfl,C⟩ G;rcases C with⟨rfl,rfl,N⟩ | ⟨b,o,rfl,w,rfl⟩
 ·refine qi _ (qlv _ d a) ?_;refine qa ?_;exact r0 ⟨rfl,_,⟨c,n,rfl⟩,.inl ⟨by simp_all,rfl,rfl⟩⟩
 ·have P:(b ≠ d/\d ≠ b)/\(b ≠ a/\a ≠ b):=by
   have:b ∉ [d,a]:=(js.1 G).1;simp only [xb,y8,or_false,not_or] at this;exact⟨⟨this.1,qKh this.1⟩,⟨this.2,qKh this.2⟩⟩
  have A:d ≠ a/\a ≠ d:=⟨u.1.2,u.1.1⟩;refine qa ?_;refine qr [_,_,_] [] (zp _) (qR7 (Zv l tick) (Un c tick) _ #[.pointer (some ⟨d,0,none⟩),.pointer (some ⟨a,0,none⟩)] b o [(d,.c (qT c)),(a,.c [vint tick])] K (fun r _=>qBd c (km n.1.lt (by decide)) tick r d a A) _ D w) ?_;rintro v j rs ⟨rfl,L,rfl,rfl⟩;refine qa ?_;have I:((kp (Un c tick) (Zv l tick)).map zJ).length<=o:=by
   rw [zz];exact km (qMu _ _) w
  exact⟨_,[_],[],Le.refl _,zc _,zn _,rfl,(kp (Un c tick) (Zv l tick)).map zJ,⟨c,n,rfl⟩,.inr ⟨b,o,L,I,by simp,rfl⟩⟩
end Go.Proofs.YtkdgbjhbpbgdeaaGreatDoor
open Go.Nm Go.Sg
namespace Go.Nv
abbrev qCj:Str:=⟨#[43]⟩
abbrev qwl:Str:=⟨#[45]⟩
abbrev qCi:Str:=⟨#[42]⟩
abbrev qLf:Str:=⟨#[47]⟩
abbrev oEq:Str:=⟨#[61,61]⟩
abbrev oNe:Str:=⟨#[33,61]⟩
abbrev oLt:Str:=⟨#[60]⟩
abbrev oLe:Str:=⟨#[60,61]⟩
abbrev qLg:Str:=⟨#[97,110,100]⟩
abbrev oOr:Str:=⟨#[111,114]⟩
abbrev qLc:Str:=⟨#[110,117,108,108]⟩
abbrev qNa:Str:=⟨#[110,111,116]⟩
abbrev qdp:Str:=⟨#[99,111,117,110,116]⟩
abbrev qHp:Str:=⟨#[100,105,115,116,105,110,99,116]⟩
abbrev qAc:Str:=⟨#[102,105,114,115,116]⟩
abbrev jD:Str:=⟨#[108,97,115,116]⟩
abbrev qL8:Str:=⟨#[109,105,110]⟩
abbrev qL9:Str:=⟨#[109,97,120]⟩
abbrev JE:Str:=⟨#[115,117,109]⟩
abbrev QZ:Str:=⟨#[109,101,97,110]⟩
abbrev XN:Str:=⟨#[100,101,99,97,121]⟩
abbrev QG:Str:=⟨#[113,117,97,110,116,105,108,101]⟩
def jb (n:Int):Bool:=decide (0<=n) && decide (n<=1099511627776)
def Qk (b:Bool):Val:=⟨1,if b then 1 else 0,qH⟩
def uH (v:Val):Bool:=decide (v=⟨1,1,qH⟩)
def noV (v:Val):Bool:=decide (v=⟨1,0,qH⟩)
def vF (v:Val):Bool:=decide (v.kind=2) || decide (v.kind=3)
def Zm (k:Int):Option Int->Val
 | some n=>⟨k,n,qH⟩
 | none=>val0
def XD (k w d:Int):Val:=Zm k (qe4 w d)
def fineV (v:Val):Int:=if v.kind=2 then v.n * 1000000 else v.n
def yP (n:Int):Bool:=decide (-1152921504606846976<=n) && decide (n<=1152921504606846976)
def wG (a b:Int):Option Int:=if yP a && yP b && yP (a+b) then some (a+b) else none
def yQ (a b:Int):Option Int:=if yP a && yP b then wG a (-b) else none
def qnm (p z:Nat):Nat:=if z < 2 * (p % z)∨(2 * (p % z)=z/\p / z % 2=1) then (p / z+1) % 18446744073709551616 else p / z
def qey (a b d:Int):Option Int :=
 let p:=a.natAbs * b.natAbs
 if d.natAbs<=p / 18446744073709551616 then none
 else if 1152921504606846976 < qnm p d.natAbs then none
 else some (if xor (xor (decide (a < 0)) (decide (b < 0))) (decide (d < 0)) then -(qnm p d.natAbs:Int) else (qnm p d.natAbs:Int))
def XE (a b:Int):Option Int:=if yP a && yP b then qey a b 1000000 else none
def XF (a b:Int):Option Int:=if yP a && yP b && decide (b ≠ 0) then qey a 1000000 b else none
def QV (n:Int):Option Int:=if n < -1152921504606∨1152921504606 < n then none else some (n * 1000000)
def Jv (v:Val):Option Int:=if v.kind=2 then QV v.n else some v.n
def Qa (op:Str) (a b:Val):Val :=
 if a.kind=2/\b.kind=2 then
  if op=qCj then XD 2 (a.n+b.n) 1 else if op=qwl then XD 2 (a.n - b.n) 1 else if op=qCi then XD 2 (a.n * b.n) 1 else XD 3 (fineV a) b.n
 else match Jv a,Jv b with
  | some x,some y=>Zm 3 (if op=qCj then wG x y else if op=qwl then yQ x y else if op=qCi then XE x y else if op=qLf then XF x y else none)
  | _,_=>val0
def j0 (op:Str) (n:Int):Bool:=(decide (op=oEq) && decide (n=0)) || (decide (op=oNe) && decide (n ≠ 0)) || (decide (op=oLt) && decide (n < 0)) || (decide (op=oLe) && decide (n<=0))
def uf (a b:Val) (op:Str):Val :=
 if vF a && vF b then Qk (j0 op (cmpI (fineV a) (fineV b)))
 else if a.kind ≠ b.kind∨a.kind=0 then val0
 else if a.kind ≠ 4/\(op=oLt∨op=oLe) then val0
 else Qk (j0 op (cmpVal a b))
def qmh (op:Str) (a b:Val):Val :=
 let known:=decide (a.kind=1) && decide (b.kind=1)
 if op=qLg then (if noV a || noV b then Qk false else Zm 1 (if known then some 1 else none))
 else if op=oOr then (if uH a || uH b then Qk true else Zm 1 (if known then some 0 else none))
 else if op=oEq∨op=oNe∨op=oLt∨op=oLe then uf a b op
 else if vF a && vF b then Qa op a b else val0
def unV (op:Str) (a:Val):Val :=
 if op=qLc then Qk (decide (a.kind=0)) else if op=qNa/\a.kind=1 then Qk (!uH a) else if op=qwl/\vF a=true then ⟨a.kind,IntKind.i64.wrap (-a.n),qH⟩ else val0
def xV (k:Int):Nat:=if k=6 then 1 else if k=7 then 2 else if k=8 then 3 else if k=9 then 2 else 0
def yL (h:Hd) (vs:List Val):Val :=
 if xV h.kind=0∨xV h.kind ≠ vs.length then val0
 else if h.kind=6 then unV h.op (vs.getD 0 val0)
 else if h.kind=7 then qmh h.op (vs.getD 0 val0) (vs.getD 1 val0)
 else if h.kind=8 then (if uH (vs.getD 0 val0) then vs.getD 1 val0 else vs.getD 2 val0)
 else if (vs.getD 0 val0).kind=0 then vs.getD 1 val0 else vs.getD 0 val0
def qDs (t:Tab) (r:Rw) (n:Str):Val:=if t.fields.findIdx (fun f=>decide (f.name=n)) < t.fields.length then r.fields.getD (t.fields.findIdx fun f=>decide (f.name=n)) val0 else val0
mutual
def jT (t:Tab) (r:Rw):E->Val
 | .mk h l=>if h.kind=1 then h.val else if h.kind=2 then qDs t r h.name else yL h (rowXs t r l)
def rowXs (t:Tab) (r:Rw):List E->List Val
 | []=>[]
 | x::l=>jT t r x::rowXs t r l
end
theorem U1 (t:Tab) (r:Rw):∀ l:List E,rowXs t r l=l.map (jT t r)
 | []=>rfl
 | x::l=>by simp only [rowXs,z7,U1 t r l]
theorem qnn (t:Tab) (r:Rw) (h:Hd) (l:List E):jT t r (.mk h l)=if h.kind=1 then h.val else if h.kind=2 then qDs t r h.name else yL h (l.map (jT t r)):=by
 rw [jT,U1]
def ud (c:Cat) (n:Str):Option Tab:=c.tables.find? fun t=>decide (t.name=n)
def uJ (k s:Int):Bool:=if k=1 then decide (s=0) else if k=2∨k=3∨k=4 then decide (1<=s) && decide (s<=1099511627776) else false
def xL (k s t:Int):Option (Int × Int) :=
 if uJ k s && jb t then (if k=1 then some (0,t) else if k=2 then some (max 0 (t - s+1),t) else if k=3 then some (t - t.tmod s,t) else none) else none
def qHk (xs:List Int) (g:Int):Nat->Nat
 | 0=>0
 | i+1=>if xs.getD (i+1) 0 - xs.getD i 0<=g then qHk xs g i else i+1
def qK6 (xs:List Int) (g t:Int):Option (Int × Int) :=
 if xs=[]∨g < 1∨1099511627776 < g∨jb t=false then none
 else if t - xs.getD (xs.length - 1) 0<=g then some (xs.getD (qHk xs g (xs.length - 1)) 0,xs.getD (xs.length - 1) 0) else none
def QY (tb:Tab) (h:Hd) (a b:E) (key:Str) (t:Int) (r:Rw):Bool :=
 decide (r.table=h.table) && (decide (r.key=key) && (decide (r.event<=t) && (uH (jT tb r b) && !decide ((jT tb r a).kind=0))))
def Wo (c:Cat) (rows:List Rw) (h:Hd) (l:List E) (key:Str) (t:Int):List Rw :=
 match ud c h.table,l with
 | some d,[a,b]=>if h.kind=5/\jb t=true then rows.filter (QY d h a b key t) else []
 | _,_=>[]
def qni (h:Hd) (evs:List Int) (t:Int):Option (Int × Int):=if h.wk=4 then qK6 evs h.ws t else xL h.wk h.ws t
def zW (c:Cat) (rows:List Rw) (h:Hd) (l:List E) (key:Str) (t:Int):List Rw :=
 match qni h ((Wo c rows h l key t).map (·.event)) t with
 | some (a,z)=>(Wo c rows h l key t).filter fun r=>!(decide (r.event < a) || decide (z < r.event))
 | none=>[]
def uc (half a:Int):Int:=if half < 1∨1073741824 < half∨a < 0∨32<=a / half then 0 else ((2 * half - a % half) * 2147483648 / half) / 2 ^ (a / half).toNat
def sumW (l:List Int):Int:=l.foldl (fun s x=>ww (s+x)) 0
def Z3 (i:Nat):Nat:=(i - 32 * (i / 32 - 1)) * 2 ^ (i / 32 - 1)
def Jr (i:Int):Int:=if i < -1888∨1887 < i then 0 else if i < 0 then -(Z3 (-i).toNat:Int) else Z3 i.toNat
def yw (l:List Val):List Val:=l.foldl (fun m v=>if v ∈ m then m else m++[v]) []
def qcp (v:Val):List Val->List Val
 | []=>[v]
 | x::r=>if cmpVal v x<=0 then v::x::r else x::qcp v r
def yJ:List Val->List Val
 | []=>[]
 | v::r=>qcp v (yJ r)
def qvy (p:Int) (n:Nat):Nat:=min n (max 1 (IntKind.i64.wrap ((IntKind.i64.wrap (IntKind.i64.wrap (p * (n:Int))+999)).tdiv 1000)).toNat)
def qh1 (h:Hd) (l:List Val) (evs:List Int) (t:Int):Val :=
 if h.op=qdp then ⟨2,l.length,qH⟩
 else if h.op=qHp then ⟨2,(yw l).length,qH⟩
 else if l=[] then val0
 else if h.op=qAc then l.getD 0 val0
 else if h.op=jD then l.getD (l.length - 1) val0
 else if h.op=qL8 then (yJ l).getD 0 val0
 else if h.op=qL9 then (yJ l).getD (l.length - 1) val0
 else if vF (l.getD 0 val0)=false∨l.any (fun v=>!decide (v.kind=(l.getD 0 val0).kind))=true then val0
 else if h.op=JE then XD (l.getD 0 val0).kind (sumW (l.map (·.n))) 1
 else if h.op=QZ then XD 3 (sumW (l.map fineV)) l.length
 else if h.op=XN then XD 3 (sumW ((l.zip evs).map fun p=>ww (fineV p.1 * uc h.param (t - p.2)))) 4294967296
 else if h.op=QG then ⟨(l.getD 0 val0).kind,Jr (qk5 ((yJ l).getD (qvy h.param l.length - 1) val0).n),qH⟩
 else val0
def VE (c:Cat) (rows:List Rw) (t:Int) (h:Hd) (l:List E) (key:Str):Val :=
 match ud c h.table with
 | some a=>qh1 h ((zW c rows h l key t).map fun r=>jT a r (l.getD 0 exp0)) ((zW c rows h l key t).map (·.event)) t
 | none=>val0
def VF (c:Cat) (rows:List Rw) (t:Int) (h:Hd) (l:List E) (key:Str) (i:FID):Prop:=∃ a,ud c h.table=some a/\∃ r ∈ zW c rows h l key t,r.id=i
def evH (d:Str->Str->Val) (h:Hd) (vs:List Val) (a:Val) (key:Str):Val :=
 if h.kind=1 then h.val else if h.kind=3 then d h.name key
 else if h.kind=4 then (if vs.length ≠ 1 then val0 else if (vs.getD 0 val0).kind ≠ 5 then val0 else d h.name (vs.getD 0 val0).s)
 else if h.kind=5 then a else yL h vs
def idH (feaI:Str->Str->FID->Prop) (h:Hd) (vs:List Val) (is:List (FID->Prop)) (a:FID->Prop) (key:Str) (i:FID):Prop :=
 if h.kind=1 then False else if h.kind=3 then feaI h.name key i
 else if h.kind=4 then vs.length=1/\(is.getD 0 (fun _=>False) i∨((vs.getD 0 val0).kind=5/\feaI h.name (vs.getD 0 val0).s i))
 else if h.kind=5 then a i
 else xV h.kind ≠ 0/\xV h.kind=vs.length/\(is.getD 0 (fun _=>False) i ∨
  (
    if h.kind=7 then is.getD 1 (fun _=>False) i else if h.kind=8 then (if uH (vs.getD 0 val0) then is.getD 1 (fun _=>False) i else is.getD 2 (fun _=>False) i)
    else h.kind=9/\(vs.getD 0 val0).kind=0/\is.getD 1 (fun _=>False) i))
section
variable (c:Cat) (rows:List Rw) (t:Int)
mutual
def jt (a:Str->Str->Val):E->Str->Val
 | .mk h l,key=>evH a h (evXs a l key) (VE c rows t h l key) key
def evXs (a:Str->Str->Val):List E->Str->List Val
 | [],_=>[]
 | x::r,key=>jt a x key::evXs a r key
end
mutual
def W8 (a:Str->Str->Val) (feaI:Str->Str->FID->Prop):E->Str->FID->Prop
 | .mk h l,key=>idH feaI h (evXs c rows t a l key) (idXs a feaI l key) (VF c rows t h l key) key
def idXs (a:Str->Str->Val) (feaI:Str->Str->FID->Prop):List E->Str->List (FID->Prop)
 | [],_=>[]
 | x::r,key=>W8 a feaI x key::idXs a feaI r key
end
def XC:Nat->Str->Str->Val
 | 0,_,_=>val0
 | n+1,name,key=>match c.features.find? fun f=>decide (f.name=name) with
  | some f=>jt c rows t (XC n) f.body key
  | none=>val0
def feaI:Nat->Str->Str->FID->Prop
 | 0,_,_,_=>False
 | n+1,name,key,i=>match c.features.find? fun f=>decide (f.name=name) with
  | some f=>W8 c rows t (XC c rows t n) (feaI n) f.body key i
  | none=>False
end
end Go.Nv
namespace Go.Proofs.YtkdgbjhbpbgdeaaGreatDoor
open Arr
theorem fb {a b:Bool} (h:a=b):V.lit (.bool a)=qq b:=by rw [h]
theorem qec (n:Int):zk prog 54 [vint n] (qq (jb n)):=by
 refine oE func54 fun F d a=>?_;refine qa ?_;unfold jb;by_cases h:0<=n
 ·exact qe (h:=fb (by simp []))
 ·exact qe (h:=fb (by simp []))
theorem xr (b:Bool):zk prog 102 [qq b] (.agg (qS (Qk b))):=by
 refine oE func102 fun F h a=>?_;refine qb fun d e=>?_;cases b
 ·exact qe
 ·exact qe
theorem qnb (v w:Val):v=w↔v.kind=w.kind/\v.n=w.n/\v.s=w.s:=by
 cases v;cases w;simp
theorem XT (v:Val):zk prog 56 [.agg (qS v)] (qq (uH v)):=by
 refine oE func56 fun F h a=>?_;refine qb fun d e=>?_;refine qa ?_;exact qc (fb (by unfold uH;rw [qOg];simp [qnb]))
theorem qwn (v:Val):zk prog 104 [.agg (qS v)] (qq (noV v)):=by
 refine oE func104 fun F h a=>?_;refine qb fun d e=>?_;refine qa ?_;exact qc (fb (by unfold noV;rw [qOg];simp [qnb]))
theorem j4 (v:Val):zk prog 103 [.agg (qS v)] (qq (vF v)):=by
 refine oE func103 fun F j a=>?_;refine qb fun d e=>?_;unfold vF;by_cases h:v.kind=2
 ·exact qe (h:=fb (by simp []))
 ·exact qe (h:=fb (by simp []))
theorem yy (k n:Int) (o:Bool):zk prog 105 [vint k,vint n,qq o] (.agg (qS (Zm k (if o then some n else none)))):=by
 refine oE func105 fun F h a=>?_;refine qb fun d e=>?_;cases o
 ·exact qe
 ·exact qe
theorem wF (k w d:Int) (e:-170141183460469231731687303715884105728 < w/\w < 170141183460469231731687303715884105728) (hd:x5 d):zk prog 156 [vint k,.agg (cW w),vint d] (.agg (qS (XD k w d))):=by
 have a:=yy k;refine oE func156 fun F u h=>?_;refine qb fun j o=>?_;refine qb fun n p=>?_;refine qi _ (J1 w d e hd) ?_;unfold XD;generalize qe4 w d=q;refine qi _ (a (q.getD 0) q.isSome) ?_;refine qa ?_;refine qc ?_;cases q <;> rfl
theorem KC (v:Val) (a:x5 v.n):zk prog 153 [.agg (qS v)] (.agg (cW (fineV v))):=by
 refine oE func153 fun F o d=>?_;refine qb fun e k=>?_;refine qb fun j n=>?_;unfold fineV;by_cases h:v.kind=2
 ·rw [if_pos h];refine qa ?_;refine qo _ (qm9 v.n 1000000 a (by unfold x5;omega)) ?_;rw [ui (show ki (v.n * 1000000) by unfold ki;unfold x5 at a;omega)];exact qe
 ·rw [if_neg h];refine qi _ (Xp v.n a) ?_;exact qe
theorem qyf (a b:Int):zk prog 166 [.agg (cW a),.agg (cW b)] (vint (cmpI a b)):=by
 have d:∀ {x y:Int},x=y->V.lit (.int .i64 x)=vint y:=fun h=>by rw [h]
 refine oE func166 fun F D u=>?_;refine qb fun w p=>?_;refine qb fun A q=>?_;have o:=aI p q;by_cases e:a=b
 ·subst e;exact qe (h:=d (by simp [cmpI]))
 ·have z:(decide (a / 18446744073709551616=b / 18446744073709551616) && decide (a % 18446744073709551616=b % 18446744073709551616))=false:=by
   rw [<-Bool.not_eq_true,k7,decide_eq_true_eq,decide_eq_true_eq];omega
  by_cases C:a / 18446744073709551616 < b / 18446744073709551616
  ·refine qa ?_;exact qc (d (by unfold cmpI;omega))
  ·by_cases j:a / 18446744073709551616=b / 18446744073709551616
   ·rw [j] at z;have n:¬ a % 18446744073709551616=b % 18446744073709551616:=by omega
    by_cases k:a % 18446744073709551616 < b % 18446744073709551616
    ·simp only [↓rA,rU,o,j,k,n,qRn,simprocAttr];refine qc (d ?_);unfold cmpI;omega
    ·simp only [↓rA,rU,o,j,k,n,qRn,simprocAttr];refine qc (d ?_);unfold cmpI;omega
   ·refine qa ?_;refine qc (d ?_);unfold cmpI;omega
theorem qhe (op:Str) (a b:Val) (Z:x5 a.n) (hb:x5 b.n):zk prog 106 [vstr op,.agg (qS a),.agg (qS b)] (.agg (qS (uf a b op))):=by
 have af:∀ {X:Bx} {Y:List VL.Row},∃ v L P,Le (.agg [vint 0,vint 0,vstr qH]) v/\L.Sublist X/\P.Sublist Y/\v=.agg (qS val0)/\L=[]/\P=[]:=qc rfl;have ac:=j4 a;have M:=j4 b;have aa:=KC a Z;have ab:=KC b hb;have z:=qa5 a b;refine oE func106 fun F w0 I0=>?_;refine qb fun Q T=>?_;refine qb fun R U=>?_;refine qb fun K W=>?_;have x:=aI T (aI U W);simp only [↓qJ,z7,Jx,List.toList_toArray,results106];rw [zu];simp only [↓wh,↓qJ,↓zx,↓zA,zw,qu,xY];rw [zu];refine xe (fun S=>∃ n,uf a b op=Qk (j0 op n)/\S.boxes=[(K,.c [vint 0,vint 0,vstr qH]),(R,.c (qS b)),(Q,.c (qS a))]/\S.rows=[]/\S.σ 0=vstr op/\S.σ 6=ptr K/\S.σ 7=vint n) ?_ ?_
 ·refine qi _ ac ?_;by_cases J:vF a=true/\vF b=true
  ·have e:uf a b op=Qk (j0 op (cmpI (fineV a) (fineV b))):=by unfold uf;rw [J.1,J.2];rfl
   refine qi _ M ?_;refine qa ?_;refine qt _ aa.v ?_;refine qa ?_;refine qt _ ab.v ?_;refine qa ?_;refine qt _ (qyf _ _).v ?_;refine qa ?_;simp_all
  ·have A:(vF a && vF b)=false:=by
    rw [qOh,ne_eq,k7];exact J
   have p:uf a b op=(if a.kind ≠ b.kind∨a.kind=0 then val0 else if a.kind ≠ 4/\(op=oLt∨op=oLe) then val0 else Qk (j0 op (cmpVal a b))):=by
    unfold uf;rw [A];rfl
   have rest:∀ (t:Bool),t=(vF a && vF b)->t=false:=fun t h=>h.trans A;cases r1:vF a
   ·refine qa ?_;by_cases o:a.kind=b.kind
    case neg =>
     have e:uf a b op=val0:=by rw [p,if_pos (.inl o)]
     rw [e];simp only [↓rA,rU,o,simprocAttr];exact qc rfl
    by_cases d:a.kind=0
    ·have e:uf a b op=val0:=by rw [p,if_pos (.inr d)]
     have H:b.kind=0:=o▸d;rw [e];simp only [↓rA,rU,x,H,d,simprocAttr];exact qc rfl
    have y:(a.kind=b.kind)=True:=eq_true o;have I:¬ (a.kind ≠ b.kind∨a.kind=0):=fun h=>h.elim (fun h=>h o) d;have ad:¬ b.kind=0:=fun h=>d (o.trans h);rw [if_neg I] at p;by_cases k:a.kind=4
    ·have e:uf a b op=Qk (j0 op (cmpVal a b)):=by rw [p,if_neg fun h=>h.1 k]
     have C:(a.kind=4)=True:=eq_true k;simp only [↓rA,rU,x,y,d,C,simprocAttr];refine qo _ z ?_;refine qa ?_;simp_all
    have ae:¬ b.kind=4:=fun h=>k (o.trans h);by_cases q:op=(⟨#[60]⟩:Str)
    ·have e:uf a b op=val0:=by rw [p,if_pos ⟨k,.inl q⟩]
     have D:(op=(⟨#[60]⟩:Str))=True:=eq_true q;rw [e];simp only [↓rA,rU,x,y,d,k,D,simprocAttr];exact qc rfl
    by_cases u:op=(⟨#[60,61]⟩:Str)
    ·have e:uf a b op=val0:=by rw [p,if_pos ⟨k,.inr u⟩]
     have G:(op=(⟨#[60,61]⟩:Str))=True:=eq_true u;rw [e];simp only [↓rA,rU,x,y,d,k,q,G,simprocAttr];exact qc rfl
    have e:uf a b op=Qk (j0 op (cmpVal a b)):=by rw [p,if_neg fun h=>h.2.elim q u]
    simp only [↓rA,rU,x,y,d,k,q,u,simprocAttr];refine qo _ z ?_;refine qa ?_;simp_all
   ·have r2:vF b=false:=by rw [r1] at A;simpa using A
    refine qi _ M ?_;refine qa ?_;by_cases o:a.kind=b.kind
    case neg =>
     have e:uf a b op=val0:=by rw [p,if_pos (.inl o)]
     rw [e];simp only [↓rA,rU,o,simprocAttr];exact qc rfl
    by_cases d:a.kind=0
    ·have e:uf a b op=val0:=by rw [p,if_pos (.inr d)]
     have H:b.kind=0:=o▸d;rw [e];simp only [↓rA,rU,x,H,d,simprocAttr];exact qc rfl
    have y:(a.kind=b.kind)=True:=eq_true o;have I:¬ (a.kind ≠ b.kind∨a.kind=0):=fun h=>h.elim (fun h=>h o) d;have ad:¬ b.kind=0:=fun h=>d (o.trans h);rw [if_neg I] at p;by_cases k:a.kind=4
    ·have e:uf a b op=Qk (j0 op (cmpVal a b)):=by rw [p,if_neg fun h=>h.1 k]
     have C:(a.kind=4)=True:=eq_true k;simp only [↓rA,rU,x,y,d,C,simprocAttr];refine qo _ z ?_;refine qa ?_;simp_all
    have ae:¬ b.kind=4:=fun h=>k (o.trans h);by_cases q:op=(⟨#[60]⟩:Str)
    ·have e:uf a b op=val0:=by rw [p,if_pos ⟨k,.inl q⟩]
     have D:(op=(⟨#[60]⟩:Str))=True:=eq_true q;rw [e];simp only [↓rA,rU,x,y,d,k,D,simprocAttr];exact qc rfl
    by_cases u:op=(⟨#[60,61]⟩:Str)
    ·have e:uf a b op=val0:=by rw [p,if_pos ⟨k,.inr u⟩]
     have G:(op=(⟨#[60,61]⟩:Str))=True:=eq_true u;rw [e];simp only [↓rA,rU,x,y,d,k,q,G,simprocAttr];exact qc rfl
    have e:uf a b op=Qk (j0 op (cmpVal a b)):=by rw [p,if_neg fun h=>h.2.elim q u]
    simp only [↓rA,rU,x,y,d,k,q,u,simprocAttr];refine qo _ z ?_;refine qa ?_;simp_all
 rintro S ⟨n,e,gb,gr,g0,g6,g7⟩;rw [e];by_cases N:op=(⟨#[61,61]⟩:Str)
 ·subst N;have f1:¬ (⟨#[61,61]⟩:Str)=⟨#[33,61]⟩:=by decide
  have f2:¬ (⟨#[61,61]⟩:Str)=⟨#[60]⟩:=by decide
  have f3:¬ (⟨#[61,61]⟩:Str)=⟨#[60,61]⟩:=by decide
  by_cases w:n=0
  ·have j:j0 ⟨#[61,61]⟩ n=true:=by simp [j0,f1,f2,f3,w]
   rw [j];refine qi _ (xr _) ?_;exact qe
  ·have j:j0 ⟨#[61,61]⟩ n=false:=by simp [j0,f1,f2,f3,w]
   rw [j];refine qi _ (xr _) ?_;exact qe
 by_cases q:op=(⟨#[33,61]⟩:Str)
 ·subst q;have f0:¬ (⟨#[33,61]⟩:Str)=⟨#[61,61]⟩:=by decide
  have f2:¬ (⟨#[33,61]⟩:Str)=⟨#[60]⟩:=by decide
  have f3:¬ (⟨#[33,61]⟩:Str)=⟨#[60,61]⟩:=by decide
  by_cases w:n=0
  ·have j:j0 ⟨#[33,61]⟩ n=false:=by simp [j0,f0,f2,f3,w]
   rw [j];refine qi _ (xr _) ?_;exact qe
  ·have j:j0 ⟨#[33,61]⟩ n=true:=by simp [j0,f0,f2,f3,w]
   rw [j];refine qi _ (xr _) ?_;exact qe
 by_cases u:op=(⟨#[60]⟩:Str)
 ·subst u;have f0:¬ (⟨#[60]⟩:Str)=⟨#[61,61]⟩:=by decide
  have f1:¬ (⟨#[60]⟩:Str)=⟨#[33,61]⟩:=by decide
  have f3:¬ (⟨#[60]⟩:Str)=⟨#[60,61]⟩:=by decide
  by_cases w:n < 0
  ·have j:j0 ⟨#[60]⟩ n=true:=by simp [j0,f0,f1,f3,w]
   rw [j];refine qi _ (xr _) ?_;exact qe
  ·have j:j0 ⟨#[60]⟩ n=false:=by simp [j0,f0,f1,f3,w]
   rw [j];refine qi _ (xr _) ?_;exact qe
 by_cases O:op=(⟨#[60,61]⟩:Str)
 ·subst O;have f0:¬ (⟨#[60,61]⟩:Str)=⟨#[61,61]⟩:=by decide
  have f1:¬ (⟨#[60,61]⟩:Str)=⟨#[33,61]⟩:=by decide
  have f2:¬ (⟨#[60,61]⟩:Str)=⟨#[60]⟩:=by decide
  by_cases w:n<=0
  ·have j:j0 ⟨#[60,61]⟩ n=true:=by simp [j0,f0,f1,f2,w]
   rw [j];refine qi _ (xr _) ?_;exact qe
  ·have j:j0 ⟨#[60,61]⟩ n=false:=by simp [j0,f0,f1,f2,w]
   rw [j];refine qi _ (xr _) ?_;exact qe
 have j:j0 op n=false:=by simp [j0,N,q,u,O]
 rw [j];refine qi _ (xr _) ?_;exact qe
theorem qpa (op:Str) (a:Val):zk prog 68 [vstr op,.agg (qS a)] (.agg (qS (unV op a))):=by
 have y:=j4 a;have z:=XT a;have c1:¬ (⟨#[110,111,116]⟩:Str)=⟨#[110,117,108,108]⟩:=by decide
 have o:¬ (⟨#[45]⟩:Str)=⟨#[110,117,108,108]⟩:=by decide
 have p:¬ (⟨#[45]⟩:Str)=⟨#[110,111,116]⟩:=by decide
 have q:¬ (⟨#[110,111,116]⟩:Str)=⟨#[45]⟩:=by decide
 refine oE func68 fun F G A=>?_;refine qb fun C u=>?_;refine qb fun D w=>?_;have x:=aI u w;by_cases d:op=(⟨#[110,117,108,108]⟩:Str)
 ·subst d;have e:unV ⟨#[110,117,108,108]⟩ a=Qk (decide (a.kind=0)):=by unfold unV;rw [if_pos rfl]
  rw [e];refine qi _ (xr _) ?_;exact qe
 by_cases j:op=(⟨#[110,111,116]⟩:Str)
 ·subst j;by_cases k:a.kind=1
  ·have K:(a.kind=1)=True:=eq_true k;have e:unV ⟨#[110,111,116]⟩ a=Qk (!uH a):=by unfold unV;rw [if_neg c1,if_pos ⟨rfl,k⟩]
   rw [e];simp only [↓rA,rU,x,c1,K,simprocAttr];refine qo _ z ?_;refine qi _ (xr _) ?_;exact qe
  ·have e:unV ⟨#[110,111,116]⟩ a=val0:=by unfold unV;rw [if_neg c1,if_neg fun h=>k h.2,if_neg fun h=>q h.1]
   rw [e];exact qe
 by_cases n:op=(⟨#[45]⟩:Str)
 ·subst n;have e:unV ⟨#[45]⟩ a=if vF a=true then ⟨a.kind,IntKind.i64.wrap (-a.n),qH⟩ else val0:=by
   unfold unV;rw [if_neg o,if_neg fun h=>p h.1];simp
  rw [e];refine qi _ y ?_;cases vF a
  ·exact qe
  ·exact qe (h:=by simp)
 ·have e:unV op a=val0:=by unfold unV;rw [if_neg d,if_neg fun h=>j h.1,if_neg fun h=>n h.1]
  rw [e];exact qe
abbrev CalcOk:Prop:=∀ (op:Str) (a b:Val),x5 a.n->x5 b.n->zk prog 107 [vstr op,.agg (qS a),.agg (qS b)] (.agg (qS (Qa op a b)))
theorem qmf (R:CalcOk) (op:Str) (a b:Val) (y:x5 a.n) (hb:x5 b.n):zk prog 69 [vstr op,.agg (qS a),.agg (qS b)] (.agg (qS (qmh op a b))):=by
 have U:=j4 a;have W:=j4 b;have Z:=XT a;have aa:=XT b;have X:=qwn a;have Y:=qwn b;have j:=qhe op a b y hb;have T:=R op a b y hb;refine oE func69 fun F w0 I0=>?_;refine qb fun n O=>?_;refine qb fun o P=>?_;refine qb fun p Q=>?_;have hh:=aI O (aI P Q);simp only [↓qJ,z7,Jx,List.toList_toArray,results69];rw [zu];refine xe (fun S=>S.boxes=[(p,.c [vint 0,vint 0,vstr qH]),(o,.c (qS b)),(n,.c (qS a))]/\S.rows=[]/\S.σ 0=vstr op/\S.σ 4=ptr n/\S.σ 5=ptr o/\S.σ 6=ptr p/\S.σ 7=qq (decide (a.kind=1) && decide (b.kind=1))) ?_ ?_
 ·by_cases k:a.kind=1
  ·have K:(a.kind=1)=True:=eq_true k;exact kK
  ·exact kK
 rintro S ⟨gb,gr,g0,g4,g5,g6,N⟩;have z:qmh op a b=(if op=qLg then (if noV a || noV b then Qk false else Zm 1 (if decide (a.kind=1) && decide (b.kind=1) then some 1 else none)) else if op=oOr then (if uH a || uH b then Qk true else Zm 1 (if decide (a.kind=1) && decide (b.kind=1) then some 0 else none)) else if op=oEq∨op=oNe∨op=oLt∨op=oLe then uf a b op else if vF a && vF b then Qa op a b else val0):=rfl;generalize (decide (a.kind=1) && decide (b.kind=1))=A at N z;rw [z];by_cases C:op=(⟨#[97,110,100]⟩:Str)
 ·subst C;have e:¬ (⟨#[97,110,100]⟩:Str)=⟨#[111,114]⟩:=by decide
  rw [if_pos rfl];refine qi _ X ?_;cases L:noV a
  ·refine qi _ Y ?_;cases M:noV b
   ·refine qi _ (yy 1 1 A) ?_;exact qe
   ·refine qi _ (xr false) ?_;exact qe
  ·refine qi _ (xr false) ?_;exact qe
 by_cases J:op=(⟨#[111,114]⟩:Str)
 ·subst J;have d:¬ (⟨#[111,114]⟩:Str)=⟨#[97,110,100]⟩:=by decide
  rw [if_neg d,if_pos rfl];refine qi _ Z ?_;cases L:uH a
  ·refine qi _ aa ?_;cases M:uH b
   ·refine qi _ (yy 1 0 A) ?_;exact qe
   ·refine qi _ (xr true) ?_;exact qe
  ·refine qi _ (xr true) ?_;exact qe
 by_cases D:op=(⟨#[61,61]⟩:Str)
 ·subst D;have d:¬ (⟨#[61,61]⟩:Str)=⟨#[97,110,100]⟩:=by decide
  have e:¬ (⟨#[61,61]⟩:Str)=⟨#[111,114]⟩:=by decide
  have x:¬ (⟨#[61,61]⟩:Str)=⟨#[33,61]⟩:=by decide
  have w:¬ (⟨#[61,61]⟩:Str)=⟨#[60]⟩:=by decide
  have u:¬ (⟨#[61,61]⟩:Str)=⟨#[60,61]⟩:=by decide
  rw [if_neg d,if_neg e,if_pos (.inl rfl)];refine qi _ j ?_;exact qe
 by_cases I:op=(⟨#[33,61]⟩:Str)
 ·subst I;have d:¬ (⟨#[33,61]⟩:Str)=⟨#[97,110,100]⟩:=by decide
  have e:¬ (⟨#[33,61]⟩:Str)=⟨#[111,114]⟩:=by decide
  have q:¬ (⟨#[33,61]⟩:Str)=⟨#[61,61]⟩:=by decide
  have w:¬ (⟨#[33,61]⟩:Str)=⟨#[60]⟩:=by decide
  have u:¬ (⟨#[33,61]⟩:Str)=⟨#[60,61]⟩:=by decide
  rw [if_neg d,if_neg e,if_pos (.inr (.inl rfl))];refine qi _ j ?_;exact qe
 by_cases H:op=(⟨#[60]⟩:Str)
 ·subst H;have d:¬ (⟨#[60]⟩:Str)=⟨#[97,110,100]⟩:=by decide
  have e:¬ (⟨#[60]⟩:Str)=⟨#[111,114]⟩:=by decide
  have q:¬ (⟨#[60]⟩:Str)=⟨#[61,61]⟩:=by decide
  have x:¬ (⟨#[60]⟩:Str)=⟨#[33,61]⟩:=by decide
  have u:¬ (⟨#[60]⟩:Str)=⟨#[60,61]⟩:=by decide
  rw [if_neg d,if_neg e,if_pos (.inr (.inr (.inl rfl)))];refine qi _ j ?_;exact qe
 by_cases G:op=(⟨#[60,61]⟩:Str)
 ·subst G;have d:¬ (⟨#[60,61]⟩:Str)=⟨#[97,110,100]⟩:=by decide
  have e:¬ (⟨#[60,61]⟩:Str)=⟨#[111,114]⟩:=by decide
  have q:¬ (⟨#[60,61]⟩:Str)=⟨#[61,61]⟩:=by decide
  have x:¬ (⟨#[60,61]⟩:Str)=⟨#[33,61]⟩:=by decide
  have w:¬ (⟨#[60,61]⟩:Str)=⟨#[60]⟩:=by decide
  rw [if_neg d,if_neg e,if_pos (.inr (.inr (.inr rfl)))];refine qi _ j ?_;exact qe
 rw [if_neg C,if_neg J,if_neg fun h=>h.elim D fun h=>h.elim I fun h=>h.elim H G];refine qi _ U ?_;cases L:vF a
 ·exact qe
 refine qi _ W ?_;cases M:vF b
 ·exact qe
 refine qi _ T ?_;exact qe
structure Opd (g:FuncId) (cap:Array Value) (n:Nat) (vs:Nat->Val) (J:List Nat->Bx->Prop):Prop where
 call:zg prog g=true
 inw:∀ i,x5 (vs i).n
 ok:∀ i,i < n->∀ e bs,J e bs->Ok prog g (vint i::cap.toList.map .lit) bs fun v bs' rs=>v=.agg (qS (vs i))/\J (e++[i]) bs'/\rs=[]
abbrev fnO (g:FuncId) (cap:Array Value):V:=.lit (.func (.func g) #[] cap)
def yq (h:Hd) (n:Nat) (vs:Nat->Val):List Nat :=
 if xV h.kind=0∨xV h.kind ≠ n then [] else if h.kind=6 then [0] else if h.kind=7 then [0,1] else if h.kind=8 then (if uH (vs 0)=true then [0,1] else [0,2]) else if (vs 0).kind=0 then [0,1] else [0]
abbrev YM:List Ent:=[(0,.int .i64 6,vint 1),(1,.int .i64 7,vint 2),(2,.int .i64 8,vint 3),(3,.int .i64 9,vint 2)]
theorem qq4 (k:Int):(xV k=0/\VL.findM YM (.int .i64 k)=none)∨(0 < xV k/\(k=6∨k=7∨k=8∨k=9)/\VL.findM YM (.int .i64 k)=some (vint (xV k))):=by
 by_cases d:k=6
 ·subst d;exact .inr ⟨by decide,.inl rfl,rfl⟩
 by_cases j:k=7
 ·subst j;exact .inr ⟨by decide,.inr (.inl rfl),rfl⟩
 by_cases n:k=8
 ·subst n;exact .inr ⟨by decide,.inr (.inr (.inl rfl)),rfl⟩
 by_cases o:k=9
 ·subst o;exact .inr ⟨by decide,.inr (.inr (.inr rfl)),rfl⟩
 refine .inl ⟨by unfold xV;simp_all,?_⟩;have p:∀ i:Int,k ≠ i->uG (.int .i64 k) (.int .i64 i)=false:=fun i h=>by
  rw [qOh];intro e;have:=(JK (ks:=([.i .i64],false)) (a:=.int .i64 k) (b:=.int .i64 i) rfl rfl).1 e;simp_all
 unfold VL.findM;simp_all
def qNx (h:Hd) (l:List E) (g:FuncId) (cap:Array Value) (vs:Nat->Val) (J:List Nat->Bx->Prop) (r:Val) (a e j k:Nat) (L:Nat->Bool) (S:St):Prop :=
 S.σ 1=fnO g cap/\S.σ 2=ptr a/\S.σ 4=ptr e/\S.σ 8=ptr j/\(L 0=true->S.σ 40=pt a 1)/\(L 1=true->S.σ 41=vstr h.op)/\(L 2=true->S.σ 42=.agg (qS (vs 0)))/\(L 3=true->S.σ 43=fnO g cap)/\(L 4=true->S.σ 44=.agg (qS (vs 1)))/\(L 5=true->S.σ 45=.agg (qS r)) /\
 ∃ d z,S.boxes=(j,.c (qS (vs 0)))::(k,.m ([.i .i64],false) YM 4)::(e,.c z)::(a,.c (jP h l))::d/\((L 4=false/\J [0] d)∨(L 4=true/\J [0,1] d))/\((L 6=false/\z=[vint 0,vint 0,vstr qH])∨(L 6=true/\z=qS r))
theorem Yo (ah:CalcOk) (h:Hd) (l:List E) (g:FuncId) (cap:Array Value) (vs:Nat->Val) (J:List Nat->Bx->Prop) (x:Opd g cap l.length vs J) (W:Bx) (h0:J [] W) :
  Ok prog 35 [.agg (jP h l),fnO g cap] W fun v d rs=>v=.agg (qS (yL h ((List.range l.length).map vs)))/\J (yq h l.length vs) d/\rs=[]:=by
 have k1:=x.call;have y:∀ i,i < l.length->((List.range l.length).map vs).getD i val0=vs i:=fun i hi=>by
  simp_all
 have ae:((List.range l.length).map vs).length=l.length:=by rw [zz,List.length_range]
 refine Ok.of_exM [(10,3)] Ty.mixed func35 rfl (by simp) (by rfl) fun F w0 I0=>?_;refine qb fun b2 h2=>?_;refine qb fun b4 w=>?_;refine qb fun b9 h9=>?_;have p:=aI h2 (aI w h9);have m0:VL.findM (YM.take 0) (.int .i64 6)=none:=rfl;have m1:VL.findM (YM.take 1) (.int .i64 7)=none:=rfl;have m2:VL.findM (YM.take 2) (.int .i64 8)=none:=rfl;have m3:VL.findM (YM.take 3) (.int .i64 9)=none:=rfl;simp only [List.take] at m0 m1 m2 m3;rcases qq4 h.kind with⟨z,ai⟩ | ⟨an,aj,ai⟩
 ·have e:yL h ((List.range l.length).map vs)=val0:=by unfold yL;rw [if_pos (.inl z)]
  have a:yq h l.length vs=[]:=by unfold yq;rw [if_pos (.inl z)]
  rw [e,a];refine qa ?_;exact⟨_,_,[],Le.refl _,((zc _).cons _ |>.cons _ |>.cons _),zn _,rfl,h0,rfl⟩
 by_cases O:xV h.kind=l.length
 case neg =>
  have e:yL h ((List.range l.length).map vs)=val0:=by unfold yL;rw [ae,if_pos (.inr O)]
  have a:yq h l.length vs=[]:=by unfold yq;rw [if_pos (.inr O)]
  have ak:¬ ((xV h.kind:Nat):Int)=(l.length:Int):=by omega
  rw [e,a];refine qa ?_;exact⟨_,_,[],Le.refl _,((zc _).cons _ |>.cons _ |>.cons _),zn _,rfl,h0,rfl⟩
 have al:((xV h.kind:Nat):Int)=(l.length:Int):=by omega
 have ak:(((xV h.kind:Nat):Int)=(l.length:Int))=True:=eq_true al;have P:0 < l.length:=by omega
 have ag:=x.ok 0 P [] W h0;refine qa ?_;refine qr _ [] (qKy (wl _).symm) (Ok.frame [_,_,_] ag) ?_;rintro v _ rs ⟨I,rfl,am,rfl,H,rfl⟩;simp only [wl,List.cons_append,List.nil_append] at H ⊢;have Q:¬ (xV h.kind=0∨xV h.kind ≠ ((List.range l.length).map vs).length):=by rw [ae];omega
 have R:¬ (xV h.kind=0∨xV h.kind ≠ l.length):=by omega
 refine qb fun b8 h8=>?_;have p:=aI p h8;have fin:∀ (v:V) (r:Val) (u:List Nat) (X:Bx) (Y:List VL.Row) (d:Bx),v=.agg (qS r)->yL h ((List.range l.length).map vs)=r->yq h l.length vs=u->J u d->d.Sublist X->∃ v1 ab af,Le v v1/\ab.Sublist X/\af.Sublist Y/\v1=.agg (qS (yL h ((List.range l.length).map vs)))/\J (yq h l.length vs) ab/\af=[]:=fun v r u X Y d h1 h2 h3 w h5=>⟨_,d,[],Le.refl _,h5,zn _,by simp_all,by simp_all,rfl⟩;rcases aj with k6 | T | U | k9
 ·have e:yL h ((List.range l.length).map vs)=unV h.op (vs 0):=by unfold yL;rw [if_neg Q,if_pos k6,y 0 P]
  have a:yq h l.length vs=[0]:=by unfold yq;rw [if_neg R,if_pos k6]
  have K6:(h.kind=6)=True:=eq_true k6;refine qi _ (qpa _ _) ?_;simp only [↓rA,rU,p,simprocAttr];exact fin _ _ _ _ _ I rfl e a H ((((zc _).cons _).cons _).cons _ |>.cons _)
 ·have ad:l.length=2:=by rw [<-O,T];rfl
  have e:yL h ((List.range l.length).map vs)=qmh h.op (vs 0) (vs 1):=by
   unfold yL;rw [if_neg Q,if_neg (by omega),if_pos T,y 0 P,y 1 (by omega)]
  have a:yq h l.length vs=[0,1]:=by unfold yq;rw [if_neg R,if_neg (by omega),if_pos T]
  have n6:¬ h.kind=6:=by omega
  have K7:(h.kind=7)=True:=eq_true T;have ac:=qmf ah h.op (vs 0) (vs 1) (x.inw 0) (x.inw 1);generalize hr:qmh h.op (vs 0) (vs 1)=r at e ac;simp only [↓rA,rB,simprocAttr,results35,p,n6,K7,tU];refine yp Ty.mixed (by rfl) (by rfl) (qNx h l g cap vs J r b2 b4 b8 b9) ?_ ?_ ?_
  ·exact⟨by rfl,by rfl,by rfl,by rfl,nofun,nofun,nofun,nofun,nofun,nofun,I,[vint 0,vint 0,vstr qH],rfl,.inl ⟨rfl,H⟩,.inl ⟨rfl,rfl⟩⟩
  ·intro L S i o1 j N M ⟨A,C,q,D,f0,f1,f2,f3,f4,f5,d,z,K,k,o⟩
   match i,j with
   | 0,j =>
    cases j;refine qa ?_;exact lP ⟨A,C,q,D,fun _=>rfl,f1,f2,f3,f4,f5,d,z,K,k,o⟩
   | 1,j =>
    cases j;have d0:=f0 (dt M 0);refine qa ?_;exact lP ⟨A,C,q,D,f0,fun _=>rfl,f2,f3,f4,f5,d,z,K,k,o⟩
   | 2,j =>
    cases j;refine qa ?_;exact lP ⟨A,C,q,D,f0,f1,fun _=>rfl,f3,f4,f5,d,z,K,k,o⟩
   | 3,j =>
    cases j;refine qa ?_;exact lP ⟨A,C,q,D,f0,f1,f2,fun _=>rfl,f4,f5,d,z,K,k,o⟩
   | 4,j =>
    cases j;have d3:=f3 (dt M 3);rcases k with⟨_,k⟩ | ⟨w,_⟩
    case inr=>rw [N] at w;cases w
    refine qa ?_;refine qr _ [] (qKy (wl _).symm) (Ok.frame [_,_,_,_] (x.ok 1 (by omega) _ d k)) ?_;rintro v _ rs ⟨G,rfl,aa,rfl,n,rfl⟩;simp only [wl,List.cons_append,List.nil_append] at n ⊢;refine qa ?_;exact lP ⟨A,C,q,D,f0,f1,f2,f3,fun _=>rfl,f5,G,z,rfl,.inr ⟨rfl,n⟩,o⟩
   | 5,j =>
    cases j;have d1:=f1 (dt M 1);have d2:=f2 (dt M 2);have d4:=f4 (dt M 4);refine qi _ ac ?_;refine qa ?_;exact lP ⟨A,C,q,D,f0,f1,f2,f3,f4,fun _=>rfl,d,z,rfl,k,o⟩
   | 6,j =>
    cases j;have d5:=f5 (dt M 5);have o:z=[vint 0,vint 0,vstr qH]:=o.elim (fun h=>h.2) fun h=>by rw [N] at h;exact absurd h.1 (by decide)
    refine qa ?_;exact lP ⟨A,C,q,D,f0,f1,f2,f3,f4,f5,d,qS r,rfl,k,.inr ⟨rfl,rfl⟩⟩
  ·intro L S N ⟨A,C,q,D,f0,f1,f2,f3,f4,f5,d,z,K,k,o⟩;rcases o with⟨h6,_⟩ | ⟨_,rfl⟩
   ·rw [N 6 (by simp)] at h6;cases h6
   rcases k with⟨w,_⟩ | ⟨_,k⟩
   ·rw [N 4 (by simp)] at w;cases w
   simp only [↓rA,rU,q,p,K,simprocAttr];exact fin _ _ _ _ _ d rfl e a k ((((zc _).cons _).cons _).cons _ |>.cons _)
 ·have ad:l.length=3:=by rw [<-O,U];rfl
  have e:yL h ((List.range l.length).map vs)=if uH (vs 0)=true then vs 1 else vs 2:=by
   unfold yL;rw [if_neg Q,if_neg (by omega),if_neg (by omega),if_pos U,y 0 P,y 1 (by omega),y 2 (by omega)]
  have a:yq h l.length vs=if uH (vs 0)=true then [0,1] else [0,2]:=by unfold yq;rw [if_neg R,if_neg (by omega),if_neg (by omega),if_pos U]
  have n6:¬ h.kind=6:=by omega
  have n7:¬ h.kind=7:=by omega
  have K8:(h.kind=8)=True:=eq_true U;refine qi _ (XT _) ?_;cases hy:uH (vs 0)
  ·rw [hy] at e a;refine qa ?_;refine qr _ [] (qKy (wl _).symm) (Ok.frame [_,_,_,_] (x.ok 2 (by omega) _ I H)) ?_;rintro v _ rs ⟨G,rfl,aa,rfl,n,rfl⟩;simp only [wl,List.cons_append,List.nil_append] at n ⊢;simp only [↓rA,rU,p,simprocAttr];exact fin _ _ _ _ _ G rfl e a n ((((zc _).cons _).cons _).cons _ |>.cons _)
  ·rw [hy] at e a;refine qa ?_;refine qr _ [] (qKy (wl _).symm) (Ok.frame [_,_,_,_] (x.ok 1 (by omega) _ I H)) ?_;rintro v _ rs ⟨G,rfl,aa,rfl,n,rfl⟩;simp only [wl,List.cons_append,List.nil_append] at n ⊢;simp only [↓rA,rU,p,simprocAttr];exact fin _ _ _ _ _ G rfl e a n ((((zc _).cons _).cons _).cons _ |>.cons _)
 ·have ad:l.length=2:=by rw [<-O,k9];rfl
  have e:yL h ((List.range l.length).map vs)=if (vs 0).kind=0 then vs 1 else vs 0:=by
   unfold yL;rw [if_neg Q,if_neg (by omega),if_neg (by omega),if_neg (by omega),y 0 P,y 1 (by omega)]
  have a:yq h l.length vs=if (vs 0).kind=0 then [0,1] else [0]:=by unfold yq;rw [if_neg R,if_neg (by omega),if_neg (by omega),if_neg (by omega)]
  have n6:¬ h.kind=6:=by omega
  have n7:¬ h.kind=7:=by omega
  have n8:¬ h.kind=8:=by omega
  by_cases z:(vs 0).kind=0
  ·rw [if_pos z] at e a;have Z:((vs 0).kind=0)=True:=eq_true z;refine qa ?_;refine qr _ [] (qKy (wl _).symm) (Ok.frame [_,_,_,_] (x.ok 1 (by omega) _ I H)) ?_;rintro v _ rs ⟨G,rfl,aa,rfl,n,rfl⟩;simp only [wl,List.cons_append,List.nil_append] at n ⊢;simp only [↓rA,rU,p,simprocAttr];exact fin _ _ _ _ _ G rfl e a n ((((zc _).cons _).cons _).cons _ |>.cons _)
  ·rw [if_neg z] at e a;simp only [↓rA,rU,p,n6,n7,n8,z,simprocAttr];exact fin _ _ _ _ _ I rfl e a H ((((zc _).cons _).cons _).cons _ |>.cons _)
theorem yZ:x5 val0.n:=by unfold x5;decide
theorem qiu (b:Bool):x5 (Qk b).n:=by cases b <;> (unfold x5;decide)
theorem yl (k:Int) {o:Option Int} (h:∀ n,o=some n->x5 n):x5 (Zm k o).n:=by
 cases o with
 | none=>exact yZ
 | some n=>exact h n rfl
variable {n:Int}
theorem qb9 {w d:Int} (h:qe4 w d=some n):x5 n:=by
 unfold qe4 at h;split at h
 ·cases h
 split at h
 ·cases h
 injection h with h
 rw [<-h];unfold x5;omega
theorem KA (h:yP n=true):x5 n:=by
 unfold yP at h;simp only [k7,decide_eq_true_eq] at h;unfold x5;omega
variable {a b:Int}
theorem qz9 (h:wG a b=some n):x5 n:=by
 unfold wG at h;split at h
 ·rename_i d;simp only [k7] at d;injection h with h
  rw [<-h];exact KA d.2
 ·cases h
theorem qH5 (h:yQ a b=some n):x5 n:=by
 unfold yQ at h;split at h
 ·exact qz9 h
 ·cases h
theorem qvk {d:Int} (h:qey a b d=some n):x5 n:=by
 unfold qey at h;simp only at h;split at h
 ·cases h
 split at h
 ·cases h
 injection h with h
 rw [<-h];unfold x5;omega
theorem qIt (h:XE a b=some n):x5 n:=by
 unfold XE at h;split at h
 ·exact qvk h
 ·cases h
theorem qJp (h:XF a b=some n):x5 n:=by
 unfold XF at h;split at h
 ·exact qvk h
 ·cases h
theorem qFf (op:Str) (a b:Val):x5 (Qa op a b).n:=by
 unfold Qa XD
 repeat' split
 all_goals first
  | exact yl _ fun n h=>qb9 h
  | exact yl _ fun n h=>qz9 h
  | exact yl _ fun n h=>qH5 h
  | exact yl _ fun n h=>qIt h
  | exact yl _ fun n h=>qJp h
  | exact yl _ fun n h=>by cases h
  | exact yZ
theorem qJu (op:Str) (a b:Val):x5 (uf a b op).n:=by
 unfold uf
 repeat' split
 all_goals first | exact qiu _ | exact yZ
theorem qJ2 (op:Str) (a b:Val):x5 (qmh op a b).n:=by
 unfold qmh;simp only
 repeat' split
 all_goals first | exact qiu _ | exact yZ | exact qJu _ _ _ | exact qFf _ _ _ | exact yl _ fun n h=>by injection h with h;rw [<-h];unfold x5;decide
theorem qK2 (op:Str) (a:Val):x5 (unV op a).n:=by
 unfold unV
 repeat' split
 all_goals first | exact qiu _ | exact yZ | skip
 show x5 (IntKind.i64.wrap (-a.n));unfold x5;rw [IntKind.wrap_i64];omega
theorem getD_in {l:List Val} (h:∀ v ∈ l,x5 v.n) (i:Nat):x5 (l.getD i val0).n:=by
 rw [vk];rcases qNb i l.length with a | a
 ·simp_all
 ·rw [qMa a];exact yZ
theorem qex (h:Hd) {vs:List Val} (a:∀ v ∈ vs,x5 v.n):x5 (yL h vs).n:=by
 unfold yL
 repeat' split
 all_goals first | exact yZ | exact qK2 _ _ | exact qJ2 _ _ _ | exact getD_in a _
abbrev qdv (r:Rw):Prop:=r.fields.length<=Go.Proofs.YtkdgbjhbpbgdeaaGreatDoor.big/\∀ v ∈ r.fields,x5 v.n
theorem qb4 (t:Tab) (r:Rw) (e:qdv r):∀ x:E,uh x->x5 (jT t r x).n:=by
 intro x
 induction x using E.ind with
 | h h l k =>
 intro a;rw [qnn];split
 ·exact a.inw.1
 split
 ·unfold qDs;split
  ·exact getD_in e.2 _
  ·exact yZ
 ·refine qex h fun v j=>?_;obtain⟨y,d,rfl⟩:=x9.1 j;exact k y d (a.args y d)
end Go.Proofs.YtkdgbjhbpbgdeaaGreatDoor
namespace Go.VL
theorem qdw {b:Nat}:∀ {l m:Bx},Nb b (l++m)->Nb b l
 | [],_,_=>trivial
 | (x,z)::l,m,h=>by
  simp only [List.cons_append,Nb] at h ⊢;exact⟨h.1,qdw h.2⟩
theorem qox {C:Ctx} {k:List It} {S:St} {Q:Exit->St->Prop} (T:St->Prop) (h:T S) (a:∀ S,T S->EX C k S Q):EX C k S Q:=a S h
end Go.VL
namespace Go.Nv
theorem J2 {n:Int} (h:n.natAbs < 170141183460469231731687303715884105728):ww n=n:=ui (by unfold ki;omega)
theorem qG6 (B:Nat):∀ (l:List Int) (s:Int) (k:Nat),s.natAbs<=k * B->(∀ x ∈ l,x.natAbs<=B)->(k+l.length) * B < 170141183460469231731687303715884105728->(l.foldl (fun s x=>ww (s+x)) s).natAbs<=(k+l.length) * B
 | [],s,k,h,_,_=>by simp_all
 | x::l,s,k,h,hl,hb=>by
  rw [qQ4];have n:=hl x x6;have e:(k+(x::l).length) * B=(k+1+l.length) * B:=by rw [qKg];congr 1;omega
  rw [e] at hb ⊢;have d:(k+1) * B<=(k+1+l.length) * B:=qG4 _ (by omega);have j:(k+1) * B=k * B+B:=by rw [uu,qOo]
  rw [J2 (by omega)];exact qG6 B l _ (k+1) (by omega) (fun y a=>hl y (z8 _ a)) hb
theorem qiw {l:List Int} (B:Nat) (h:∀ x ∈ l,x.natAbs<=B) (hb:l.length * B < 170141183460469231731687303715884105728):-170141183460469231731687303715884105728 < sumW l/\sumW l < 170141183460469231731687303715884105728:=by
 have:=qG6 B l 0 0 (by simp) h (by simp_all);unfold sumW;rw [qJ0] at this;omega
theorem KZ (l:List Int) (i:Nat) (h:i < l.length):sumW (l.take (i+1))=ww (sumW (l.take i)+l[i]):=by
 unfold sumW;rw [zt h,qPy];rfl
theorem qGd (half a:Int):0<=uc half a/\uc half a<=4294967296:=by
 unfold uc;split
 ·decide
 rename_i h;have j:1<=half:=by omega
 have k:0<=a % half:=Int.emod_nonneg _ (by omega);have n:a % half < half:=Int.emod_lt_of_pos _ (by omega);have d:0<=(2 * half - a % half) * 2147483648 / half:=qO5 (by omega) (by omega);have e:(2 * half - a % half) * 2147483648 / half<=4294967296:=by
  have:(2 * half - a % half) * 2147483648 / half<=4294967296 * half / half:=Int.ediv_le_ediv (by omega) (by omega);rwa [Int.mul_ediv_cancel _ (by omega)] at this
 have o:(0:Int) < 2 ^ (a / half).toNat:=qQ8 (by decide);exact⟨qO5 d (by omega),qQw (qQ1 _ d) e⟩
theorem vi:∀ l:List Val,(yJ l).Perm l
 | []=>zp _
 | v::r=>by
  have a:∀ m:List Val,(qcp v m).Perm (v::m):=fun m=>by
   induction m with
   | nil=>rfl
   | cons x m d =>
    unfold qcp;split
    ·rfl
    ·exact(d.cons x).trans (List.Perm.swap _ _ _)
  unfold yJ;exact(a _).trans ((vi r).cons v)
theorem WP:∀ l:List Val,(yJ l).Pairwise fun x y=>cmpVal x y<=0
 | []=>List.Pairwise.nil
 | v::r=>by
  have j:∀ m:List Val,(m.Pairwise fun x y=>cmpVal x y<=0)->(qcp v m).Pairwise (fun x y=>cmpVal x y<=0)/\∀ y ∈ qcp v m,y=v∨y ∈ m:=fun m=>by
   induction m with
   | nil=>exact fun _=>⟨by simp [qcp],by simp [qcp]⟩
   | cons x m k =>
    intro h;have d:=vt.1 h;unfold qcp;split
    ·rename_i e;refine⟨vt.2 ⟨fun y a=>?_,h⟩,fun y a=>by simp_all⟩;rcases xb.1 a with rfl | a
     ·omega
     ·exact jr.trans _ _ _ e (d.1 y a)
    ·rename_i e;have:=k d.2;refine⟨vt.2 ⟨fun y a=>?_,this.1⟩,fun y a=>?_⟩
     ·rcases this.2 y a with rfl | a
      ·have:=jr.anti x y;omega
      simp_all
     ·rcases xb.1 a with rfl | a
      ·simp
      ·rcases this.2 y a with h | h
       ·simp_all
       simp_all
  unfold yJ;exact(j _ (WP r)).1
theorem qBt {l m:List Val} (d:m.Perm l) (e:m.Pairwise fun x y=>¬ cmpVal y x < 0):m=yJ l:=by
 refine List.Perm.eq_of_pairwise (le:=fun x y=>cmpVal x y<=0) (fun a b _ _ j k=>?_) (e.imp fun {x y} h=>?_) (WP l) (d.trans (vi l).symm)
 ·have:=jr.anti a b;exact vR.1 (by omega)
 ·have:=jr.anti x y;omega
theorem qjt (l:List Val) (v:Val):yw (l++[v])=if v ∈ yw l then yw l else yw l++[v]:=by
 unfold yw;simp
theorem qql (l:List Val):(yw l).length<=l.length:=by
 have:∀ (r:List Val) (m:List Val),(r.foldl (fun m v=>if v ∈ m then m else m++[v]) m).length<=m.length+r.length:=fun r=>by
  induction r with
  | nil=>simp
  | cons v r a =>
   intro m;rw [qQ4];refine km (a _) ?_;split <;> simp <;> omega
 simpa [yw] using this l []
theorem qke {i:Nat} (h:i<=1888):Z3 i<=9223372036854775808:=by
 unfold Z3;have j:i / 32 - 1<=58:=by omega
 by_cases k:i / 32 - 1=58
 ·have:i=1888:=by omega
  simp_all
 ·have a:i / 32 - 1<=57:=by omega
  have d:i - 32 * (i / 32 - 1)<=63:=by omega
  have e:2 ^ (i / 32 - 1)<=2 ^ 57:=qNr (by decide) a;exact km (qMq d e) (by decide)
theorem qw0 (i:Int):x5 (Jr i):=by
 unfold Jr;split
 ·unfold x5;decide
 rename_i h;split
 ·have:=@qke (-i).toNat (by omega);unfold x5;omega
 ·have j:i.toNat<=1887:=by omega
  have:Z3 i.toNat < 9223372036854775808:=by
   unfold Z3;have a:i.toNat / 32 - 1<=57:=by omega
   have d:i.toNat - 32 * (i.toNat / 32 - 1)<=63:=by omega
   have e:2 ^ (i.toNat / 32 - 1)<=2 ^ 57:=qNr (by decide) a;exact qKu (qMq d e) (by decide)
  unfold x5;omega
end Go.Nv
namespace Go.Proofs.YtkdgbjhbpbgdeaaGreatDoor
theorem U4 {α:Type} (l:List E) (f:E->α):(List.range l.length).map (fun i=>f (l.getD i exp0))=l.map f:=by
 refine qPd (by simp) fun i a d=>?_;have e:i < l.length:=by simpa using a
 simp_all
theorem qB4 (f:Fld) (h:Hd) (l:List E) (b:Nat):Ok prog 34 [.agg (KK f),ptr b] [(b,.c (jP h l))] fun v a rs=>v=qq (decide (f.name=h.name))/\a=[(b,.c (jP h l))]/\rs=[]:=by
 refine oE func34 fun F k d=>?_;refine qb fun e j=>?_;refine qa ?_;exact⟨_,[_],[],Le.refl _,List.Sublist.cons _ (zc _),zn _,rfl,rfl,rfl⟩
abbrev bsR (a d e:Nat) (t:Tab) (r:Rw) (h:Hd) (l:List E):Bx:=[(e,.c (jP h l)),(d,.c (zJ r)),(a,.c (cTab t))]
theorem qB5 (t:Tab) (r:Rw) (h:Hd) (l:List E) (i:Nat) (p:i < l.length) (a d e:Nat) (hb:(e ≠ d/\d ≠ e)/\(e ≠ a/\a ≠ e)/\(d ≠ a/\a ≠ d)) (j:zk prog 15 [.agg (cTab t),.agg (zJ r),vE l[i]] (.agg (qS (jT t r l[i])))) :
  Ok prog 36 [vint i,ptr a,ptr d,ptr e] (bsR a d e t r h l) fun v k rs=>v=.agg (qS (jT t r l[i]))/\k=bsR a d e t r h l/\rs=[]:=by
 rw [vE,qY] at j;refine oE func36 fun F w q=>?_;refine qb fun u n=>?_;have o:=aI hb n;simp only [↓rA,rU,o,zq,p,qY,simprocAttr];refine qt _ j.v ?_;refine qa ?_;exact⟨_,[_,_,_],[],Le.refl _,(zc _).cons _,zn _,rfl,rfl,rfl⟩
theorem qb5 (Q:CalcOk) (t:Tab) (r:Rw) (T:t.fields.length<=Go.Proofs.YtkdgbjhbpbgdeaaGreatDoor.big) (I:qdv r):∀ x:E,uh x->zk prog 15 [.agg (cTab t),.agg (zJ r),vE x] (.agg (qS (jT t r x))):=by
 intro x
 induction x using E.ind with
 | h h l W =>
 intro H;have R:=H.len;have D:=H.args;simp only [E.args] at R D;have X:zg prog 34=true:=by kernel_rfl
 have Y:zg prog 36=true:=by kernel_rfl
 rw [qnn,vE,wI];refine oE func15 fun F w0 I0=>?_;refine qb fun d L=>?_;refine qb fun j G=>?_;refine qb fun a C=>?_;refine qb fun b6 M=>?_;have z:=aI L (aI G (aI C M));have P:(a ≠ j/\j ≠ a)/\(a ≠ d/\d ≠ a)/\(j ≠ d/\d ≠ j):=⟨C.1.symm,C.2.1.symm,G.1.symm⟩;by_cases w:h.kind=1
 ·rw [if_pos w];exact qe
 rw [if_neg w];by_cases o:h.kind=2
 ·rw [if_pos o];have Q2:(h.kind=2)=True:=eq_true o;refine qa ?_;refine qr [(a,.c (jP h l))] [_,_,_] (List.Perm.swap _ _ _) (Wq t.fields _ a (jP h l) (fun f=>decide (f.name=h.name)) X (fun f _=>qB4 f h l a) T) ?_;rintro v k A ⟨U,rfl,rfl⟩;unfold qDs;rcases Xo.idx (p:=fun f:Fld=>decide (f.name=h.name)) U with⟨rfl,e⟩ | ⟨rfl,e⟩
  ·rw [e,if_neg (WR _)];exact qe
  ·rw [if_pos e];generalize t.fields.findIdx (fun f=>decide (f.name=h.name))=m at e ⊢;have n0:¬ (m:Int) < 0:=by omega
   have n1:(0:Int)<=(m:Int):=by omega
   by_cases q:r.fields.length<=m
   ·have Z:(r.fields.length:Int)<=(m:Int):=by omega
    rw [vk,qMa q];exact qe
   ·have S:m < r.fields.length:=by omega
    have Z:¬ (r.fields.length:Int)<=(m:Int):=by omega
    rw [vk,yb S];refine qn ?_;exact qc rfl
 rw [if_neg o];by_cases y:h.kind=6∨h.kind=7∨h.kind=8∨h.kind=9
 ·have O:Opd 36 #[.pointer (some ⟨d,0,none⟩),.pointer (some ⟨j,0,none⟩),.pointer (some ⟨a,0,none⟩)] l.length (fun i=>jT t r (l.getD i exp0)) (fun _ k=>k=bsR d j a t r h l):={
   call:=Y
   inw:=fun i=>by
    rw [vk];rcases qNb i l.length with n | n
    ·rw [yb n];exact qb4 t r I _ (D _ (zs n))
    ·rw [qMa n];exact qb4 t r I _ qNl
   ok:=fun i n e k N=>by
    subst N;have J:=zs n;have:=qB5 t r h l i n d j a P (W _ J (D _ J));simp_all }
  have u:=Yo Q h l _ _ _ _ O (bsR d j a t r h l) rfl;rw [U4 l (jT t r)] at u;generalize yL h (l.map (jT t r))=aa at u ⊢;rcases y with q | q | q | q
  ·have K:(h.kind=6)=True:=eq_true q;simp only [↓rA,rU,z,w,o,K,simprocAttr];refine qr (bsR d j a t r h l) [_] (x8 (l₁:=[_]) (l₂:=bsR d j a t r h l)) u ?_;rintro v k A ⟨rfl,rfl,rfl⟩;exact qe
  ·have K:(h.kind=7)=True:=eq_true q;have n6:¬ h.kind=6:=by omega
   simp only [↓rA,rU,z,w,o,K,n6,simprocAttr];refine qr (bsR d j a t r h l) [_] (x8 (l₁:=[_]) (l₂:=bsR d j a t r h l)) u ?_;rintro v k A ⟨rfl,rfl,rfl⟩;exact qe
  ·have K:(h.kind=8)=True:=eq_true q;have n6:¬ h.kind=6:=by omega
   have n7:¬ h.kind=7:=by omega
   simp only [↓rA,rU,z,w,o,K,n6,n7,simprocAttr];refine qr (bsR d j a t r h l) [_] (x8 (l₁:=[_]) (l₂:=bsR d j a t r h l)) u ?_;rintro v k A ⟨rfl,rfl,rfl⟩;exact qe
  ·have K:(h.kind=9)=True:=eq_true q;have n6:¬ h.kind=6:=by omega
   have n7:¬ h.kind=7:=by omega
   have n8:¬ h.kind=8:=by omega
   simp only [↓rA,rU,z,w,o,K,n6,n7,n8,simprocAttr];refine qr (bsR d j a t r h l) [_] (x8 (l₁:=[_]) (l₂:=bsR d j a t r h l)) u ?_;rintro v k A ⟨rfl,rfl,rfl⟩;exact qe
 ·have e:yL h (l.map (jT t r))=val0:=by
   unfold yL;rw [if_pos (.inl (by unfold xV;simp_all))]
  have n6:¬ h.kind=6:=fun e=>y (.inl e);have n7:¬ h.kind=7:=fun e=>y (.inr (.inl e));have n8:¬ h.kind=8:=fun e=>y (.inr (.inr (.inl e)));have n9:¬ h.kind=9:=fun e=>y (.inr (.inr (.inr e)));rw [e];exact qe
abbrev bsC (d e j a:Nat) (tb:Tab) (h:Hd) (l:List E) (key:Str) (t:Int):Bx:=[(a,.c (cTab tb)),(j,.c [vint t]),(e,.c [vstr key]),(d,.c (jP h l))]
theorem qsy (u:CalcOk) (tb:Tab) (h:Hd) (a b:E) (key:Str) (t:Int) (r:Rw) (y:tb.fields.length<=Go.Proofs.YtkdgbjhbpbgdeaaGreatDoor.big) (x:qdv r) (L:uh a) (hb:uh b) (j k n d:Nat) (hd:(d ≠ n/\n ≠ d)/\(d ≠ k/\k ≠ d)/\(d ≠ j/\j ≠ d)/\(n ≠ k/\k ≠ n)/\(n ≠ j/\j ≠ n)/\(k ≠ j/\j ≠ k)) :
  Ok prog 55 [.agg (zJ r),ptr j,ptr k,ptr n,ptr d] (bsC j k n d tb h [a,b] key t) fun v J rs=>v=qq (QY tb h a b key t r)/\J=bsC j k n d tb h [a,b] key t/\rs=[]:=by
 have p:=qb5 u tb r y x a L;have q:=qb5 u tb r y x b hb;have N:=XT (jT tb r b);rw [vE,qY] at p q;have fin:∀ (t1:Bool) (X:Bx) (Y:List VL.Row),QY tb h a b key t r=t1->(bsC j k n d tb h [a,b] key t).Sublist X->∃ v o G,Le (qq t1) v/\o.Sublist X/\G.Sublist Y/\v=qq (QY tb h a b key t r)/\o=bsC j k n d tb h [a,b] key t/\G=[]:=fun t1 X Y e M=>⟨_,_,[],Le.refl _,M,zn _,by rw [e],rfl,rfl⟩;refine oE func55 fun F R P=>?_;refine qb fun Q K=>?_;have w:=aI hd K;by_cases A:r.table=h.table
 case neg =>
  refine qa ?_;exact fin false _ _ (by unfold QY;simp [A]) ((zc _).cons _)
 by_cases C:r.key=key
 case neg =>
  refine qa ?_;exact fin false _ _ (by unfold QY;simp [C]) ((zc _).cons _)
 by_cases D:r.event<=t
 case neg =>
  refine qa ?_;exact fin false _ _ (by unfold QY;simp [D]) ((zc _).cons _)
 have H:(r.table=h.table)=True:=eq_true A;have I:(r.key=key)=True:=eq_true C;simp only [↓rA,rU,w,H,I,D,qY,simprocAttr];refine qt _ q.v ?_;refine qa ?_;refine qt _ N.v ?_;cases O:uH (jT tb r b)
 ·refine qa ?_;exact fin false _ _ (by unfold QY;simp [O]) ((zc _).cons _)
 simp only [↓rA,rU,w,qY,simprocAttr];refine qt _ p.v ?_;by_cases z:(jT tb r a).kind=0
 ·refine qa ?_;exact fin false _ _ (by unfold QY;simp_all) ((zc _).cons _)
 ·refine qa ?_;exact fin true _ _ (by unfold QY;simp_all) ((zc _).cons _)
noncomputable def wC (c:Cat) (h:Hd) (l:List E) (t:Int):Bool:=(Q4 c.tables h.table).isSome && (decide (h.kind=5) && (decide (l.length=2) && jb t))
abbrev fnI (e a d:Nat):V:=.lit (.func (.func 57) #[] #[.pointer (some ⟨e,0,none⟩),.pointer (some ⟨a,0,none⟩),.pointer (some ⟨d,0,none⟩)])
abbrev qgh (d e h a:Nat):V:=.lit (.func (.func 55) #[] #[.pointer (some ⟨d,0,none⟩),.pointer (some ⟨e,0,none⟩),.pointer (some ⟨h,0,none⟩),.pointer (some ⟨a,0,none⟩)])
noncomputable abbrev bsN (o d e j a k n:Nat) (c:Cat) (rows:List Rw) (h:Hd) (l:List E) (key:Str) (t:Int) (p:Bool):Bx:=[(n,.c [qgh d e j a]),(k,.c [qq p]),(a,.c (cTab ((Q4 c.tables h.table).getD tab0))),(j,.c [vint t]),(e,.c [vstr key]),(d,.c (jP h l)),(o,.c [qZ rows])]
theorem qxo (c:Cat) (rows:List Rw) (h:Hd) (l:List E) (key:Str) (t:Int) (Q:c.tables.length<=1000000) :
  Ok prog 24 [zO c,qZ rows,.agg (jP h l),vstr key,vint t] [] fun v I rs=>(∃ j n o p k d a,v=fnI j d a/\I=bsN j n o p k d a c rows h l key t (wC c h l t))/\rs=[]:=by
 have R:=qec t;have fin:∀ (w:Bool) (y j n o p k d a:Nat) (Y:List VL.Row),wC c h l t=w->∃ v z A,Le (fnI j d a) v/\z.Sublist (bsN j n o p k d a c rows h l key t w++[(y,.c (qT c))])/\A.Sublist Y/\(∃ j n o p k d a,v=fnI j d a/\z=bsN j n o p k d a c rows h l key t (wC c h l t))/\A=[]:=fun w y j n o p k d a Y e=>⟨_,bsN j n o p k d a c rows h l key t w,[],Le.refl _,qOy _ _,zn _,⟨j,n,o,p,k,d,a,rfl,by rw [e]⟩,rfl⟩;refine oE func24 fun F W S=>?_;refine qb fun y L=>?_;refine qb fun j M=>?_;refine qb fun n N=>?_;refine qb fun o O=>?_;refine qb fun p P=>?_;have q:=aI L (aI M (aI N (aI O P)));refine qi _ (qbv c h.table Q) ?_;refine qb fun k J=>?_;have q:=aI q J;refine qb fun d K=>?_;have q:=aI q K;have C:∀ (w:Bool) (a:Nat) (Y:List VL.Row),wC c h l t=w->∃ v z A,Le (fnI j d a) v/\z.Sublist (bsN j n o p k d a c rows h l key t w++[(y,.c (qT c))])/\A.Sublist Y/\(∃ j n o p k d a,v=fnI j d a/\z=bsN j n o p k d a c rows h l key t (wC c h l t))/\A=[]:=fun w a Y e=>fin w y j n o p k d a Y e;cases u:(Q4 c.tables h.table).isSome
 ·have e:wC c h l t=false:=by unfold wC;rw [u];rfl
  refine qb fun a x=>?_;have q:=aI q x;simp only [↓rA,rU,simprocAttr];exact C _ _ _ e
 by_cases D:h.kind=5
 case neg =>
  have e:wC c h l t=false:=by unfold wC;simp [D]
  refine qb fun a x=>?_;have q:=aI q x;simp only [↓rA,rU,simprocAttr];exact C _ _ _ e
 have T:(h.kind=5)=True:=eq_true D;by_cases G:l.length=2
 case neg =>
  have e:wC c h l t=false:=by unfold wC;simp [G]
  have H:¬ (l.length:Int)=2:=by omega
  refine qb fun a x=>?_;have q:=aI q x;simp only [↓rA,rU,simprocAttr];exact C _ _ _ e
 have e:wC c h l t=jb t:=by unfold wC;simp [u,D,G]
 have H:(l.length:Int)=2:=by omega
 have U:((l.length:Int)=2)=True:=eq_true H;refine qi _ R ?_;refine qb fun a x=>?_;have q:=aI q x;simp only [↓rA,rU,simprocAttr];exact C _ _ _ e
theorem qBb (r:Rw) (a z:Int) (b:Nat):Ok prog 27 [.agg (zJ r),ptr b] [(b,.c [vint a,vint z])] fun v d rs=>v=qq (decide (r.event < a) || decide (z < r.event))/\d=[(b,.c [vint a,vint z])]/\rs=[]:=by
 refine oE func27 fun F k e=>?_;refine qb fun h j=>?_;by_cases q:r.event < a
 ·have Q:(r.event < a)=True:=eq_true q;refine qa ?_;exact⟨_,[_],[],Le.refl _,List.Sublist.cons _ (zc _),zn _,by simp,rfl,rfl⟩
 ·refine qa ?_;exact⟨_,[_],[],Le.refl _,List.Sublist.cons _ (zc _),zn _,by simp,rfl,rfl⟩
noncomputable abbrev bsT (d e j a:Nat) (c:Cat) (h:Hd) (l:List E) (key:Str) (t:Int):Bx:=[(a,.c (cTab ((Q4 c.tables h.table).getD tab0))),(j,.c [vint t]),(e,.c [vstr key]),(d,.c (jP h l))]
theorem qDe (c:Cat) (rows:List Rw) (h:Hd) (l:List E) (key:Str) (t:Int) (Z:rows.length<=1000000) (go:Bool) (p:Rw->Bool) (y a e j k d o q:Nat)
  (hd:(q ≠ o/\o ≠ q)/\(q ≠ a/\a ≠ q)/\(o ≠ a/\a ≠ o)/\(d ≠ a/\a ≠ d)/\(k ≠ a/\a ≠ k)/\(j ≠ a/\a ≠ j)/\(e ≠ a/\a ≠ e))
  (T:∀ r ∈ rows,go=true->Ok prog 55 [.agg (zJ r),ptr e,ptr j,ptr k,ptr d] (bsT e j k d c h l key t) fun v w rs=>v=qq (p r)/\w=bsT e j k d c h l key t/\rs=[])
  (J:List Rw->Bx->Prop) (n:Bx) (X:J [] n)
  (Q:∀ I r n,r ∈ rows->I.length < rows.length->J I n->Q3 prog y [.agg (zJ r)] n fun v w rs=>v=qq true/\J (I++[r]) w/\rs=[]) :
  Ok prog 57 [.lit (.func (.yield y) #[] #[]),ptr a,ptr o,ptr q] (bsN a e j k d o q c rows h l key t go++n) fun v w rs=>(∃ u,J (if go=true then rows.filter p else []) u/\w=bsN a e j k d o q c rows h l key t go++u)/\rs=[]:=by
 have k1:zg prog 55=true:=by kernel_rfl
 refine oE func57 fun F w0 W=>?_;refine qa ?_;refine zI Ty.mixed (by rfl) rows.length (fun i S=>∃ n,J (if go=true then (rows.take i).filter p else []) n/\S.boxes=bsN a e j k d o q c rows h l key t go++n/\S.rows=[]/\S.σ 0=.lit (.func (.yield y) #[] #[])/\S.σ 2=ptr o/\S.σ 3=ptr q/\S.σ 7=qZ rows/\S.σ 8=vint rows.length/\S.σ 9=vint i) ⟨_,_,_,_,zc _,zc _,zp _,zp _,?_⟩ (fun i S K ⟨n,x,P,M,A,C,D,G,H,O⟩=>?_) (fun S ⟨n,x,P,M,A,C,D,G,H,O⟩=>?_)
 ·exact⟨n,by simp_all,rfl,rfl,by rfl,by rfl,by rfl,by rfl,by rfl,by rfl⟩
 ·have ab:=qj K;have U:rows.take (i+1)=rows.take i++[rows[i]]:=zt K;have L:=zs K;have N:=T _ L;refine qn ?_;generalize hr:rows[i]=r at U L N;refine qX fun z hn=>?_;cases go
  ·refine qa ?_;exact⟨_,_,_,_,(zc _).cons _,zc _,zp _,zp _,n,by simp_all,rfl,M,A,C,D,G,H,rfl⟩
  have R:((rows.take i).filter p).length < rows.length:=qKu (qMu _ _) (by rw [kB];omega);simp only [if_true] at x;refine qa ?_;refine qr (bsT e j k d c h l key t) ([(z,B.c (zJ r)),(q,B.c [qgh e j k d]),(o,B.c [qq true])]++((a,B.c [qZ rows])::n)) (qPi [(z,B.c (zJ r)),(q,B.c [qgh e j k d]),(o,B.c [qq true])] (bsT e j k d c h l key t) ((a,B.c [qZ rows])::n)) (N rfl) ?_;rintro v w rs ⟨rfl,rfl,rfl⟩;cases aa:p r
  ·refine qa ?_;refine⟨bsT e j k d c h l key t++([(q,B.c [qgh e j k d]),(o,B.c [qq true])]++((a,B.c [qZ rows])::n)),_,_,_,(zc _).append (List.Sublist.cons _ (zc _)),zc _,(qPi _ _ _),zp _,n,?_,rfl,rfl,A,C,D,G,H,rfl⟩;simp_all
  ·refine qa ?_;refine ye n (bsT e j k d c h l key t++[(z,B.c (zJ r)),(q,B.c [qgh e j k d]),(o,B.c [qq true]),(a,B.c [qZ rows])]) (x8 (l₁:=bsT e j k d c h l key t++[(z,B.c (zJ r)),(q,B.c [qgh e j k d]),(o,B.c [qq true]),(a,B.c [qZ rows])]) (l₂:=n)) (Q _ r n L R x) ?_;rintro v u rs ⟨rfl,Y,rfl⟩ _;refine qa ?_;refine⟨u++(bsT e j k d c h l key t++[(q,B.c [qgh e j k d]),(o,B.c [qq true]),(a,B.c [qZ rows])]),_,_,_,(zc _).append ((zc _).append (List.Sublist.cons _ (zc _))),zc _,?_,zp _,u,?_,rfl,rfl,A,C,D,G,H,rfl⟩
   ·refine List.Perm.trans x8 ?_;exact qOl u (qPi (bsT e j k d c h l key t) [(q,B.c [qgh e j k d]),(o,B.c [qq true])] [(a,B.c [qZ rows])])
   simp_all
 ·refine qn ?_;rw [xa (w3 _)] at x;exact⟨_,_,[],Le.refl _,zc _,zn _,⟨n,x,rfl⟩,rfl⟩
def qL4 (l:List Rw) (v:V) (a:Bx):Prop:=(l=[]/\v=nilS/\a=[])∨∃ b c,l.length<=c/\v=.lit (.slice (some ⟨b,0,none⟩) l.length c)/\a=[(b,.c ((l.map zJ).flatten++zC ((c - l.length) * 8)))]
def JR (l a:Nat) (r:Loop) (pre:List Rw) (d:Bx):Prop :=
 (pre=[]/\d=[(l,.obj (.loop r)),(a,.c [nilS])])∨∃ b c,pre.length<=c/\((b ≠ l/\l ≠ b)/\(b ≠ a/\a ≠ b))/\d=[(l,.obj (.loop r)),(b,.c ((pre.map zJ).flatten++zC ((c - pre.length) * 8))),(a,.c [.lit (.slice (some ⟨b,0,none⟩) pre.length c)])]
theorem Uu (K:Cat) (rows:List Rw) (hd:Hd) (xs:List E) (key:Str) (t:Int) (hl:rows.length<=1000000) (go:Bool) (p:Rw->Bool) (a k n o j d h:Nat) (ha:(h ≠ d/\d ≠ h)/\(h ≠ a/\a ≠ h)/\(d ≠ a/\a ≠ d)/\(j ≠ a/\a ≠ j)/\(o ≠ a/\a ≠ o)/\(n ≠ a/\a ≠ n)/\(k ≠ a/\a ≠ k)) (P:∀ r ∈ rows,go=true->Ok prog 55 [.agg (zJ r),ptr k,ptr n,ptr o,ptr j] (bsT k n o j K hd xs key t) fun v w rs=>v=qq (p r)/\w=bsT k n o j K hd xs key t/\rs=[]) :
  Ok prog 53 [nilS,.lit (.func (.func 57) #[] #[.pointer (some ⟨a,0,none⟩),.pointer (some ⟨d,0,none⟩),.pointer (some ⟨h,0,none⟩)])] (bsN a k n o j d h K rows hd xs key t go) fun v w rs=>rs=[]/\qL4 (if go=true then rows.filter p else []) v w:=by
 refine oE func53 fun F Z R=>?_;refine qb fun u S=>?_;refine qa ?_;refine wY rfl (gf:=57) (first:=#[]) (cap:=#[.pointer (some ⟨a,0,none⟩),.pointer (some ⟨d,0,none⟩),.pointer (some ⟨h,0,none⟩)]) rfl Ty.cb57 ((u,.c [nilS])::bsN a k n o j d h K rows hd xs key t go) [] (by rfl)
  (fun l r v w rs=>rs=[]/\∃ A,JR l u r (if go=true then rows.filter p else []) A/\w=A++bsN a k n o j d h K rows hd xs key t go) ?_ ?_
 ·intro l r W Q X has U;have J:l ≠ u/\u ≠ l:=by
   simp only [rB] at W;have:=zS W;simp only [Nb] at this;exact⟨fun e=>this.1.1 e.symm,this.1.1⟩
  refine Ok.permR (Ok.permL (qDe K rows hd xs key t hl go p l a k n o j d h ha P (JR l u r) [(l,.obj (.loop r)),(u,.c [nilS])] (.inl ⟨rfl,rfl⟩) fun pre Y Ji ad ac O=>?_) ?_) fun v w rs ⟨⟨A,S,L⟩,h4⟩=>⟨_,?_,h4,A,S,rfl⟩
  ·rcases O with⟨aa,rfl⟩ | ⟨b,c,D,⟨I,H⟩,rfl⟩
   ·rw [aa];refine Q3.of_round (M:=[]) Ty.mixed Q X has U rfl (by simp) (by rfl) (by rfl) fun F Z R=>?_;generalize z:wV _ _ _=G;have N:G 7=.agg (zJ Y):=by rw [<-z];rfl
    have C:G 2=ptr u:=by rw [<-z];rfl
    clear z;refine qb fun b5 x=>?_;simp only [↓rA,rU,N,C,simprocAttr];refine⟨[_],[_],rfl,?_⟩;simp only [rU,x,J,simprocAttr];refine fun y=>jS.r ?_;simp only [↓rA,rU,simprocAttr];refine fun b c hb D=>?_;have q:=zS hb;simp only [Nb] at q;simp only [rU,C,x,J,q,simprocAttr];refine⟨[_,_],[_],[_,_],rfl,List.Sublist.cons_cons _ (List.Sublist.cons _ (zc _)),rfl,.inr ⟨b,c,D,⟨⟨q.2.1.2,q.2.1.1⟩,⟨q.2.2.1.2,q.2.2.1.1⟩⟩,rfl⟩,rfl⟩
   ·refine Q3.of_round (M:=[]) Ty.mixed Q X has U rfl (by simp) (by rfl) (by rfl) fun F Z R=>?_;generalize z:wV _ _ _=G;have N:G 7=.agg (zJ Y):=by rw [<-z];rfl
    have C:G 2=ptr u:=by rw [<-z];rfl
    clear z;refine qb fun b5 x=>?_;simp only [↓rA,rU,N,C,simprocAttr];refine⟨[_],[_,_],rfl,?_⟩;simp only [rU,x,J,H,simprocAttr];refine fun y=>jS.r ?_;simp only [↓rA,rU,x,I,simprocAttr];refine⟨⟨by rw [zr,wa,xC,<-uu];omega,D,by omega⟩,fun b' c' T ab=>?_⟩;simp only [wo,J0,decide_true,qL3,kA,if_false,List.filter_nil,x,I,H,decide_false,qMw,if_true,qBf (wa pre)] at T ⊢;have q:=zS T;simp only [Nb] at q;simp only [rU,C,x,J,I,H,q,simprocAttr];refine⟨[_,_],[_],[_,_],rfl,List.Sublist.cons_cons _ (List.Sublist.cons _ (zc _)),rfl,.inr ⟨b',c',by simp_all,⟨⟨q.2.1.2,q.2.1.1⟩,⟨q.2.2.1.2,q.2.2.1.1⟩⟩,?_⟩,rfl⟩;simp
  ·exact x8 (l₁:=[(l,.obj (.loop r)),(u,.c [nilS])]) (l₂:=bsN a k n o j d h K rows hd xs key t go)
  ·rw [L];exact x8 (l₁:=bsN a k n o j d h K rows hd xs key t go) (l₂:=A)
 ·intro l r v w rs Q ⟨h1,A,O,L⟩;subst h1 L;rcases O with⟨P,rfl⟩ | ⟨b,c,D,⟨I,H⟩,rfl⟩
  ·refine⟨(u,.c [nilS])::bsN a k n o j d h K rows hd xs key t go,rfl,fun _=>?_⟩;simp only [↓rA,rU,simprocAttr];exact r0 ⟨rfl,.inl ⟨P,rfl,rfl⟩⟩
  ·refine⟨(b,.c (((if go=true then rows.filter p else []).map zJ).flatten++zC ((c - (if go=true then rows.filter p else []).length) * 8)))::(u,.c [.lit (.slice (some ⟨b,0,none⟩) (if go=true then rows.filter p else []).length c)])::bsN a k n o j d h K rows hd xs key t go,rfl,fun _=>?_⟩;refine qa ?_;exact⟨_,[_],[],Le.refl _,List.Sublist.cons_cons _ (zn _),zn _,rfl,.inr ⟨b,c,D,rfl,rfl⟩⟩
theorem qhf (K:Cat) (rows:List Rw) (hd:Hd) (xs:List E) (key:Str) (t:Int) (u:rows.length<=1000000) (go:Bool) (p:Rw->Bool) (a j k n d e h:Nat) (q:(h ≠ e/\e ≠ h)/\(h ≠ a/\a ≠ h)/\(e ≠ a/\a ≠ e)/\(d ≠ a/\a ≠ d)/\(n ≠ a/\a ≠ n)/\(k ≠ a/\a ≠ k)/\(j ≠ a/\a ≠ j)) (w:∀ r ∈ rows,go=true->Ok prog 55 [.agg (zJ r),ptr j,ptr k,ptr n,ptr d] (bsT j k n d K hd xs key t) fun v o rs=>v=qq (p r)/\o=bsT j k n d K hd xs key t/\rs=[]) :
  Ok prog 23 [.lit (.func (.func 57) #[] #[.pointer (some ⟨a,0,none⟩),.pointer (some ⟨e,0,none⟩),.pointer (some ⟨h,0,none⟩)])] (bsN a j k n d e h K rows hd xs key t go) fun v o rs=>rs=[]/\qL4 (if go=true then rows.filter p else []) v o:=by
 refine oE func23 fun F z y=>?_;refine qa ?_;refine qr _ [] (by rfl) (Uu K rows hd xs key t u go p a j k n d e h q w) ?_;rintro v o rs ⟨rfl,x⟩;refine qa ?_;exact⟨_,o,[],Le.refl _,zc _,zn _,rfl,x⟩
open Arr
theorem qup (l:List Val):Ok prog 148 [xT l] [] fun v d rs=>(∃ b,v=VZ 234 b/\d=[(b,.c [xT l])])/\rs=[]:=by
 refine oE func148 fun F j e=>?_;refine qb fun a h=>?_;refine qa ?_;exact⟨_,[_],[],Le.refl _,zc _,zn _,⟨a,rfl,rfl⟩,rfl⟩
theorem quq (l:List Val) (L:l.length<=1000000) (y b:Nat) (J:List Val->Bx->Prop) (a:Bx) (H:J [] a)
  (A:∀ pre x a,pre.length < l.length->J pre a->Q3 prog y [.agg (qS x)] a fun v d rs=>v=qq true/\J (pre++[x]) d/\rs=[]) :
  Ok prog 234 [.lit (.func (.yield y) #[] #[]),ptr b] ((b,.c [xT l])::a) fun v d rs=>(∃ e,J l e/\d=(b,.c [xT l])::e)/\rs=[]:=by
 refine Ok.permR (Q:=fun v d rs=>(∃ e,J l e/\d.Perm ((b,.c [xT l])::e))/\rs=[]) ?_ fun v d rs ⟨⟨e,h,D⟩,z⟩=>⟨_,D,⟨e,h,rfl⟩,z⟩;refine oE func234 fun F N G=>?_;simp only [↓rA,rB,simprocAttr,results234,tU];refine zI Ty.mixed (by rfl) l.length (fun i S=>∃ a,J (l.take i) a/\S.boxes=(b,.c [xT l])::a/\S.rows=[]/\S.σ 0=.lit (.func (.yield y) #[] #[])/\S.σ 5=xT l/\S.σ 6=vint l.length/\S.σ 7=vint i) ⟨_,_,_,_,zc _,zc _,zp _,zp _,?_⟩ (fun i S C ⟨a,j,u,w,n,o,p,q⟩=>?_) (fun S ⟨a,j,u,w,n,o,p,q⟩=>?_)
 ·refine qB ?_;simp_all
 ·have M:=qj C;refine qn ?_;refine qX fun k I=>?_;refine qa ?_;refine ye a [(k,.c (qS l[i])),(b,.c [xT l])] (x8 (l₁:=[(k,B.c (qS l[i])),(b,B.c [xT l])]) (l₂:=a)) (A (l.take i) l[i] a (by rw [kB];omega) j) ?_;rintro v d rs ⟨rfl,K,rfl⟩ _;refine qa ?_;refine⟨d++[(b,.c [xT l])],_,_,_,(List.Sublist.cons _ (zc _)).append_left d,zc _,x8,zp _,d,?_,rfl,?_⟩
  ·simp_all
  exact qD
 ·rw [qNc] at j;refine qn ?_;exact⟨_,_,[],Le.refl _,zc _,zn _,⟨a,j,zp _⟩,rfl⟩
def qL5 (l:List Val) (v:V) (a:Bx):Prop:=(l=[]/\v=nilS/\a=[])∨∃ b c,l.length<=c/\v=.lit (.slice (some ⟨b,0,none⟩) l.length c)/\a=[(b,.c ((l.map qS).flatten++zC ((c - l.length) * 3)))]
def JV (l a:Nat) (r:Loop) (pre:List Val) (d:Bx):Prop :=
 (pre=[]/\d=[(l,.obj (.loop r)),(a,.c [nilS])])∨∃ b c,pre.length<=c/\((b ≠ l/\l ≠ b)/\(b ≠ a/\a ≠ b))/\d=[(l,.obj (.loop r)),(b,.c ((pre.map qS).flatten++zC ((c - pre.length) * 3))),(a,.c [.lit (.slice (some ⟨b,0,none⟩) pre.length c)])]
theorem qd7 (l:List Val):(l.map qS).flatten.length=l.length * 3:=by
 induction l with
 | nil=>rfl
 | cons x l a=>simp only [z7,List.flatten_cons,zr,a,List.length_cons,List.length_nil];omega
theorem Uv (a:List Val) (Y:a.length<=1000000) (j:Nat):Ok prog 299 [nilS,VZ 234 j] [(j,.c [xT a])] fun v p rs=>rs=[]/\qL5 a v p:=by
 refine oE func299 fun F Q J=>?_;refine qb fun h K=>?_;refine qa ?_;refine wY rfl (gf:=234) (first:=#[]) (cap:=#[.pointer (some ⟨j,0,none⟩)]) rfl Ty.cb234 [(h,.c [nilS]),(j,.c [xT a])] [] (by rfl)
  (fun l r v p rs=>rs=[]/\∃ o,JV l h r a o/\p=o++[(j,.c [xT a])]) ?_ ?_
 ·intro l r O I P has N;have C:l ≠ h/\h ≠ l:=by
   simp only [rB,simprocAttr] at O;have:=zS O;simp only [Nb] at this;exact⟨fun e=>this.1.1 e.symm,this.1.1⟩
  refine Ok.permR (Ok.permL (quq a Y l j (JV l h r) [(l,.obj (.loop r)),(h,.c [nilS])] (.inl ⟨rfl,rfl⟩) fun pre x Ji ac H=>?_) ?_) fun v p rs ⟨⟨o,K,D⟩,W⟩=>⟨_,?_,W,o,K,rfl⟩
  ·rcases H with⟨aa,rfl⟩ | ⟨b,c,u,⟨A,z⟩,rfl⟩
   ·rw [aa];refine Q3.of_round (M:=[]) Ty.mixed I P has N rfl (by simp) (by rfl) (by rfl) fun F Q J=>?_;generalize n:wV _ _ _=w;have G:w 7=.agg (qS x):=by rw [<-n];rfl
    have q:w 2=ptr h:=by rw [<-n];rfl
    clear n;refine qb fun S k=>?_;simp only [↓rA,rU,G,q,simprocAttr];refine⟨[_],[_],rfl,?_⟩;simp only [rU,k,C,simprocAttr];refine fun y=>jS.r ?_;simp only [↓rA,rU,simprocAttr];refine fun b c X u=>?_;have d:=zS X;simp only [Nb] at d;simp only [rU,q,k,C,d,simprocAttr];refine⟨[_,_],[_],[_,_],rfl,List.Sublist.cons_cons _ (List.Sublist.cons _ (zc _)),rfl,.inr ⟨b,c,u,⟨⟨d.2.1.2,d.2.1.1⟩,⟨d.2.2.1.2,d.2.2.1.1⟩⟩,rfl⟩,rfl⟩
   ·refine Q3.of_round (M:=[]) Ty.mixed I P has N rfl (by simp) (by rfl) (by rfl) fun F Q J=>?_;generalize n:wV _ _ _=w;have G:w 7=.agg (qS x):=by rw [<-n];rfl
    have q:w 2=ptr h:=by rw [<-n];rfl
    clear n;refine qb fun S k=>?_;simp only [↓rA,rU,G,q,simprocAttr];refine⟨[_],[_,_],rfl,?_⟩;simp only [rU,k,C,z,simprocAttr];refine fun y=>jS.r ?_;simp only [↓rA,rU,k,A,simprocAttr];refine⟨⟨by rw [zr,qd7,xC,<-uu];omega,u,by omega⟩,fun R T L ab=>?_⟩;simp only [wo,J0,decide_true,qL3,kA,if_false,List.filter_nil,k,A,z,decide_false,qMw,if_true,qBf (qd7 pre)] at L ⊢;have d:=zS L;simp only [Nb] at d;simp only [rU,q,k,C,A,z,d,simprocAttr];refine⟨[_,_],[_],[_,_],rfl,List.Sublist.cons_cons _ (List.Sublist.cons _ (zc _)),rfl,.inr ⟨R,T,by simp_all,⟨⟨d.2.1.2,d.2.1.1⟩,⟨d.2.2.1.2,d.2.2.1.1⟩⟩,?_⟩,rfl⟩;simp
  ·exact x8 (l₁:=[(l,B.obj (.loop r)),(h,B.c [nilS])]) (l₂:=[(j,B.c [xT a])])
  ·rw [D];exact x8 (l₁:=[(j,B.c [xT a])]) (l₂:=o)
 ·intro l r v p rs I ⟨U,o,H,D⟩;subst U D;rcases H with⟨Z,rfl⟩ | ⟨b,c,u,⟨A,z⟩,rfl⟩
  ·refine⟨[(h,.c [nilS]),(j,.c [xT a])],rfl,fun _=>?_⟩;simp only [↓rA,rU,simprocAttr];exact r0 ⟨rfl,.inl ⟨Z,rfl,rfl⟩⟩
  ·refine⟨[(b,.c ((a.map qS).flatten++zC ((c - a.length) * 3))),(h,.c [.lit (.slice (some ⟨b,0,none⟩) a.length c)]),(j,.c [xT a])],rfl,fun _=>?_⟩;refine qa ?_;exact⟨_,[_],[],Le.refl _,List.Sublist.cons_cons _ (zn _),zn _,rfl,.inr ⟨b,c,u,rfl,rfl⟩⟩
theorem qhg (a:List Val) (h:a.length<=1000000) (d:Nat):Ok prog 232 [VZ 234 d] [(d,.c [xT a])] fun v e rs=>rs=[]/\qL5 a v e:=by
 refine oE func232 fun F n k=>?_;refine qa ?_;refine qr _ [] (by rfl) (Uv a h d) ?_;rintro v e rs ⟨rfl,j⟩;refine qa ?_;exact⟨_,e,[],Le.refl _,zc _,zn _,rfl,j⟩
abbrev qJn:V:=.lit (.func (.func 16) #[] #[])
theorem qpm:zk prog 233 [nilS,qJn] (.tup []):=Ok.sortNil Tryz.sortV 0 _
theorem qpn (l:List Val) (rest:List V) (b cap:Nat) (e:l.length < 4611686018427387904) :
  Ok prog 233 [.lit (.slice (some ⟨b,0,none⟩) l.length cap),qJn] [(b,.c ((l.map qS).flatten++rest))] fun v d rs =>
   v=.tup []/\rs=[]/\∃ a:List Val,a.Perm l/\a.Pairwise (fun x y=>¬ cmpVal y x < 0)/\d=[(b,.c ((a.map qS).flatten++rest))] :=
 Ok.sortFunc Tryz.sortV (k:=3) isAgg37 sizeOf37 qS (fun _=>rfl) cmpVal (qcb jr) (g:=16) (enters_of func16 (by rfl) rfl) l
  (fun x h y j=>qa5 x y) rest b cap e
theorem qi7 (l:List Val) (u:l.length<=1000000) (d:Nat):Ok prog 147 [VZ 234 d,qJn] [(d,.c [xT l])] fun v a rs=>v=xT (yJ l)/\a=[]/\rs=[]:=by
 refine Ok.mono (Ok.boxP (k:=3) (p:=fun es=>es=(yJ l).map qS) (fun es h e j=>by rw [h] at j;obtain⟨r,_,rfl⟩:=x9.1 j;rfl) ?_) fun v a rs ⟨⟨es,j,C⟩,o,q⟩=>⟨by simp_all,o,q⟩;refine oE func147 fun F G y=>?_;refine qa ?_;refine qr _ [] (zp _) (qhg l u d) ?_;rintro v a rs ⟨rfl,⟨n,rfl,rfl⟩ | ⟨b,c,z,rfl,rfl⟩⟩
 ·subst n;refine qi _ qpm ?_;refine qa ?_;exact r0 ⟨rfl,_,rfl,.inl ⟨rfl,rfl,rfl⟩⟩
 ·refine qa ?_;refine qr [_] [] (zp _) (qpn l (zC ((c - l.length) * 3)) b c (by omega)) ?_;rintro v a rs ⟨rfl,rfl,D,w,x,rfl⟩;refine qa ?_;have e:=qBt w x;subst e;have A:=(vi l).length_eq;exact⟨_,[_],[],Le.refl _,zc _,zn _,rfl,_,rfl,.inr ⟨b,c,_,by simp_all,by simp_all,rfl⟩⟩
theorem qrr (l:List Val) (g:FuncId) (b:Nat) (z:List V) (p:Val->Bool) (H:zg prog g=true) (D:qbl prog g (fun x=>.agg (qS x)) l b z p) (C:l.length<=Go.Proofs.YtkdgbjhbpbgdeaaGreatDoor.big):Ok prog 235 [xT l,VZ g b] [(b,.c z)] fun v k rs=>Xo p l v/\k=[(b,.c z)]/\rs=[]:=by
 unfold Go.Proofs.YtkdgbjhbpbgdeaaGreatDoor.big at C;refine oE func235 fun F K G=>?_;simp only [↓rA,rB,simprocAttr,results235,tU];refine qG Ty.mixed (by rfl) l.length (fun i S=>(∀ x ∈ l.take i,p x=false)/\S.boxes=[(b,.c z)]/\S.rows=[]/\S.σ 0=xT l/\S.σ 1=VZ g b/\S.σ 7=vint l.length/\S.σ 8=vint i) ⟨0,?_⟩ (fun i S d ⟨a,w,y,n,o,q,u⟩=>?_) (fun S ⟨a,w,y,n,o,q,u⟩=>?_)
 ·refine qB ?_;simp
 ·have J:=qj d;have A:=D _ (zs d);refine qn ?_;refine qr _ [] (zp _) A ?_;rintro v k rs ⟨rfl,rfl,rfl⟩;cases e:p l[i]
  ·refine qa ?_;refine⟨0,fun x h=>?_,rfl⟩;rw [zt d] at h;rcases z6.1 h with h | h
   ·simp_all
   simp_all
  ·refine qa ?_;exact⟨_,_,[],Le.refl _,zc _,zn _,.inr ⟨i,d,e,fun j I=>a _ (qOu.2 ⟨j,by rw [kB];omega,by simp⟩),rfl⟩,rfl,rfl⟩
 ·refine qn ?_;rw [xa (w3 _)] at a;exact⟨_,_,[],Le.refl _,zc _,zn _,.inl ⟨a,rfl⟩,rfl,rfl⟩
theorem qs3 (l:List Val) (g:FuncId) (b:Nat) (z:List V) (p:Val->Bool) (d:zg prog g=true) (j:qbl prog g (fun x=>.agg (qS x)) l b z p) (e:l.length<=Go.Proofs.YtkdgbjhbpbgdeaaGreatDoor.big):Ok prog 149 [xT l,VZ g b] [(b,.c z)] fun v a rs=>v=qq (l.any p)/\a=[(b,.c z)]/\rs=[]:=by
 refine oE func149 fun F q k=>?_;refine qa ?_;refine qr [_] [] (zp _) (qrr l g b z p d j e) ?_;rintro v a rs ⟨h,rfl,rfl⟩;obtain⟨n,rfl,o⟩:=h.any;refine qa ?_;exact⟨_,[_],[],Le.refl _,zc _,zn _,by simp_all,rfl,rfl⟩
theorem qim (half a:Int) (n:x5 half) (k:x5 a):zk prog 155 [vint half,vint a] (vint (uc half a)):=by
 unfold x5 at n k;refine oE func155 fun F G w=>?_;by_cases c1:half < 1
 ·have o:=eq_true c1;have e:uc half a=0:=by unfold uc;rw [if_pos (.inl c1)]
  rw [e];exact qe
 by_cases d:1073741824 < half
 ·have p:=eq_true d;have e:uc half a=0:=by unfold uc;rw [if_pos (.inr (.inl d))]
  rw [e];exact qe
 by_cases h:a < 0
 ·have q:=eq_true h;have e:uc half a=0:=by unfold uc;rw [if_pos (.inr (.inr (.inl h)))]
  rw [e];exact qe
 have x:¬ half=0:=by omega
 have C:0<=a / half:=qO5 (by omega) (by omega);have D:a / half<=a:=qQ1 _ (by omega);have H:IntKind.i64.wrap (a.tdiv half)=a / half:=by rw [qRd (by omega)];exact qv (by omega) (by omega)
 by_cases j:32<=a / half
 ·have u:=eq_true j;have e:uc half a=0:=by unfold uc;rw [if_pos (.inr (.inr (.inr j)))]
  rw [e];exact qe
 have z:0<=a % half:=Int.emod_nonneg _ (by omega);have A:a % half < half:=Int.emod_lt_of_pos _ (by omega);have y:a.tmod half=a % half:=qPr (by omega);have I:IntKind.i64.wrap (2 * half)=2 * half:=qv (by omega) (by omega);have J:IntKind.i64.wrap (2 * half - a % half)=2 * half - a % half:=qv (by omega) (by omega);have K:IntKind.i64.wrap ((2 * half - a % half) * 2 ^ min 31 IntKind.i64.bits)=(2 * half - a % half) * 2147483648:=by
  rw [show min 31 IntKind.i64.bits=31 from rfl];exact qv (by omega) (by omega)
 have N:0<=(2 * half - a % half) * 2147483648 / half:=qO5 (by omega) (by omega);have O:(2 * half - a % half) * 2147483648 / half<=(2 * half - a % half) * 2147483648:=qQ1 _ (by omega);have L:IntKind.i64.wrap (((2 * half - a % half) * 2147483648).tdiv half)=(2 * half - a % half) * 2147483648 / half:=by
  rw [qRd (by omega)];exact qv (by omega) (by omega)
 have e:uc half a=(2 * half - a % half) * 2147483648 / half / 2 ^ (a / half).toNat:=by unfold uc;rw [if_neg (by omega)]
 have M:((2 * half - a % half) * 2147483648 / half).fdiv (2 ^ min (a / half).toNat IntKind.i64.bits)=(2 * half - a % half) * 2147483648 / half / 2 ^ (a / half).toNat:=by
  rw [show min (a / half).toNat IntKind.i64.bits=(a / half).toNat from qKt (by show _<=64;omega)];exact qLe _ (qQb (qQ8 (by decide)))
 rw [e];exact qe
theorem qnv (i:Nat) (h:i<=1888):zk prog 239 [vint i] (vu (Z3 i)):=by
 have o:=qke h;refine oE func239 fun F p d=>?_;have e:(if (0:Int) > IntKind.i64.wrap (IntKind.i64.wrap ((i:Int).tdiv 32) - 1) then 0 else IntKind.i64.wrap (IntKind.i64.wrap ((i:Int).tdiv 32) - 1))=((i / 32 - 1:Nat):Int):=by
  rw [show (i:Int).tdiv 32=((i / 32:Nat):Int) from rfl,qv (n:=((i / 32:Nat):Int)) (by omega) (by omega),qv (by omega) (by omega)];split <;> omega
 have j:IntKind.u64.wrap (IntKind.i64.wrap ((i:Int) - IntKind.i64.wrap (32 * ((i / 32 - 1:Nat):Int))))=((i - 32 * (i / 32 - 1):Nat):Int):=by
  rw [IntKind.wrap_u64,IntKind.wrap_i64,IntKind.wrap_i64];omega
 have k:IntKind.u64.wrap (((i - 32 * (i / 32 - 1):Nat):Int) * 2 ^ min (i / 32 - 1) IntKind.u64.bits)=(Z3 i:Int):=by
  rw [show min (i / 32 - 1) IntKind.u64.bits=i / 32 - 1 from qKt (by show _<=64;omega)];have a:((i - 32 * (i / 32 - 1):Nat):Int) * 2 ^ (i / 32 - 1)=(Z3 i:Int):=by
   unfold Z3;rw [qO4,Int.natCast_pow];rfl
  rw [a,IntKind.wrap_u64];omega
 exact qe
theorem qCp (i:Int):zk prog 157 [vint i] (vint (Jr i)):=by
 refine oE func157 fun F w u=>?_;by_cases c1:i < -1888
 ·have p:=eq_true c1;have e:Jr i=0:=by unfold Jr;rw [if_pos (.inl c1)]
  rw [e];exact qe
 by_cases a:1887 < i
 ·have q:=eq_true a;have e:Jr i=0:=by unfold Jr;rw [if_pos (.inr a)]
  rw [e];exact qe
 by_cases d:i < 0
 ·have k:=eq_true d;obtain⟨m,n⟩:∃ m:Nat,m=(-i).toNat:=⟨_,rfl⟩;have e:Jr i=-(Z3 m:Int):=by unfold Jr;rw [if_neg (by omega),if_pos d,n]
  have o:IntKind.i64.wrap (0 - i)=(m:Int):=by rw [qv (by omega) (by omega)];omega
  have h:=@qke m (by omega);have j:IntKind.i64.wrap (0 - IntKind.i64.wrap (Z3 m:Int))=-(Z3 m:Int):=by
   rw [IntKind.wrap_i64,IntKind.wrap_i64];omega
  rw [e];simp only [↓rA,rU,c1,a,k,o,simprocAttr];refine qo _ (qnv m (by omega)) ?_;simp only [↓rA,rU,j,simprocAttr];exact qc rfl
 ·obtain⟨m,rfl⟩:∃ m:Nat,i=m:=⟨i.toNat,by omega⟩;have e:Jr m=(Z3 m:Int):=by unfold Jr;rw [if_neg (by omega),if_neg d];rfl
  have h:=qw0 (m:Int);rw [e] at h;unfold x5 at h;have j:IntKind.i64.wrap (Z3 m:Int)=(Z3 m:Int):=qv (by omega) (by omega);rw [e];refine qa ?_;refine qo _ (qnv m (by omega)) ?_;exact qe
abbrev ksV:List Sh × Bool:=([.i .i64,.i .i64,.s],true)
abbrev qI8 (v:Val):Value:=.agg [.int .i64 v.kind,.int .i64 v.n,.string v.s].toArray
theorem qny (a b:Val):uG (qI8 a) (qI8 b)=decide (a=b):=by
 obtain⟨d,e,h⟩:=a;obtain⟨j,k,n⟩:=b;simp only [uG,Value.cells,kQ,veq,Val.mk.injEq];simp
abbrev vTt (_:Unit):V:=qq true
theorem ZM {α:Type} [DecidableEq α] (a:α) (u:Unit):∀ g:List (Nat × α × Unit),ko a u g=g
 | []=>rfl
 | p::g=>by
  unfold ko;split
  ·rfl
  ·rw [ZM a u g]
theorem Kw {α:Type} [DecidableEq α] {g:List (Nat × α × Unit)} {a:α}:(zy g a).isSome=true↔a ∈ g.map fun p=>p.2.1:=by
 unfold zy;simp
theorem qxb (v:Val) (k:Int) (b:Nat):Ok prog 150 [.agg (qS v),ptr b] [(b,.c [vint k])] fun r a rs=>r=qq (!decide (v.kind=k))/\a=[(b,.c [vint k])]/\rs=[]:=by
 refine oE func150 fun F j d=>?_;refine qb fun e h=>?_;refine qa ?_;exact⟨_,[_],[],Le.refl _,List.Sublist.cons _ (zc _),zn _,rfl,rfl,rfl⟩
def Z9 (h:Hd) (t:Int) (vs:List Val) (rows:List Rw):List Int:=(vs.zip (rows.map (·.event))).map fun p=>ww (fineV p.1 * uc h.param (t - p.2))
theorem qcz {v:Val} (h:x5 v.n):(fineV v).natAbs<=9223372036854775808000000:=by
 unfold x5 at h;unfold fineV;omega
theorem qLy {v:Val} (h:x5 v.n) (p a:Int):(fineV v * uc p a).natAbs<=39614081257132168796771975168000000:=by
 rw [Int.natAbs_mul];have d:=qcz h;have e:=qGd p a;exact km (qMq d (show (uc p a).natAbs<=4294967296 by omega)) (by decide)
variable {vs:List Val}
theorem qJs {h:Hd} {t:Int} {rows:List Rw} (d:∀ v ∈ vs,x5 v.n):∀ x ∈ Z9 h t vs rows,x.natAbs<=39614081257132168796771975168000000:=fun x a=>by
 unfold Z9 at a;obtain⟨p,e,rfl⟩:=x9.1 a;have:=qLy (d p.1 (List.of_mem_zip e).1) h.param (t - p.2);rw [J2 (by omega)];omega
theorem qy3 {h:Hd} {t:Int} {rows:List Rw} {i:Nat} (a:i < vs.length) (e:i < rows.length) (d:i < (Z9 h t vs rows).length):(Z9 h t vs rows)[i]=ww (fineV vs[i] * uc h.param (t - rows[i].event)):=by
 simp [Z9]
theorem Vl {h:Hd} {t:Int} {rows:List Rw} (a:vs.length=rows.length):(Z9 h t vs rows).length=vs.length:=by
 unfold Z9;simp_all
theorem qz7 (h:Hd) (U:List E) (vs:List Val) (rows:List Rw) (t:Int) (af:vs.length=rows.length) (a5:rows.length<=1000) (N:∀ v ∈ vs,x5 v.n) (ht:0<=t/\t<=1099511627776) (aP:∀ r ∈ rows,0<=r.event/\r.event<=t)
  (hp:x5 h.param):zk prog 94 [.agg (jP h U),xT vs,qZ rows,vint t] (.agg (qS (qh1 h vs (rows.map (·.event)) t))):=by
 have k1:zg prog 150=true:=by kernel_rfl
 have ba:vs.length<=1000:=by omega
 refine oE func94 fun F w0 I0=>?_;refine qb fun H h4=>?_;refine qb fun u h8=>?_;have a:=aI h4 h8;unfold qh1;by_cases O:h.op=(⟨#[99,111,117,110,116]⟩:Str)
 ·have O1:=eq_true O;rw [if_pos O];simp only [↓rA,rU,a,O1,simprocAttr];exact qc rfl
 rw [if_neg O];by_cases Z:h.op=(⟨#[100,105,115,116,105,110,99,116]⟩:Str)
 ·have O2:=eq_true Z;rw [if_pos Z];simp only [↓rA,rU,a,O,O2,simprocAttr];refine qX fun ai aB=>?_;have a:=aI a aB;simp only [rU,simprocAttr];refine zI Ty.mixed (by rfl) vs.length (fun i S=>∃ g w,(g.map fun p:Nat × Val × Unit=>p.2.1)=yw (vs.take i)/\S.boxes=[(ai,.m ksV (qP qI8 vTt g) w),(u,.c [vint 0,vint 0,vstr qH]),(H,.c (jP h U))]/\S.rows=[]/\S.σ 8=ptr u/\S.σ 10=mp ai/\S.σ 32=xT vs/\S.σ 33=vint vs.length/\S.σ 34=vint i) ⟨_,_,_,_,zc _,zc _,zp _,zp _,?_⟩ (fun i S n ⟨g,w,M,d,j,k,az,an,ao,ap⟩=>?_) (fun S ⟨g,w,M,d,j,k,az,an,ao,ap⟩=>?_)
  ·refine qB ?_;exact⟨[],0,rfl,rfl⟩
  ·have ax:=qj n;have au:=zb (cV:=vTt) qny vs[i] g;have a7:yw (vs.take (i+1))=if vs[i] ∈ yw (vs.take i) then yw (vs.take i) else yw (vs.take i)++[vs[i]]:=by rw [zt n,qjt]
   simp only [↓rA,rU,d,j,an,ao,ap,zq,n,simprocAttr];refine qX fun a0 aC=>?_;have a:=aI a aC;cases hq:zy g vs[i] with
   | some q =>
    rw [hq,qA4] at au;have aS:=xI (cV:=vTt) qny vs[i] () g;rw [ZM] at aS;have aR:vs[i] ∈ yw (vs.take i):=by rw [<-M];exact Kw.1 (by simp_all)
    refine qa ?_;refine⟨_,_,_,_,List.Sublist.cons _ (zc _),zc _,zp _,zp _,g,w,?_,rfl,?_⟩
    ·simp_all
    ·exact qA
   | none =>
    rw [hq,qI9] at au;have aR:¬ vs[i] ∈ yw (vs.take i):=fun hm=>by
     rw [<-M] at hm;have:=Kw.2 hm;simp_all
    refine qa ?_;refine⟨_,_,_,_,List.Sublist.cons _ (zc _),zc _,zp _,zp _,g++[(w,vs[i],())],w+1,?_,?_,?_⟩
    ·simp_all
    ·rw [<-vc];rfl
    ·exact qA
  ·rw [qNc] at M;have ae:(yw vs).length=g.length:=by rw [<-M,zz]
   rw [ae];refine qn ?_;exact qc rfl
 rw [if_neg Z];by_cases z:vs=[]
 ·subst z;rw [if_pos rfl];exact qe
 rw [if_neg z];have X:0 < vs.length:=by rcases vs with _ | ⟨v,vs⟩ <;> simp at z ⊢
 have nz:¬ (vs.length:Int)=0:=by omega
 have Y:(0:Int) < (vs.length:Int):=by omega
 have nw:IntKind.i64.wrap ((vs.length:Int) - 1)=((vs.length - 1:Nat):Int):=by rw [qv (by omega) (by omega)];omega
 have sl:(yJ vs).length=vs.length:=(vi vs).length_eq;have av:vs.getD 0 val0=vs[0]:=by rw [vk,yb X];rfl
 have ae:vs.getD (vs.length - 1) val0=vs[vs.length - 1]:=by rw [vk,yb (by omega)];rfl
 have aW:(yJ vs).getD 0 val0=(yJ vs)[0]'(by omega):=by rw [vk,yb (by omega)];rfl
 have aY:(yJ vs).getD (vs.length - 1) val0=(yJ vs)[vs.length - 1]'(by omega):=by rw [vk,yb (by omega)];rfl
 simp only [↓rA,rU,a,O,Z,nz,simprocAttr];refine zB [] _ (zp _) (qup vs) ?_;rintro v bs rs ⟨⟨b1,rfl,rfl⟩,rfl⟩ a2;refine qa ?_;refine qr [_] [_,_] (zp _) (qi7 vs (by omega) b1) ?_;rintro v bs rs ⟨rfl,rfl,rfl⟩;simp only [↓qJ,↓zx,↓zA,zw,qu,kM,wz,wO,wT,QJ,kO,z7,Jx,List.cons_append,List.nil_append,wl,List.toList_toArray,results94];refine qox (fun S=>S.boxes=[(u,.c [vint 0,vint 0,vstr qH]),(H,.c (jP h U))]/\S.rows=[]/\S.σ 1=xT vs/\S.σ 2=qZ rows/\S.σ 3=vint t/\S.σ 4=ptr H/\S.σ 8=ptr u/\S.σ 9=vint vs.length/\S.σ 13=xT (yJ vs)) ?_ fun S ⟨d,j,I,g2,g3,e,k,y,J⟩=>?_
 ·exact qA
 by_cases o:h.op=(⟨#[102,105,114,115,116]⟩:Str)
 ·have O3:=eq_true o;rw [if_pos o,av];simp only [↓rA,rB,simprocAttr,d,j,I,e,k,a,O3,Y,zz,qI _ _ _ X,tU];exact qc rfl
 rw [if_neg o];by_cases C:h.op=(⟨#[108,97,115,116]⟩:Str)
 ·have O4:=eq_true C;have T:vs.length - 1 < vs.length:=by omega
  rw [if_pos C,ae];simp only [↓rA,rU,d,j,I,e,k,y,a,o,O4,nw,zq,T,simprocAttr];exact qc rfl
 rw [if_neg C];by_cases P:h.op=(⟨#[109,105,110]⟩:Str)
 ·have O5:=eq_true P;have T:0 < (yJ vs).length:=by omega
  rw [if_pos P,aW];simp only [↓rA,rB,simprocAttr,d,j,e,k,J,a,o,C,O5,sl,Y,zz,qI _ _ _ T,tU];exact qc rfl
 rw [if_neg P];by_cases o6:h.op=(⟨#[109,97,120]⟩:Str)
 ·have O6:=eq_true o6;have T:vs.length - 1 < (yJ vs).length:=by omega
  have q2:vs.length - 1 < vs.length:=by omega
  rw [if_pos o6,aY];simp only [↓rA,rB,simprocAttr,d,j,e,k,y,J,a,o,C,P,O6,sl,nw,zq,q2,zz,qI _ _ _ T,tU];exact qc rfl
 rw [if_neg o6,av];have aT:=j4 vs[0];simp only [↓rA,rB,simprocAttr,d,j,I,e,a,o,C,P,o6,Y,zz,qI _ _ _ X,tU];refine qX fun G aD=>?_;have a:=aI a aD;simp only [↓rA,rB,simprocAttr,d,I,Y,zz,qI _ _ _ X,tU];refine qo _ aT ?_;cases a6:vF vs[0]
 ·rw [if_pos (.inl rfl)];exact qe
 have aO:=qs3 vs 150 G [vint vs[0].kind] (fun v=>!decide (v.kind=vs[0].kind)) k1 (fun v _=>qxb v _ G) (by unfold Go.Proofs.YtkdgbjhbpbgdeaaGreatDoor.big;omega);refine qa ?_;refine qr [(G,.c [vint vs[0].kind])] [_,_] (zp _) aO ?_;rintro v bs rs ⟨rfl,rfl,rfl⟩;cases a3:(vs.any fun v=>!decide (v.kind=vs[0].kind))
 case true =>
  rw [if_pos (.inr rfl)];exact qe
 rw [if_neg (by simp)];refine qb fun aj aE=>?_;have a:=aI a aE;refine qb fun ak aF=>?_;have a:=aI a aF;refine qb fun al aG=>?_;have a:=aI a aG;have z0:(0:Int) / 18446744073709551616=0:=by decide
 have z1:(0:Int) % 18446744073709551616=0:=by decide
 simp only [↓rA,rB,simprocAttr,j,I,tU];refine zI Ty.mixed (by kernel_rfl) vs.length (fun i S=>S.boxes=[(al,.c (cW (Nv.sumW ((Z9 h t vs rows).take i)))),(ak,.c (cW (Nv.sumW ((vs.map fineV).take i)))),(aj,.c (cW (Nv.sumW ((vs.map (·.n)).take i)))),(G,.c [vint vs[0].kind]),(u,.c [vint 0,vint 0,vstr qH]),(H,.c (jP h U))]/\S.rows=[]/\S.σ 2=qZ rows/\S.σ 3=vint t/\S.σ 4=ptr H/\S.σ 8=ptr u/\S.σ 9=vint vs.length/\S.σ 13=xT (yJ vs)/\S.σ 14=ptr G/\S.σ 15=ptr aj/\S.σ 16=ptr ak/\S.σ 17=ptr al/\S.σ 91=xT vs/\S.σ 92=vint vs.length/\S.σ 93=vint i) ⟨_,_,_,_,zc _,zc _,zp _,zp _,?_⟩
  (fun i S n ⟨d,j,g2,g3,e,k,y,J,aa,ab,am,ac,aA,L,A⟩=>?_) (fun S ⟨d,j,g2,g3,e,k,y,J,aa,ab,am,ac,aA,L,A⟩=>?_)
 ·refine qB ?_;rfl
 ·have ax:=qj n;have aw:i < rows.length:=by omega
  have ag:=N vs[i] (zs n);have a8:=aP rows[i] (zs aw);have e1:Nv.sumW ((vs.map (·.n)).take (i+1))=ww (Nv.sumW ((vs.map (·.n)).take i)+vs[i].n):=by rw [KZ _ i (by rw [zz];omega),qQ0]
  have e2:Nv.sumW ((vs.map fineV).take (i+1))=ww (Nv.sumW ((vs.map fineV).take i)+fineV vs[i]):=by rw [KZ _ i (by rw [zz];omega),qQ0]
  have aq:i < (Z9 h t vs rows).length:=by rw [Vl af];exact n
  have e3:Nv.sumW ((Z9 h t vs rows).take (i+1))=ww (Nv.sumW ((Z9 h t vs rows).take i)+ww (fineV vs[i] * uc h.param (t - rows[i].event))):=by rw [KZ _ i aq,qy3 n aw aq]
  have aU:=Xp vs[i].n ag;have ar:=KC vs[i] ag;have wt:IntKind.i64.wrap (t - rows[i].event)=t - rows[i].event:=qv (by omega) (by omega);have aZ:=qim h.param (t - rows[i].event) hp (by unfold x5;omega);have a4:=qcz ag;have bb:=qGd h.param (t - rows[i].event);have aX:=UF (fineV vs[i]) (uc h.param (t - rows[i].event)) (by unfold ki;omega) (by unfold x5;omega);rw [e1,e2,e3];generalize Nv.sumW ((vs.map (·.n)).take i)=s1 at d ⊢;generalize Nv.sumW ((vs.map fineV).take i)=s2 at d ⊢;generalize Nv.sumW ((Z9 h t vs rows).take i)=s3 at d ⊢;refine qn ?_;refine qX fun a1 aH=>?_;have a:=aI a aH;simp only [↓rA,rU,d,ab,a,simprocAttr];refine qt _ aU.v ?_;refine qa ?_;refine qt _ (XX _ _).v ?_;refine qa ?_;refine qt _ ar.v ?_;refine qa ?_;refine qt _ (XX _ _).v ?_;refine qa ?_;refine qt _ ar.v ?_;refine qn ?_;refine qt _ aZ.v ?_;refine qa ?_;refine qt _ aX.v ?_;refine qa ?_;refine qt _ (XX _ _).v ?_;simp only [↓rA,rU,ac,A,a,ax,simprocAttr];refine⟨_,_,_,_,List.Sublist.cons _ (zc _),zc _,zp _,zp _,rfl,?_⟩;exact qA
 ·have aK:=qiw (l:=vs.map (·.n)) 9223372036854775808 (fun x hx=>by
   obtain⟨v,hv,rfl⟩:=x9.1 hx;have:=N v hv;unfold x5 at this;omega) (by rw [zz];omega)
  have aL:=qiw (l:=vs.map fineV) 9223372036854775808000000 (fun x hx=>by
   obtain⟨v,hv,rfl⟩:=x9.1 hx;exact qcz (N v hv)) (by rw [zz];omega)
  have aM:=qiw (l:=Z9 h t vs rows) 39614081257132168796771975168000000 (qJs N) (by rw [Vl af];omega);have td:(Z9 h t vs rows).take vs.length=Z9 h t vs rows:=xa (by rw [Vl af];simp);have tn:(vs.map (·.n)).take vs.length=vs.map (·.n):=xa (by simp);have tf:(vs.map fineV).take vs.length=vs.map fineV:=xa (by simp);rw [td,tn,tf] at d;have ed:((vs.zip (rows.map (·.event))).map fun p=>ww (fineV p.1 * uc h.param (t - p.2)))=Z9 h t vs rows:=rfl;rw [ed];have i1:x5 1:=by unfold x5;decide
  have i2:x5 4294967296:=by unfold x5;decide
  have i3:x5 (vs.length:Int):=by unfold x5;omega
  by_cases D:h.op=(⟨#[115,117,109]⟩:Str)
  ·have O7:=eq_true D;rw [if_pos D];simp only [↓rA,rU,d,e,aa,ab,L,A,a,zq,WR,O7,simprocAttr];refine qo _ (wF _ _ 1 aK i1) ?_;exact qe
  rw [if_neg D];by_cases R:h.op=(⟨#[109,101,97,110]⟩:Str)
  ·have O8:=eq_true R;rw [if_pos R];simp only [↓rA,rU,d,e,y,am,L,A,a,zq,WR,D,O8,simprocAttr];refine qo _ (wF 3 _ (vs.length:Int) aL i3) ?_;exact qe
  rw [if_neg R];by_cases o9:h.op=(⟨#[100,101,99,97,121]⟩:Str)
  ·have O9:=eq_true o9;rw [if_pos o9];simp only [↓rA,rU,d,e,ac,L,A,a,zq,WR,D,R,O9,simprocAttr];refine qo _ (wF 3 _ 4294967296 aM i2) ?_;exact qe
  rw [if_neg o9];by_cases ah:h.op=(⟨#[113,117,97,110,116,105,108,101]⟩:Str)
  ·have ay:=eq_true ah;rw [if_pos ah];have aV:qvy h.param vs.length=min vs.length (max 1 (IntKind.i64.wrap ((IntKind.i64.wrap (IntKind.i64.wrap (h.param * (vs.length:Int))+999)).tdiv 1000)).toNat):=rfl;rw [aV];generalize w1:IntKind.i64.wrap ((IntKind.i64.wrap (IntKind.i64.wrap (h.param * (vs.length:Int))+999)).tdiv 1000)=W;have er:(if (if W > 1 then W else 1) < (vs.length:Int) then (if W > 1 then W else 1) else (vs.length:Int))=((min vs.length (max 1 W.toNat):Nat):Int):=by
    by_cases h1:W > 1
    ·omega
    ·omega
   generalize W.toNat=Q at er ⊢;have hK:1<=min vs.length (max 1 Q)/\min vs.length (max 1 Q)<=vs.length:=by omega
   generalize min vs.length (max 1 Q)=K at er hK ⊢;have wk:IntKind.i64.wrap ((K:Int) - 1)=((K - 1:Nat):Int):=by rw [qv (by omega) (by omega)];omega
   have ad:K - 1 < (yJ vs).length:=by omega
   have aJ:K - 1 < vs.length:=by omega
   have eg:(yJ vs).getD (K - 1) val0=(yJ vs)[K - 1]:=by rw [vk,yb ad];rfl
   have aQ:=qJc (yJ vs)[K - 1].n (N _ ((vi vs).mem_iff.1 (zs ad)));rw [eg];simp only [↓rA,rB,simprocAttr,d,e,y,J,aa,L,A,a,zq,WR,D,R,o9,ay,w1,er,wk,sl,aJ,zz,qI _ _ _ ad,tU];refine qt _ aQ.v ?_;refine qa ?_;refine qt _ (qCp _).v ?_;exact qe
  rw [if_neg ah];refine qn ?_;exact qc rfl
theorem qu1 (n:Int):zk prog 59 [vint n] (qq (jb n)):=by
 refine oE func59 fun F d a=>?_;refine qa ?_;unfold jb;by_cases h:0<=n
 ·exact qe (h:=fb (by simp []))
 ·exact qe (h:=fb (by simp []))
theorem qo4 (k s:Int):zk prog 58 [.agg [vint k,vint s]] (qq (uJ k s)):=by
 refine oE func58 fun F w h=>?_;refine qb fun j n=>?_;by_cases d:k=1
 ·have e:uJ k s=decide (s=0):=by unfold uJ;rw [if_pos d]
  rw [e];exact qe
 by_cases a:k=2∨k=3∨k=4
 ·have e:uJ k s=(decide (1<=s) && decide (s<=1099511627776)):=by unfold uJ;rw [if_neg d,if_pos a]
  rw [e];rcases a with rfl | rfl | rfl
  all_goals by_cases q:1<=s
  all_goals (refine qa ?_)
  all_goals exact qc rfl
 ·have e:uJ k s=false:=by unfold uJ;rw [if_neg d,if_neg a]
  have o:¬ k=2:=fun e=>a (.inl e);have p:¬ k=3:=fun e=>a (.inr (.inl e));have u:¬ k=4:=fun e=>a (.inr (.inr e));rw [e];exact qe
def qo7:Option (Int × Int)->V
 | some (a,z)=>.tup [.agg [vint a,vint z],qq true]
 | none=>.tup [.agg [vint 0,vint 0],qq false]
theorem Vw (k s t:Int):zk prog 25 [.agg [vint k,vint s],vint t] (qo7 (xL k s t)):=by
 have I:=qo4 k s;have H:=qu1 t;refine oE func25 fun F T K=>?_;refine qb fun M z=>?_;refine qb fun N A=>?_;have C:=aI z A;refine qi _ I ?_;cases w:uJ k s
 ·have e:xL k s t=none:=by unfold xL;rw [w];rfl
  rw [e];exact qe
 refine qi _ H ?_;cases q:jb t
 ·have e:xL k s t=none:=by unfold xL;rw [w,q];rfl
  rw [e];exact qe
 have u:xL k s t=(if k=1 then some (0,t) else if k=2 then some (max 0 (t - s+1),t) else if k=3 then some (t - t.tmod s,t) else none):=by unfold xL;rw [w,q];rfl
 have h:0<=t/\t<=1099511627776:=by
  unfold jb at q;simpa using q
 rw [u];by_cases j:k=1
 ·rw [if_pos j];exact qe
 have n:(k=2∨k=3∨k=4)->1<=s/\s<=1099511627776:=fun O=>by
  unfold uJ at w;simp_all
 rw [if_neg j];by_cases d:k=2
 ·have G:=n (.inl d);have o:IntKind.i64.wrap (t - s)=t - s:=qv (by omega) (by omega);have p:IntKind.i64.wrap (t - s+1)=t - s+1:=qv (by omega) (by omega);rw [if_pos d];refine qa ?_;have y:∀ x:Int,(if x > 0 then x else 0)=max 0 x:=fun x=>by omega
  exact qc (by rw [y];rfl)
 rw [if_neg d];by_cases a:k=3
 ·have G:=n (.inr (.inl a));rw [if_pos a];have J:¬ s=0:=by omega
  have P:=Int.mul_tdiv_add_tmod t s;have Q:=Int.tmod_nonneg s h.1;have R:0<=t.tdiv s:=Int.tdiv_nonneg h.1 (by omega);have S:t.tdiv s<=t:=Int.tdiv_le_self s h.1;have D:t.tdiv s * s=t - t.tmod s:=by rw [qQv];omega
  have o:IntKind.i64.wrap (t.tdiv s)=t.tdiv s:=qv (by omega) (by omega);have p:IntKind.i64.wrap (t.tdiv s * s)=t - t.tmod s:=by rw [D];exact qv (by have:=Int.tmod_lt_of_pos t (show 0 < s by omega);omega) (by omega)
  have L:k=3:=a;simp only [↓rA,rU,C,a,J,o,p,simprocAttr];exact qc rfl
 ·rw [if_neg a];exact qe
noncomputable def qhh (c:Cat) (h:Hd) (l:List E) (key:Str) (t:Int) (r:Rw):Bool:=QY ((Q4 c.tables h.table).getD tab0) h (l.getD 0 exp0) (l.getD 1 exp0) key t r
theorem YR (c:Cat) (rows:List Rw) (h:Hd) (l:List E) (key:Str) (t:Int):Wo c rows h l key t=if wC c h l t=true then rows.filter (qhh c h l key t) else []:=by
 unfold Wo wC qhh;have e:ud c h.table=Q4 c.tables h.table:=rfl;rw [e];cases Q4 c.tables h.table with
 | none=>simp
 | some j =>
  match l with
  | []=>simp
  | [a]=>simp
  | [a,b]=>simp
  | a::b::d::r=>simp
structure qF3 (c:Cat) (rows:List Rw) (l:List E):Prop where
 tabs:c.tables.length<=1000000
 flds:∀ tb ∈ c.tables,tb.fields.length<=Go.Proofs.YtkdgbjhbpbgdeaaGreatDoor.big
 few:rows.length<=1000
 row:∀ r ∈ rows,qdv r
 args:∀ x ∈ l,uh x
theorem qha (y:CalcOk) {c:Cat} {rows:List Rw} {l:List E} (n:qF3 c rows l) (h:Hd) (key:Str) (t:Int) (e j k d:Nat) (hd:(d ≠ k/\k ≠ d)/\(d ≠ j/\j ≠ d)/\(d ≠ e/\e ≠ d)/\(k ≠ j/\j ≠ k)/\(k ≠ e/\e ≠ k)/\(j ≠ e/\e ≠ j)) :
  ∀ r ∈ rows,wC c h l t=true->Ok prog 55 [.agg (zJ r),ptr e,ptr j,ptr k,ptr d] (bsT e j k d c h l key t) fun v u rs=>v=qq (qhh c h l key t r)/\u=bsT e j k d c h l key t/\rs=[]:=fun r A o=>by
 unfold wC at o;simp only [k7,decide_eq_true_eq] at o;obtain⟨w,_,x,_⟩:=o
 match l,x,n with
 | [a,b],_,n =>
  obtain⟨q,p⟩:=qPw.1 w;have z:q ∈ c.tables:=qOc p;have:=qsy y q h a b key t r (n.flds q z) (n.row r A) (n.args a (by simp)) (n.args b (by simp)) e j k d hd;unfold qhh;rw [p];simp only [bsT,p];exact this
theorem nd7 {o n d k j e a:Nat} {L:List Nat} (h:(o::n::d::k::j::e::a::L).Nodup) :
  ((o ≠ n/\n ≠ o)/\(o ≠ a/\a ≠ o)/\(n ≠ a/\a ≠ n)/\(d ≠ a/\a ≠ d)/\(k ≠ a/\a ≠ k)/\(j ≠ a/\a ≠ j)/\(e ≠ a/\a ≠ e)) /\
  ((d ≠ k/\k ≠ d)/\(d ≠ j/\j ≠ d)/\(d ≠ e/\e ≠ d)/\(k ≠ j/\j ≠ k)/\(k ≠ e/\e ≠ k)/\(j ≠ e/\e ≠ j)):=by
 simp only [js,xb,not_or] at h;obtain⟨⟨p,A,C,D,F,q,_⟩,⟨c1,G,H,I,u,_⟩,⟨d1,d2,d3,d4,_⟩,⟨w,x,y,_⟩,⟨f1,f2,_⟩,⟨z,_⟩,_⟩:=h;exact⟨⟨⟨p,qKh p⟩,⟨q,qKh q⟩,⟨u,qKh u⟩,⟨d4,qKh d4⟩,⟨y,qKh y⟩,⟨f2,qKh f2⟩,⟨z,qKh z⟩⟩,⟨d1,qKh d1⟩,⟨d2,qKh d2⟩,⟨d3,qKh d3⟩,⟨w,qKh w⟩,⟨x,qKh x⟩,⟨f1,qKh f1⟩⟩
theorem qf3 (g:FuncId) (b:Nat):zk prog 48 [nilS,VZ g b] (vint (-1)):=by
 refine oE func48 fun F o d=>?_;refine qa ?_;refine qG Ty.mixed (by rfl) 0 (fun i S=>S.boxes=[]/\S.rows=[]/\S.σ 0=nilS/\S.σ 7=vint 0/\S.σ 8=vint i) ⟨0,?_⟩ (fun i S a=>absurd a (qOe i)) (fun S ⟨k,n,e,h,j⟩=>?_)
 ·exact qA
 ·exact qe
theorem qg6 (g:FuncId) (b:Nat):zk prog 20 [nilS,VZ g b] nilS:=by
 refine oE func20 fun F d a=>?_;refine qi _ (qf3 g b) ?_;exact qe
theorem qil (S:CalcOk) {c:Cat} {rows:List Rw} {l:List E} (u:qF3 c rows l) (h:Hd) (key:Str) (t:Int) (X:¬ h.wk=4):zk prog 8 [zO c,qZ rows,.agg (jP h l),vstr key,vint t] (qZ (zW c rows h l key t)):=by
 have Y:zg prog 27=true:=by kernel_rfl
 have C:=Vw h.wk h.ws t;have W:=u.few;have N:zW c rows h l key t=(match xL h.wk h.ws t with | some (a,z)=>(if wC c h l t=true then rows.filter (qhh c h l key t) else []).filter fun r=>!(decide (r.event < a) || decide (z < r.event)) | none=>[]):=by
  unfold zW qni;rw [if_neg X,YR]
  try rfl
 have H:(if wC c h l t=true then rows.filter (qhh c h l key t) else []).length<=1000:=by
  split
  ·exact km (qMu _ _) W
  ·simp
 refine Ok.boxL (fun e T=>by obtain⟨r,_,rfl⟩:=x9.1 T;rfl) ?_;rw [N];refine oE func8 fun F w0 I0=>?_;refine qb fun k h5=>?_;refine qb fun n h7=>?_;refine qa ?_;refine zB [] _ (zp _) (qxo c rows h l key t u.tabs) ?_;rintro v A M ⟨⟨K,x,i8,y,w,I,J,rfl,rfl⟩,rfl⟩ P;obtain⟨R,hd⟩:=nd7 (L:=[n,k]) P;refine qa ?_;refine zB (bsN K x i8 y w I J c rows h l key t (wC c h l t)) [_,_] (zp _) (qhf c rows h l key t (by omega) (wC c h l t) (qhh c h l key t) K x i8 y w I J R (qha S u h key t x i8 y w hd)) ?_;rintro v A M ⟨rfl,D⟩ Q;generalize (if wC c h l t=true then rows.filter (qhh c h l key t) else [])=j at D H ⊢;rcases D with⟨O,rfl,rfl⟩ | ⟨b,o,G,rfl,rfl⟩
 ·subst O;refine qi _ C ?_;cases xL h.wk h.ws t with
  | none =>
   simp only [qo7];refine qb fun d p=>?_;refine qa ?_;exact r0 ⟨rfl,.inl ⟨rfl,rfl⟩⟩
  | some q =>
   obtain⟨a,z⟩:=q;simp only [qo7];refine qb fun d p=>?_;refine qi _ (qg6 _ d) ?_;refine qa ?_;exact r0 ⟨rfl,.inl ⟨rfl,rfl⟩⟩
 ·have hb:(b ≠ n/\n ≠ b)/\(b ≠ k/\k ≠ b):=by
   have:b ∉ [n,k]:=(js.1 Q).1;simp only [xb,y8,or_false,not_or] at this;exact⟨⟨this.1,qKh this.1⟩,⟨this.2,qKh this.2⟩⟩
  refine qi _ C ?_;cases xL h.wk h.ws t with
  | none =>
   simp only [qo7];refine qb fun d p=>?_;refine qa ?_;exact r0 ⟨rfl,.inl ⟨rfl,rfl⟩⟩
  | some q =>
   obtain⟨a,z⟩:=q;simp only [qo7];refine qb fun d p=>?_;have aa:b ≠ d/\d ≠ b:=p.1;refine qa ?_;refine qr [(b,.c ((j.map zJ).flatten++zC ((o - j.length) * 8))),(d,.c [vint a,vint z])] [_,_] (List.Perm.swap _ _ _) (qR7 j (fun r=>decide (r.event < a) || decide (z < r.event)) _ #[.pointer (some ⟨d,0,none⟩)] b o [(d,.c [vint a,vint z])] Y (fun r _=>qBb r a z d) _ H G) ?_;rintro v A M ⟨rfl,Z,rfl,rfl⟩;simp only [↓rA,rB,simprocAttr,results8];have U:((kp (fun r=>decide (r.event < a) || decide (z < r.event)) j).map zJ).length<=o:=by
    rw [zz];exact km (qMu _ _) G
   exact⟨_,[_],[],Le.refl _,List.Sublist.cons_cons _ (zn _),zn _,rfl,.inr ⟨b,o,Z,U,by rw [zz];rfl,rfl⟩⟩
end Go.Proofs.YtkdgbjhbpbgdeaaGreatDoor
namespace Go.Nv
mutual
def Ub:E->List Str
 | .mk h l=>if h.kind=1 then [] else if h.kind=3 then [h.name] else if h.kind=5 then [] else if h.kind=4 then h.name::refEs l else refEs l
def refEs:List E->List Str
 | []=>[]
 | x::r=>Ub x++refEs r
end
theorem uS {m:Str}:∀ {l:List E},m ∈ refEs l↔∃ x ∈ l,m ∈ Ub x
 | []=>by simp [refEs]
 | x::r=>by
  rw [refEs,z6,uS (l:=r)];simp
variable {h:Hd}
theorem qb7 (l:List E):Ub (.mk h l)=if h.kind=1 then [] else if h.kind=3 then [h.name] else if h.kind=5 then [] else if h.kind=4 then h.name::refEs l else refEs l:=by rfl
variable {d:Str->Str->Val} {vs:List Val} {a:Val} {key:Str}
theorem qod (k:h.kind=1):evH d h vs a key=h.val:=by unfold evH;simp_all
theorem qc2 (k:h.kind=3):evH d h vs a key=d h.name key:=by unfold evH;simp_all
theorem KH (k:h.kind=4):evH d h vs a key=if vs.length ≠ 1 then val0 else if (vs.getD 0 val0).kind ≠ 5 then val0 else d h.name (vs.getD 0 val0).s:=by unfold evH;simp_all
theorem qc3 (k:h.kind=5):evH d h vs a key=a:=by unfold evH;simp_all
theorem qoc (e:¬ h.kind=1) (j:¬ h.kind=3) (k:¬ h.kind=4) (n:¬ h.kind=5):evH d h vs a key=yL h vs:=by unfold evH;simp_all
section
variable {c:Cat} {rows:List Rw} {t:Int}
theorem Y7 (a:Str->Str->Val) (key:Str):∀ l:List E,evXs c rows t a l key=l.map fun x=>jt c rows t a x key
 | []=>by rfl
 | x::r=>by rw [evXs,Y7 a key r];rfl
theorem qf5 (a:Str->Str->Val) (feaI:Str->Str->FID->Prop) (key:Str):∀ l:List E,idXs c rows t a feaI l key=l.map fun x=>W8 c rows t a feaI x key
 | []=>by rfl
 | x::r=>by rw [idXs,qf5 a feaI key r];rfl
theorem qc1 (a:Str->Str->Val) (h:Hd) (l:List E) (key:Str):jt c rows t a (.mk h l) key=evH a h (l.map fun x=>jt c rows t a x key) (VE c rows t h l key) key:=by
 rw [jt,Y7]
theorem qk7 (a:Str->Str->Val) (feaI:Str->Str->FID->Prop) (h:Hd) (l:List E) (key:Str) :
  W8 c rows t a feaI (.mk h l) key=idH feaI h (l.map fun x=>jt c rows t a x key) (l.map fun x=>W8 c rows t a feaI x key) (VF c rows t h l key) key:=by
 rw [W8,Y7,qf5]
end
end Go.Nv
open Go.Proofs.YtkdgbjhbpbgdeaaGreatDoor
namespace Go.Proofs.YtkdgbjhbpbgdeaaGreatDoor.Ses
abbrev tick (x:Int):Prop:=0<=x/\x<=1099511627776
theorem qcw (x:Int):jb x=true↔tick x:=by simp [jb,tick]
def apart (l:List Nat):Prop:=l.Pairwise fun a b=>a ≠ b/\b ≠ a
theorem qir (n:Int):zk prog 59 [vint n] (qq (jb n)):=by
 refine oE func59 fun F d a=>?_;refine qa ?_;unfold jb;by_cases h:0<=n
 ·exact qe (h:=qQ (by simp [h]))
 ·exact qe (h:=qQ (by simp [h]))
theorem qof {α:Type} {A B:List α} {n:Nat} (h:A.length=n):(A++B).drop n=B:=qK3 h
theorem qVz (x t:Int) (a:Nat) (h:x<=t):Ok prog 62 [vint x,ptr a] [(a,.c [vint t])] fun v d rs=>v=qq false/\d=[(a,.c [vint t])]/\rs=[]:=by
 refine oE func62 fun F k e=>?_;have j:¬ t < x:=by omega
 refine qa ?_;exact⟨_,[_],[],Le.refl _,zc _,zn _,rfl,rfl,rfl⟩
theorem qWr (x:Int) (h:tick x):Ok prog 90 [vint x] [] fun v a rs=>v=qq false/\a=[]/\rs=[]:=by
 refine oE func90 fun F e d=>?_;refine qi _ (qir x) ?_;rw [(qcw x).2 h];refine qa ?_;exact⟨_,[],[],Le.refl _,zc _,zn _,rfl,rfl,rfl⟩
theorem qvg (l:List Int) (i:Nat) (a:i < l.length) (rest:List V):∃ A B:List V,A.length=i/\l.map vint++rest=A++(vint l[i]::B):=by
 refine⟨(l.take i).map vint,(l.drop (i+1)).map vint++rest,?_,?_⟩
 ·rw [zz,kB,qKt (by omega)]
 ·conv=>lhs;rw [<-qBq i l,qGt a]
  simp only [k8,z7,jm,List.cons_append]
abbrev fnP (a:Nat):V:=.lit (.func (.func 62) #[] #[.pointer (some ⟨a,0,none⟩)])
theorem qTy (l:List Int) (t:Int) (a:Nat) (y:∀ i (h:i < l.length),l[i]<=t) (b c:Nat) (hb:b ≠ a/\a ≠ b) (rest:List V) (C:l.length<=1000) :
  Ok prog 89 [slI b l.length c,fnP a] ((a,.c [vint t])::(b,.c (l.map vint++rest))::[]) fun v w rs =>
   v=vint (-1)/\w=(a,.c [vint t])::(b,.c (l.map vint++rest))::[]/\rs=[]:=by
 refine oE func89 fun F D z=>?_;refine qa ?_;refine qG Ty.mixed (by kernel_rfl) l.length (fun i S=>S.boxes=(a,.c [vint t])::(b,.c (l.map vint++rest))::[]/\S.rows=[]/\S.σ 0=slI b l.length c/\S.σ 1=fnP a/\S.σ 7=vint l.length/\S.σ 8=vint i) ⟨0,?_⟩ (fun i S j ⟨d,u,k,o,p,q⟩=>?_) (fun S ⟨d,u,k,o,p,q⟩=>?_)
 ·exact kK
 ·obtain⟨X,Y,A,e⟩:=qvg l i j rest;rw [e] at d;have x:X.length=i * 1:=by omega
  simp only [↓rA,rU,d,u,k,o,p,q,hb,zq,j,qof x,simprocAttr];refine qr [_] [_] (zp _) (qVz l[i] t a (y i j)) ?_;rintro v w rs ⟨rfl,rfl,rfl⟩;simp only [↓rA,rU,d,u,k,o,p,q,hb,zq,j,qv (n:=(i:Int)+1) (by omega) (by omega),simprocAttr];exact⟨0,by rw [e];rfl,rfl⟩
 ·refine qn ?_;exact⟨_,[_,_],[],Le.refl _,zc _,zn _,rfl,rfl,rfl⟩
theorem qTe (t:Int) (a:Nat):Ok prog 89 [nilS,fnP a] ((a,.c [vint t])::[]) fun v d rs=>v=vint (-1)/\d=(a,.c [vint t])::[]/\rs=[]:=by
 refine oE func89 fun F q h=>?_;refine qa ?_;refine qG Ty.mixed (by kernel_rfl) 0 (fun i S=>S.boxes=(a,.c [vint t])::[]/\S.rows=[]/\S.σ 0=nilS/\S.σ 7=vint 0/\S.σ 8=vint i) ⟨0,?_⟩ (fun i S e=>absurd e (qOe i)) (fun S ⟨o,p,j,k,n⟩=>?_)
 ·exact kK
 ·refine qa ?_;exact⟨_,[_],[],Le.refl _,zc _,zn _,rfl,rfl,rfl⟩
theorem qTj (l:List Int) (t:Int) (a:Nat) (j:∀ i (h:i < l.length),l[i]<=t) (b c:Nat) (hb:b ≠ a/\a ≠ b) (rest:List V) (e:l.length<=1000) :
  Ok prog 60 [slI b l.length c,fnP a] ((a,.c [vint t])::(b,.c (l.map vint++rest))::[]) fun v d rs =>
   v=slI b l.length c/\d=(a,.c [vint t])::(b,.c (l.map vint++rest))::[]/\rs=[]:=by
 refine oE func60 fun F n k=>?_;refine qa ?_;refine qr [_,_] [] (zp _) (qTy l t a j b c hb rest e) ?_;rintro v d rs ⟨rfl,rfl,rfl⟩;simp only [↓rA,rU,hb,simprocAttr];exact⟨_,[_,_],[],Le.refl _,zc _,zn _,rfl,rfl,rfl⟩
theorem qS1 (t:Int) (a:Nat):Ok prog 60 [nilS,fnP a] ((a,.c [vint t])::[]) fun v d rs=>v=nilS/\d=(a,.c [vint t])::[]/\rs=[]:=by
 refine oE func60 fun F h e=>?_;refine qa ?_;refine qr [_] [] (zp _) (qTe t a ) ?_;rintro v d rs ⟨rfl,rfl,rfl⟩;simp only [↓rA,rU,simprocAttr];exact⟨_,[_],[],Le.refl _,zc _,zn _,rfl,rfl,rfl⟩
abbrev fnB:V:=.lit (.func (.func 90) #[] #[])
theorem qTz (l:List Int) (x:∀ i (h:i < l.length),tick l[i]) (b c:Nat) (rest:List V) (A:l.length<=1000) :
  Ok prog 89 [slI b l.length c,fnB] ((b,.c (l.map vint++rest))::[]) fun v u rs =>
   v=vint (-1)/\u=(b,.c (l.map vint++rest))::[]/\rs=[]:=by
 refine oE func89 fun F C y=>?_;refine qa ?_;refine qG Ty.mixed (by kernel_rfl) l.length (fun i S=>S.boxes=(b,.c (l.map vint++rest))::[]/\S.rows=[]/\S.σ 0=slI b l.length c/\S.σ 1=fnB/\S.σ 7=vint l.length/\S.σ 8=vint i) ⟨0,?_⟩ (fun i S d ⟨a,q,j,k,o,p⟩=>?_) (fun S ⟨a,q,j,k,o,p⟩=>?_)
 ·exact kK
 ·obtain⟨X,Y,z,e⟩:=qvg l i d rest;rw [e] at a;have w:X.length=i * 1:=by omega
  simp only [↓rA,rU,a,q,j,k,o,p,zq,d,qof w,simprocAttr];refine qr [] [_] (zp _) (qWr l[i] (x i d)) ?_;rintro v u rs ⟨rfl,rfl,rfl⟩;simp only [↓rA,rU,a,q,j,k,o,p,zq,d,qv (n:=(i:Int)+1) (by omega) (by omega),simprocAttr];exact⟨0,by rw [e];rfl,rfl⟩
 ·refine qn ?_;exact⟨_,[_],[],Le.refl _,zc _,zn _,rfl,rfl,rfl⟩
theorem qTf:Ok prog 89 [nilS,fnB] ([]) fun v a rs=>v=vint (-1)/\a=[]/\rs=[]:=by
 refine oE func89 fun F p e=>?_;refine qa ?_;refine qG Ty.mixed (by kernel_rfl) 0 (fun i S=>S.boxes=[]/\S.rows=[]/\S.σ 0=nilS/\S.σ 7=vint 0/\S.σ 8=vint i) ⟨0,?_⟩ (fun i S d=>absurd d (qOe i)) (fun S ⟨n,o,h,j,k⟩=>?_)
 ·exact kK
 ·refine qa ?_;exact⟨_,[],[],Le.refl _,zc _,zn _,rfl,rfl,rfl⟩
theorem qTk (l:List Int) (e:∀ i (h:i < l.length),tick l[i]) (b c:Nat) (rest:List V) (d:l.length<=1000) :
  Ok prog 60 [slI b l.length c,fnB] ((b,.c (l.map vint++rest))::[]) fun v a rs =>
   v=slI b l.length c/\a=(b,.c (l.map vint++rest))::[]/\rs=[]:=by
 refine oE func60 fun F k j=>?_;refine qa ?_;refine qr [_] [] (zp _) (qTz l e b c rest d) ?_;rintro v a rs ⟨rfl,rfl,rfl⟩;simp only [↓rA,rU,simprocAttr];exact⟨_,[_],[],Le.refl _,zc _,zn _,rfl,rfl,rfl⟩
theorem qS2:Ok prog 60 [nilS,fnB] ([]) fun v a rs=>v=nilS/\a=[]/\rs=[]:=by
 refine oE func60 fun F e d=>?_;refine qa ?_;refine qr [] [] (zp _) (qTf ) ?_;rintro v a rs ⟨rfl,rfl,rfl⟩;simp only [↓rA,rU,simprocAttr];exact⟨_,[],[],Le.refl _,zc _,zn _,rfl,rfl,rfl⟩
theorem qSf:Ok prog 61 [nilS] [] fun v a rs=>v=nilS/\a=[]/\rs=[]:=by
 refine oE func61 fun F e d=>?_;refine qa ?_;exact r0 ⟨rfl,rfl,rfl⟩
theorem qSr (l:List Int) (p:0 < l.length) (b c:Nat) (rest:List V) (q:l.length<=1000) (_:l.length<=c) :
  Ok prog 61 [slI b l.length c] [(b,.c (l.map vint++rest))] fun v h rs =>
   ∃ a c',(a ≠ b/\b ≠ a)/\l.length<=c'/\v=slI a l.length c'/\h=[(a,.c (l.map vint++zC (c' - l.length))),(b,.c (l.map vint++rest))]/\rs=[]:=by
 refine oE func61 fun F u n=>?_;refine qa ?_;refine jS.r ?_;refine qb fun o j=>?_;refine qa ?_;refine jS.r ?_;refine qa ?_;refine⟨by simp,⟨rfl,by omega⟩,fun a c' e k=>?_⟩;simp only [wo,J0,decide_true,qL3,kA,if_false,List.filter_nil,j,decide_false,qMw,if_true] at e ⊢;have d:=zS e;simp only [Nb] at d;refine qa ?_;exact⟨_,[_,_],[],Le.refl _,zc _,zn _,a,c',⟨d.1.2,d.1.1⟩,k,rfl,by rw [qBf (by simp),qPh],rfl⟩
end Go.Proofs.YtkdgbjhbpbgdeaaGreatDoor.Ses
namespace Go.VL
open Go.RowKit Go.Sort Go.Shelf Go.Lib Go.Proofs
theorem Ok.sortIntsNil {P:Program} {h:Ren} (L:SlLaysN.n53 P h) (cap:Nat):zk P (h.f 53) [.lit (.slice none 0 cap)] (.tup []):=by
 intro w I d a j;obtain rfl:d=[.slice none 0 cap]:=by
  match d,a with
  | [x],a=>simp only [V.reps,V.rep,and_true] at a;rw [a]
  | [],a=>simp [V.reps] at a
  | _::_::_,a=>simp [V.reps] at a
 refine(AnyG.slices_Sort_int_none L none cap w).mono fun e o ⟨k,n⟩=>?_;subst n;exact⟨_,.tup [],[],[],I,k,by simp only [V.rep];exact⟨#[],rfl,by simp [V.reps]⟩,qV.refl _ _ _,j,by simp [qL],rfl,rfl,rfl⟩
end Go.VL
namespace Go.Proofs.YtkdgbjhbpbgdeaaGreatDoor.Ses
theorem qU3 (a:List Int) (n:a.Pairwise (·<=·)) (rest:List V) (b cap:Nat) (o:a.length<=1000) :
  Ok prog 91 [slI b a.length cap] [(b,.c (a.map vint++rest))] fun v d rs=>v=.tup []/\d=[(b,.c (a.map vint++rest))]/\rs=[] :=
 Ok.mono (qU4 a rest b cap (by omega)) fun v d rs ⟨e,j,k⟩=>⟨e,by rw [j,List.mergeSort_of_pairwise (n.imp fun h=>by simpa using h)],k⟩
theorem qUf:zk prog 91 [nilS] (.tup []):=Ok.sortIntsNil Tryz.sortI 0
abbrev fnS (d a:Nat):V:=.lit (.func (.func 92) #[] #[.pointer (some ⟨d,0,none⟩),.pointer (some ⟨a,0,none⟩)])
theorem qS8 (l:List Int) (u:0 < l.length) (y:l.Pairwise (·<=·)) (z:∀ i (h:i < l.length),tick l[i]) (g:Int) (k ce:Nat) (rest:List V) (q:l.length<=1000) (hc:l.length<=ce) :
  Ok prog 63 [slI k l.length ce,vint g] [(k,.c (l.map vint++rest))] fun v n rs =>
   ∃ a c' j d,apart [a,j,d]/\l.length<=c'/\v=fnS j d/\n=[(a,.c (l.map vint++zC (c' - l.length))),(j,.c [slI a l.length c']),(d,.c [vint g])]/\rs=[]:=by
 refine oE func63 fun F G A=>?_;refine qb fun d C=>?_;refine qa ?_;refine zB [_] [_] (List.Perm.swap _ _ _) (qSr l u k ce rest q hc) ?_;rintro v n rs ⟨a,c',D,x,rfl,rfl,rfl⟩ p;simp only [List.cons_append,List.nil_append,z7,Jx,js,xb,y8,or_false,not_or,qOb,not_false_eq_true,and_true] at p;have w:a ≠ d/\d ≠ a:=⟨p.1.2,fun e=>p.1.2 e.symm⟩;refine qa ?_;refine qr [_] [_,_] (zp _) (qTk l z a c' (zC (c' - l.length)) q) ?_;rintro v n rs ⟨rfl,rfl,rfl⟩;refine qb fun j o=>?_;refine qa ?_;refine qr [(a,.c (l.map vint++zC (c' - l.length)))] [(j,.c [slI a l.length c']),(k,.c (l.map vint++rest)),(d,.c [vint g])] (List.Perm.swap _ _ _) (qU3 l y (zC (c' - l.length)) a c' q) ?_;rintro v n rs ⟨rfl,rfl,rfl⟩;refine qa ?_;refine⟨_,[_,_,_],[],Le.refl _,List.Sublist.cons_cons _ (List.Sublist.cons_cons _ (List.Sublist.cons _ (zc _))),zn _,a,c',j,d,?_,x,rfl,rfl,rfl⟩;simp only [apart,vt,xb,y8,or_false,forall_eq_or_imp,forall_eq,List.Pairwise.nil,and_true,false_imp_iff,implies_true];exact⟨⟨o.1,w⟩,o.2.2.1.2,o.2.2.1.1⟩
theorem qSu (g:Int):Ok prog 63 [nilS,vint g] [] fun v e rs=>∃ d a,apart [d,a]/\v=fnS d a/\e=[(d,.c [nilS]),(a,.c [vint g])]/\rs=[]:=by
 refine oE func63 fun F n j=>?_;refine qb fun a k=>?_;refine qa ?_;refine qr [] [_] (zp _) qSf ?_;rintro v e rs ⟨rfl,rfl,rfl⟩;refine qa ?_;refine qr [] [_] (zp _) qS2 ?_;rintro v e rs ⟨rfl,rfl,rfl⟩;refine qb fun d h=>?_;refine qi _ qUf ?_;refine qa ?_;exact⟨_,[_,_],[],Le.refl _,zc _,zn _,d,a,by simp [apart,h],rfl,rfl,rfl⟩
def qSw (l:List Int) (g:Int) (o n:Nat):Prop:=∀ j,o < j->j < n->l.getD j 0 - l.getD (j - 1) 0<=g
def qn9 (l:List Int) (g:Int) (o:Nat):Prop:=o=0∨o=l.length∨¬ l.getD o 0 - l.getD (o - 1) 0<=g
abbrev cS (l:List Int) (g:Int) (a c' e d o off:Nat) (r:List V) (J:Bx):Bx:=(a,.c (l.map vint++r))::(e,.c [.lit (.slice (some ⟨a,off,none⟩) (l.length - o) (c' - o))])::(d,.c [vint g])::J
theorem qh8 {l:List Int} {k m:Nat} (h:k < l.length) (d:m=k) (r:List V):∃ B,(l.map vint++r).drop m=vint (l.getD k 0)::B:=by
 obtain⟨X,Y,a,e⟩:=qvg l k h r;exact⟨Y,by rw [e,qK3 (by omega)];simp [List.getD,h]⟩
theorem qVd (l:List Int) (h0:0 < l.length) (hs:∀ i,i < l.length->tick (l.getD i 0)) (g:Int) (u c' p d:Nat) (q:apart [u,p,d]) (r:List V) (hl:l.length<=1000) (hc:l.length<=c') (y:Nat) (J:Nat->Bx->Prop) (N:Bx) (ah:J 0 N)
  (hY:∀ o n a,o < n->n<=l.length->qSw l g o n->qn9 l g o->J o a->Q3 prog y [.agg [vint (l.getD o 0),vint (l.getD (n - 1) 0)]] (a++cS l g u c' p d o o r []) fun v H rs=>v=qq true/\(∃ C,J n C/\H=cS l g u c' p d o o r C)/\rs=[]) :
  Ok prog 92 [.lit (.func (.yield y) #[] #[]),ptr p,ptr d] (cS l g u c' p d 0 0 r N) fun v H rs=>v=.tup []/\(∃ C off,J l.length C/\H=cS l g u c' p d l.length off r C)/\rs=[]:=by
 simp only [apart,vt,xb,y8,or_false,forall_eq_or_imp,forall_eq,List.Pairwise.nil,and_true,false_imp_iff,implies_true] at q;refine Ok.of_exM [(4,4)] Ty.mixed func92 rfl (by simp [ntmps92]) (by kernel_rfl) fun F w0 I0=>?_;refine qa ?_;refine jE Ty.mixed (by kernel_rfl) (fun o=>l.length - o) (fun(o:Nat) S=>(o<=l.length/\qn9 l g o)/\∃ a off,J o a/\(o < l.length->off=o)/\S.boxes=cS l g u c' p d o off r a/\S.rows=[]/\S.σ 0=.lit (.func (.yield y) #[] #[])/\S.σ 1=ptr p/\S.σ 2=ptr d) 0 ⟨_,_,_,_,zc _,zc _,zp _,zp _,?_⟩ (fun o S ⟨⟨ho,ab⟩,a,off,R,ai,G,A,w,x,z⟩=>?_)
 ·simp only [↓rA,rU,q,simprocAttr];exact⟨.inl rfl,N,0,ah,fun _=>rfl,rfl⟩
 by_cases Y:o < l.length
 ·obtain rfl:=ai Y;have ac:0 < l.length - off:=by omega
  simp only [↓rA,rU,G,A,w,x,z,q,Int.natCast_pos,ac,simprocAttr];refine jR Ty.mixed (by kernel_rfl) (fun n=>l.length - n) (fun(n:Nat) S=>(off < n/\n<=l.length/\qSw l g off n)/\S.boxes=cS l g u c' p d off off r a/\S.rows=[]/\S.σ 0=.lit (.func (.yield y) #[] #[])/\S.σ 1=ptr p/\S.σ 2=ptr d/\S.σ 4=vint ((n - off:Nat):Int)) (off+1) ⟨0,?_⟩ (fun n S ⟨⟨ad,M,Z⟩,G,A,w,x,z,I⟩=>?_)
  ·simp only [↓rA,rU,G,A,w,x,z,q,Int.natCast_pos,ac,simprocAttr];exact⟨⟨qP5 _,by omega,fun j D K=>absurd D (by omega)⟩,by rw [qO0];rfl⟩
  ·by_cases ae:n < l.length
   ·have D:n - off < l.length - off:=by omega
    have K:n - off - 1 < l.length - off:=by omega
    have hi:((n - off:Nat):Int) - 1=((n - off - 1:Nat):Int):=by omega
    have af:=qv (n:=((n - off - 1:Nat):Int)) (by omega) (by omega);obtain⟨B1,e1⟩:=qh8 ae (show off+(n - off) * 1=n by omega) r;obtain⟨B2,e2⟩:=qh8 (l:=l) (k:=n - 1) (by omega) (show off+(n - off - 1) * 1=n - 1 by omega) r;have t1:=hs n ae;have t2:=hs (n - 1) (by omega);unfold tick at t1 t2;have ag:=qv (n:=l.getD n 0 - l.getD (n - 1) 0) (by omega) (by omega);by_cases L:l.getD n 0 - l.getD (n - 1) 0<=g
    ·have aj:=qv (n:=((n - off:Nat):Int)+1) (by omega) (by omega);simp only [↓rA,rU,G,A,w,x,z,I,q,zq,D,K,af,hi,Int.toNat_natCast,e1,e2,ag,aj,L,simprocAttr];refine⟨n+1,by omega,0,⟨by omega,by omega,fun j D K=>if e:j=n then e▸L else Z j D (by omega)⟩,rfl,?_⟩;rw [show n+1 - off=n - off+1 by omega];rfl
    ·have aa:=qv (n:=((n - off - 1:Nat):Int)) (by omega) (by omega);have U:((n - off:Nat):Int) - 1=((n - off - 1:Nat):Int):=by omega
     have Q:n - off - 1 < l.length - off:=by omega
     obtain⟨B4,P⟩:=qh8 (l:=l) (k:=n - 1) (by omega) (show off+(n - off - 1) * 1=n - 1 by omega) r;obtain⟨B3,O⟩:=qh8 Y (show off=off from rfl) r;have hp:(0:Int) < ((l.length - off:Nat):Int):=by omega
     simp only [↓rA,rU,G,A,w,x,z,I,q,zq,hp,D,K,af,hi,e1,e2,ag,L,U,aa,Q,Int.toNat_natCast,P,O,simprocAttr];refine ye (a++cS l g u c' p d off off r []) [] (by rw [wl];exact x8 (l₁:=cS l g u c' p d off off r []) (l₂:=a)) (hY off n a ad M Z ab R) ?_;rintro v H rs ⟨rfl,⟨C,T,rfl⟩,rfl⟩ _;have W:n - off<=l.length - off:=by omega
     have X:l.length - off<=c' - off:=by omega
     simp only [↓rA,rU,A,w,x,z,I,q,wl,Int.toNat_natCast,zq,Int.ofNat_le,qMo,simprocAttr];refine⟨W,X,n,by omega,_,_,_,_,zc _,zc _,zp _,zp _,?_⟩;simp only [↓rA,rU,A,w,x,z,q,simprocAttr];refine⟨⟨M,.inr (.inr L)⟩,C,(if c' - off=n - off then off else off+(n - off) * 1),T,fun h=>?_,?_⟩
     ·rw [if_neg (by omega)];omega
     ·rw [show l.length - off - (n - off)=l.length - n by omega,show c' - off - (n - off)=c' - n by omega]
   ·have D:¬ n - off < l.length - off:=by omega
    have aa:=qv (n:=((n - off - 1:Nat):Int)) (by omega) (by omega);have U:((n - off:Nat):Int) - 1=((n - off - 1:Nat):Int):=by omega
    have Q:n - off - 1 < l.length - off:=by omega
    obtain⟨B4,P⟩:=qh8 (l:=l) (k:=n - 1) (by omega) (show off+(n - off - 1) * 1=n - 1 by omega) r;obtain⟨B3,O⟩:=qh8 Y (show off=off from rfl) r;have hp:(0:Int) < ((l.length - off:Nat):Int):=by omega
    simp only [↓rA,rU,G,A,w,x,z,I,q,zq,hp,D,U,aa,Q,Int.toNat_natCast,P,O,simprocAttr];refine ye (a++cS l g u c' p d off off r []) [] (by rw [wl];exact x8 (l₁:=cS l g u c' p d off off r []) (l₂:=a)) (hY off n a ad M Z ab R) ?_;rintro v H rs ⟨rfl,⟨C,T,rfl⟩,rfl⟩ _;have W:n - off<=l.length - off:=by omega
    have X:l.length - off<=c' - off:=by omega
    simp only [↓rA,rU,A,w,x,z,I,q,wl,Int.toNat_natCast,zq,Int.ofNat_le,qMo,simprocAttr];refine⟨W,X,n,by omega,_,_,_,_,zc _,zc _,zp _,zp _,?_⟩;simp only [↓rA,rU,A,w,x,z,q,simprocAttr];refine⟨⟨M,.inr (.inl (by omega))⟩,C,(if c' - off=n - off then off else off+(n - off) * 1),T,fun h=>?_,?_⟩
    ·rw [if_neg (by omega)];omega
    ·rw [show l.length - off - (n - off)=l.length - n by omega,show c' - off - (n - off)=c' - n by omega]
 ·obtain rfl:o=l.length:=by omega
  simp only [↓rA,rU,G,A,w,x,z,q,qRt,simprocAttr];exact⟨_,_,[],Le.refl _,zc _,zn _,rfl,⟨a,off,R,rfl⟩,rfl⟩
def JS (l:List Int) (g:Int) (t:Int) (y e h j:Nat) (n:Loop) (o:Nat) (k:Bx):Prop :=
 ∃ a b ok,k=[(y,.obj (.loop n)),(e,.c [vint t]),(j,.c [qq ok]),(h,.c [vint a,vint b])]/\(o=0->ok=false)/\(0 < o->ok=true/\b=l.getD (o - 1) 0/\∃ d,d < o/\qn9 l g d/\qSw l g d o/\a=l.getD d 0)
theorem qUl (g:Int) (a d:Nat) (_:a ≠ d/\d ≠ a) (y:Nat) (J:Bx) :
  Ok prog 92 [.lit (.func (.yield y) #[] #[]),ptr a,ptr d] ((a,.c [nilS])::(d,.c [vint g])::J) fun v e rs=>v=.tup []/\e=(a,.c [nilS])::(d,.c [vint g])::J/\rs=[]:=by
 refine Ok.of_exM [(4,4)] Ty.mixed func92 rfl (by simp [ntmps92]) (by kernel_rfl) fun F p j=>?_;refine qa ?_;refine qG Ty.mixed (by kernel_rfl) 0 (fun i S=>S.boxes=(a,.c [nilS])::(d,.c [vint g])::J/\S.rows=[]/\S.σ 1=ptr a) ⟨0,?_⟩ (fun i S h=>absurd h (qOe i)) (fun S ⟨n,o,k⟩=>?_)
 ·exact kK
 ·refine qa ?_;exact⟨_,_,[],Le.refl _,zc _,zn _,rfl,rfl,rfl⟩
theorem qSj (g t:Int) (x:tick t) (I:1<=g/\g<=1099511627776):Ok prog 26 [nilS,vint g,vint t] [] fun v j rs=>v=.tup [.agg [vint 0,vint 0],qq false]/\j=[]/\rs=[]:=by
 refine oE func26 fun F M y=>?_;refine qb fun a z=>?_;refine qb fun d A=>?_;refine qb fun h C=>?_;refine qi _ (qir t) ?_;rw [(qcw t).2 x];have J:¬ g < 1:=by omega
 have K:¬ 1099511627776 < g:=by omega
 refine qW qSf ?_;rintro v j rs ⟨rfl,rfl,rfl⟩;refine qa ?_;refine qr [(a,.c [vint t])] [(h,.c [qq false]),(d,.c [vint 0,vint 0])] (x8 (l₁:=[(h,B.c [qq false]),(d,B.c [vint 0,vint 0])]) (l₂:=[(a,B.c [vint t])])) (qS1 t a) ?_;rintro v j rs ⟨rfl,rfl,rfl⟩;refine qa ?_;refine zB [] _ (zp _) (qSu g) ?_;rintro v j rs ⟨n,k,G,rfl,rfl,rfl⟩ p;simp only [List.cons_append,List.nil_append,z7,Jx,js,xb,y8,or_false,not_or,qOb,not_false_eq_true,and_true] at p;refine qa ?_;refine wY rfl (gf:=92) (first:=#[]) (cap:=#[.pointer (some ⟨n,0,none⟩),.pointer (some ⟨k,0,none⟩)]) rfl Ty.cb92 ([(a,.c [vint t]),(h,.c [qq false]),(d,.c [vint 0,vint 0])]++[(n,.c [nilS]),(k,.c [vint g])]) [] (by rw [wl];exact x8 (l₁:=[(n,B.c [nilS]),(k,B.c [vint g])]) (l₂:=[(a,B.c [vint t]),(h,B.c [qq false]),(d,B.c [vint 0,vint 0])]))
  (fun l r v j rs=>rs=[]/\j=(l,.obj (.loop r))::[(a,.c [vint t]),(h,.c [qq false]),(d,.c [vint 0,vint 0]),(n,.c [nilS]),(k,.c [vint g])]) ?_ ?_
 ·intro l r H w L has D;refine Ok.permR (Ok.permL (qUl g n k ⟨p.1.1,fun e=>p.1.1 e.symm⟩ l [(l,.obj (.loop r)),(a,.c [vint t]),(h,.c [qq false]),(d,.c [vint 0,vint 0])]) ?_) fun v j rs ⟨q,u,o⟩=>⟨_,?_,o,rfl⟩
  ·exact x8 (l₁:=[(l,B.obj (.loop r)),(a,B.c [vint t]),(h,B.c [qq false]),(d,B.c [vint 0,vint 0])]) (l₂:=[(n,B.c [nilS]),(k,B.c [vint g])])
  ·rw [u];exact x8 (l₁:=[(n,B.c [nilS]),(k,B.c [vint g])]) (l₂:=[(l,B.obj (.loop r)),(a,B.c [vint t]),(h,B.c [qq false]),(d,B.c [vint 0,vint 0])])
 ·intro l r v j rs w ⟨q,o⟩;subst q o;refine⟨_,rfl,fun _=>?_⟩;refine qa ?_;exact r0 ⟨rfl,rfl,rfl⟩
theorem qSv (l:List Int) (J:0 < l.length) (hs:l.Pairwise (·<=·)) (hx:∀ i (h:i < l.length),tick l[i]) (g t:Int) (ht:tick t) (ar:∀ i (h:i < l.length),l[i]<=t) (hg:1<=g/\g<=1099511627776) (x ce:Nat) (rest:List V) (L:l.length<=1000) (hc:l.length<=ce) :
  Ok prog 26 [slI x l.length ce,vint g,vint t] [(x,.c (l.map vint++rest))] fun v z rs =>
   ∃ G,G < l.length/\qn9 l g G/\qSw l g G l.length/\v=(if t - l.getD (l.length - 1) 0<=g then .tup [.agg [vint (l.getD G 0),vint (l.getD (l.length - 1) 0)],qq true] else .tup [.agg [vint 0,vint 0],qq false])/\z=[]/\rs=[]:=by
 refine oE func26 fun F w0 I0=>?_;refine qb fun j P=>?_;refine qb fun k X=>?_;refine qb fun p Y=>?_;refine qi _ (qir t) ?_;rw [(qcw t).2 ht];have aw:¬ g < 1:=by omega
 have ax:¬ 1099511627776 < g:=by omega
 refine qa ?_;refine zB [(x,.c (l.map vint++rest))] [(p,.c [qq false]),(k,.c [vint 0,vint 0]),(j,.c [vint t])] (x8 (l₁:=[(p,B.c [qq false]),(k,B.c [vint 0,vint 0]),(j,B.c [vint t])]) (l₂:=[(x,B.c (l.map vint++rest))])) (qSr l J x ce rest L hc) ?_;rintro v z rs ⟨u,D,av,an,rfl,rfl,rfl⟩ H;simp only [List.cons_append,List.nil_append,z7,Jx,js,xb,y8,or_false,not_or,qOb,not_false_eq_true,and_true] at H;have n5:u ≠ j/\j ≠ u:=⟨H.1.2.2.2,fun e=>H.1.2.2.2 e.symm⟩;have n6:u ≠ k/\k ≠ u:=⟨H.1.2.2.1,fun e=>H.1.2.2.1 e.symm⟩;have n7:u ≠ p/\p ≠ u:=⟨H.1.2.1,fun e=>H.1.2.1 e.symm⟩;refine qa ?_;refine qr [(j,.c [vint t]),(u,.c (l.map vint++zC (D - l.length)))] [(x,.c (l.map vint++rest)),(p,.c [qq false]),(k,.c [vint 0,vint 0])] (x8 (l₁:=[(u,B.c (l.map vint++zC (D - l.length))),(x,B.c (l.map vint++rest)),(p,B.c [qq false]),(k,B.c [vint 0,vint 0])]) (l₂:=[(j,B.c [vint t])])) (qTj l t j ar u D n5 (zC (D - l.length)) L) ?_;rintro v z rs ⟨rfl,rfl,rfl⟩;refine qa ?_;refine zB [(u,.c (l.map vint++zC (D - l.length)))] [(x,.c (l.map vint++rest)),(j,.c [vint t]),(p,.c [qq false]),(k,.c [vint 0,vint 0])] (qOl [(p,B.c [qq false]),(k,B.c [vint 0,vint 0])] (x8 (l₁:=[(j,B.c [vint t])]) (l₂:=[(u,B.c (l.map vint++zC (D - l.length))),(x,B.c (l.map vint++rest))]))) (qS8 l J hs hx g u D (zC (D - l.length)) L an) ?_;rintro v z rs ⟨w,d,C,A,aj,am,rfl,rfl,rfl⟩ au;refine qa ?_;have ag:∀ i,i < l.length->tick (l.getD i 0):=fun i hi=>by simpa [List.getD,hi] using hx i hi
 refine wY rfl (gf:=92) (first:=#[]) (cap:=#[.pointer (some ⟨C,0,none⟩),.pointer (some ⟨A,0,none⟩)]) rfl Ty.cb92 ([(j,.c [vint t]),(p,.c [qq false]),(k,.c [vint 0,vint 0])]++cS l g w d C A 0 0 (zC (d - l.length)) []) [(x,.c (l.map vint++rest))] (by exact x8 (l₁:=[(w,B.c (l.map vint++zC (d - l.length))),(C,B.c [slI w l.length d]),(A,B.c [vint g]),(x,B.c (l.map vint++rest))]) (l₂:=[(j,B.c [vint t]),(p,B.c [qq false]),(k,B.c [vint 0,vint 0])]))
  (fun y r v z rs=>rs=[]/\∃ q off,JS l g t y j k p r l.length q/\z=q++cS l g w d C A l.length off (zC (d - l.length)) []) ?_ ?_
 ·intro y r ac ae aq has al;simp only [↓rA,rU,P,simprocAttr] at ac;have R:=zS ac;simp only [Nb] at R;refine Ok.permR (Ok.permL (qVd l J ag g w d C A aj (zC (d - l.length)) L am y (JS l g t y j k p r) [(y,.obj (.loop r)),(j,.c [vint t]),(p,.c [qq false]),(k,.c [vint 0,vint 0])] ⟨0,0,false,rfl,fun _=>rfl,fun h=>absurd h (by omega)⟩ fun o n Jo ho hn ao ak hJ=>?_) ?_) fun v z rs ⟨K,⟨q,off,O,I⟩,h4⟩=>⟨_,?_,h4,q,off,O,rfl⟩
  ·obtain⟨a,b,ok,rfl,ah,aa⟩:=hJ;refine Q3.permR (Q:=fun v z rs=>v=qq true/\(∃ q,JS l g t y j k p r n q/\z=q++cS l g w d C A o o (zC (d - l.length)) [])/\rs=[]) ?_ ?_
   ·show Q3 prog y _ ((y,.obj (.loop r))::(j,.c [vint t])::(p,.c [qq ok])::(k,.c [vint a,vint b])::cS l g w d C A o o (zC (d - l.length)) []) _;refine Q3.of_round (M:=[]) Ty.mixed ae aq has al rfl (by simp [ntmps26]) (by kernel_rfl) (by kernel_rfl) fun F w0 I0=>?_;generalize N:wV _ _ _=S;have W:S 29=.agg [vint (l.getD o 0),vint (l.getD (n - 1) 0)]:=by rw [<-N];rfl
    have T:S 6=ptr k:=by rw [<-N];rfl
    have U:S 7=ptr p:=by rw [<-N];rfl
    clear N;refine qb fun b9 Z=>?_;simp only [↓rA,rU,W,T,U,Z,P,X,Y,R,simprocAttr];refine⟨[_],_,rfl,?_⟩;simp only [↓rA,rU,W,T,U,Z,P,X,Y,R,simprocAttr];exact⟨[_],_,_,rfl,List.Sublist.cons _ (zc _),rfl,⟨[(y,.obj (.loop r)),(j,.c [vint t]),(p,.c [qq true]),(k,.c [vint (l.getD o 0),vint (l.getD (n - 1) 0)])],⟨_,_,true,rfl,fun h=>absurd h (by omega),fun _=>⟨rfl,rfl,o,ho,ak,ao,rfl⟩⟩,rfl⟩,rfl⟩
   ·rintro v z rs ⟨K,⟨q,O,rfl⟩,I⟩;exact⟨_,x8 (l₁:=q) (l₂:=cS l g w d C A o o (zC (d - l.length)) []),K,⟨q,O,rfl⟩,I⟩
  ·exact x8 (l₁:=[(y,B.obj (.loop r)),(j,B.c [vint t]),(p,B.c [qq false]),(k,B.c [vint 0,vint 0])]) (l₂:=cS l g w d C A 0 0 (zC (d - l.length)) [])
  ·rw [I];exact x8 (l₁:=cS l g w d C A l.length off (zC (d - l.length)) []) (l₂:=q)
 ·intro y r v z rs ae ⟨K,q,off,⟨a,b,ok,ai,ah,aa⟩,I⟩;obtain⟨ap,hb,G,af,ab,ad,ha⟩:=aa J;subst K ai I ap hb ha;refine⟨(j,.c [vint t])::(p,.c [qq true])::(k,.c [vint (l.getD G 0),vint (l.getD (l.length - 1) 0)])::cS l g w d C A l.length off (zC (d - l.length)) [],rfl,fun _=>?_⟩;have t1:=ag (l.length - 1) (by omega);unfold tick at t1 ht;have hw:=qv (n:=t - l.getD (l.length - 1) 0) (by omega) (by omega);by_cases ay:g < t - l.getD (l.length - 1) 0
  ·refine qa ?_;exact r0 ⟨G,af,ab,ad,by rw [if_neg (by omega)],rfl,rfl⟩
  ·refine qa ?_;exact r0 ⟨G,af,ab,ad,by rw [if_pos (by omega)],rfl,rfl⟩
end Go.Proofs.YtkdgbjhbpbgdeaaGreatDoor.Ses
