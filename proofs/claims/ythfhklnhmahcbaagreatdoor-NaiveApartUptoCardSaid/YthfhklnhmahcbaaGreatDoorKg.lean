/- Merged out of my texts B4 AL P7 P8. -/
import Derived.Test.YthfhklnhmahcbaaGreatDoorKA
import Derived.Test.YthfhklnhmahcbaaGreatDoorKVc
import Derived.Test.YthfhklnhmahcbaaGreatDoorKb
import Derived.Test.YthfhklnhmahcbaaGreatDoorKc
import Derived.Test.YthfhklnhmahcbaaGreatDoorKf
import Derived.Test.YthfhklnhmahcbaaGreatDoorKe
import Derived.Test.YthfhklnhmahcbaaGreatDoorRows
import Derived.JoinedCond
import GoSem.ClaimSeven
set_option linter.unusedSimpArgs false
set_option maxRecDepth 100000
set_option maxHeartbeats 4000000
set_option linter.unusedVariables false
open Go.Proofs.Tryz
open Go.VL Go.Ar Go.Lo Go.Nv Go.Sg Go.Nm
namespace Go.Proofs.YthfhklnhmahcbaaGreatDoor
open Ses
theorem qir:∀ (i:Nat) (l:List Str),xA (gS i l)=l
 | _,[]=>rfl
 | i,s::r=>by simp only [gS,z7,xA];exact congrArg _ (qir (i+1) r)
theorem qVj:∀ (i:Nat) (l:List Str),(gS i l).length=l.length:=fun i l=>by
 have:=congrArg List.length (qir i l);rwa [zz] at this
theorem apN {a d:Nat} {l:List Nat} (h:(a::l).Nodup) (j:d ∈ l):a ≠ d/\d ≠ a :=
 ⟨fun e=>(js.1 h).1 (e▸j),fun e=>(js.1 h).1 (e▸j)⟩
theorem qVx (M:List Str) (k:Str):mS (M++[k])=.m ([.s],false) (Qz 0 M++[(M.length,.string k,qq true)]) (M.length+1):=by
 unfold mS;rw [Zu,zr,qJ0];rfl
theorem qVt (c:Cat) (x:E) (hk:zD 32 c) (hx:uh x) (ax:kY x<=1000000):Ok prog 8 [zO c,vE x] [] fun v bs rs =>
  (∃ us X:List Str,us.length<=33000000/\v=.tup [jV us,jV X]/\(∀ m ∈ Ub x,m ∈ us)/\∀ m ∈ us,∀ f,xl c.features m=some f->∀ m' ∈ Ub f.body,m' ∈ us)/\bs=[]/\rs=[]:=by
 have hd:=qsk x hx ([],[]);have ab:=qt8.start c x;have al:∀ W,(∀ m ∈ (qls x ([],[])).1,m ∈ W)->UsI c.features (qls x ([],[])).1 (qls x ([],[])).1 W:=fun W h=>UsI.start _ _ W h;have ai:∀ N,UsI c.features (qls x ([],[])).1 N []->(∀ m ∈ Ub x,m ∈ N)/\∀ m ∈ N,∀ f,xl c.features m=some f->∀ m' ∈ Ub f.body,m' ∈ N:=fun N h=>h.done;simp only [vE,qY] at hd;rw [vE,qY];generalize qls x ([],[])=D at hd ab al ai;obtain⟨I,T0⟩:=D;simp only at hd ab al ai;refine oE func8 fun F w0 I0=>?_;refine qb fun C Z=>?_;refine qb fun J P=>?_;have u:=aI Z P;refine qb fun d hn=>?_;have u:=aI u hn;refine qb fun k ho=>?_;have u:=aI u ho;have aS:d ≠ k/\k ≠ d:=⟨u.2.1.1,u.2.1.2⟩;refine qa ?_;refine qr [_,_] [_,_] (List.Perm.swap _ _ _) (hd d k aS) ?_;rintro v bs rs ⟨rfl,rfl,rfl⟩;refine qa ?_;refine zB [] _ (zp _) (qLp d) ?_;rintro v bs rs ⟨L,rfl,rfl,rfl⟩ H;have aQ:L ≠ d/\d ≠ L:=by
  have:L ∉ [d,k,J,C]:=(js.1 H).1;simp only [xb,not_or] at this;exact⟨this.1,qKh this.1⟩
 have ap:=ab.nlen hk ax;have hs:=qUa (cV:=vT) (.inl rfl) (gS 0 I) I.length (qgc 0 _ ab.n1) (by rw [qVj];omega) L d aQ;rw [<-qLj,qir] at hs;refine qa ?_;refine zB [_,_] [_,_,_] (zp _) hs ?_;clear hs H;rintro v bs rs ⟨G,aa,aE,rfl⟩ H;have am:=(K0 G).trans aa;have aw:UsI c.features I I (w9 G):=al _ fun m j=>am.mem_iff.2 j;have aZ:=am.length_eq;have hw:(w9 G=[]/\v=nilS/\bs=[(d,mS I)])∨∃ b n o cap,(At n o cap (w9 G)/\Nb b [(d,mS I),(k,mS T0),(J,.c (cH x.hd (kI x.args))),(C,.c (qT c))])/\v=.lit (.slice (some ⟨b,o,none⟩) (w9 G).length cap)/\bs=[(b,.c n),(d,mS I)]:=by
  rcases aE with⟨Q,Z,P⟩ | ⟨b,cp,rest,hc,a6,Z,P⟩
  ·exact .inl ⟨by rw [Q];exact qMy.1 (jJ []),Z,P⟩
  ·refine .inr ⟨b,_,0,cp,⟨⟨?_,?_,?_⟩,?_⟩,by rw [jJ];exact Z,P⟩
   ·simp only [zr,zz,jJ];omega
   ·rw [jJ];omega
   ·rw [qNk,qBf (by simp)]
   ·rw [P] at H;exact qnq (bs:=[(d,mS I),(k,mS T0),(J,.c (cH x.hd (kI x.args))),(C,.c (qT c))]) (js.1 H).1
 clear aE aa am;generalize w9 G=W0 at aw aZ hw;have a3:=qVf (unN c x) I;have a2:=(qS2 hk ax).1;refine qa ?_;refine jE Ty.mixed (by rfl) (fun g:List Str × List Str × List Str=>2 * qk9 (unN c x) g.1+g.2.1.length) (fun g S=>(UsI c.features I g.1 g.2.1/\qt8 c x g.1 g.2.2/\g.2.1.length+qk9 (unN c x) g.1<=66000000)/\S.rows=[]/\S.σ 2=ptr C/\S.σ 6=mp d/\S.σ 7=mp k /\
   ((g.2.1=[]/\S.σ 8=nilS/\S.boxes=[(d,mS g.1),(k,mS g.2.2),(J,.c (cH x.hd (kI x.args))),(C,.c (qT c))])∨∃ b n o cap,(At n o cap g.2.1/\Nb b [(d,mS g.1),(k,mS g.2.2),(J,.c (cH x.hd (kI x.args))),(C,.c (qT c))])/\S.σ 8=.lit (.slice (some ⟨b,o,none⟩) g.2.1.length cap)/\S.boxes=[(b,.c n),(d,mS g.1),(k,mS g.2.2),(J,.c (cH x.hd (kI x.args))),(C,.c (qT c))])) (I,W0,T0) ⟨_,_,_,_,zc _,zc _,zp _,zp _,?_⟩
  (fun⟨N,W,T⟩ S ⟨⟨hU,hG,hB⟩,gr,g2,g6,g7,hw⟩=>?_)
 ·rcases hw with⟨Q,rfl,rfl⟩ | ⟨b,n,o,cap,Q,rfl,rfl⟩
  ·exact⟨⟨aw,ab,by simp only;omega⟩,by rfl,by rfl,by rfl,by rfl,.inl ⟨Q,by rfl,by rfl⟩⟩
  ·exact⟨⟨aw,ab,by simp only;omega⟩,by rfl,by rfl,by rfl,by rfl,.inr ⟨b,n,o,cap,Q,by rfl,by rfl⟩⟩
 simp only at hU hG hB hw;have ae:=hG.nlen hk ax;have aj:∀ (z:Nat) (M:List Str) (L:Nat),M.Nodup->M.length<=33000000->L ≠ z/\z ≠ L->Ok prog 23 [fnK L] [(L,.c [mp z]),(z,mS M)] fun v bs rs=>(∃ us:List Str,us.Perm M/\v=jV us)/\bs=[(z,mS M)]/\rs=[]:=fun z M L Q Z P=>by
  have hs:=qBw (cV:=vT) (.inl rfl) (gS 0 M) M.length (qgc 0 _ Q) (by rw [qVj];omega) L z P;rw [<-qLj,qir] at hs;exact hs.mono fun v bs rs ⟨⟨G,Q,Z⟩,P⟩=>⟨⟨_,(K0 G).trans Q,Z⟩,P⟩
 have aJ:UsI c.features I N []->∀ us X:List Str,us.Perm N->∃ af a1:List Str,af.length<=33000000/\V.tup [jV us,jV X]=.tup [jV af,jV a1]/\(∀ m ∈ Ub x,m ∈ af)/\∀ m ∈ af,∀ f,xl c.features m=some f->∀ m' ∈ Ub f.body,m' ∈ af:=fun h us X hp =>
  ⟨us,X,by rw [hp.length_eq];exact ae.1,rfl,fun m j=>hp.mem_iff.2 ((ai N h).1 m j),fun m j f hf m' aW=>hp.mem_iff.2 ((ai N h).2 m (hp.mem_iff.1 j) f hf m' aW)⟩
 rcases hw with⟨rfl,g8,gb⟩ | ⟨b,n,o,cap,⟨O,a⟩,g8,gb⟩
 ·refine qa ?_;refine zB [] _ (zp _) (qLp d) ?_;rintro v bs rs ⟨b4,rfl,rfl,rfl⟩ H;refine qa ?_;refine qr [_,_] _ (List.Perm.cons _ (ux (l₁:=[]))) (aj d N b4 hG.n1 ae.1 (apN H (by simp))) ?_;rintro v bs rs ⟨⟨us,ay,rfl⟩,rfl,rfl⟩;refine qa ?_;refine zB [] _ (zp _) (qLp k) ?_;rintro v bs rs ⟨b5,rfl,rfl,rfl⟩ H;refine qa ?_;refine qr [_,_] _ (List.Perm.cons _ (ux (l₁:=[_]))) (aj k T b5 hG.t1 ae.2 (apN H (by simp))) ?_;rintro v bs rs ⟨⟨X,a0,rfl⟩,rfl,rfl⟩;refine qa ?_;exact r0 ⟨aJ hU us X ay,rfl,rfl⟩
 ·rcases W with _ | ⟨w,W⟩
  ·simp only [↓rA,rU,gr,g6,g7,g8,gb,List.length_nil,simprocAttr];refine zB [] _ (zp _) (qLp d) ?_;rintro v bs rs ⟨b4,rfl,rfl,rfl⟩ H;refine qa ?_;refine qr [_,_] _ (List.Perm.cons _ (ux (l₁:=[_]))) (aj d N b4 hG.n1 ae.1 (apN H (by simp))) ?_;rintro v bs rs ⟨⟨us,ay,rfl⟩,rfl,rfl⟩;refine qa ?_;refine zB [] _ (zp _) (qLp k) ?_;rintro v bs rs ⟨b5,rfl,rfl,rfl⟩ H;refine qa ?_;refine qr [_,_] _ (List.Perm.cons _ (ux (l₁:=[_,_]))) (aj k T b5 hG.t1 ae.2 (apN H (by simp))) ?_;rintro v bs rs ⟨⟨X,a0,rfl⟩,rfl,rfl⟩;refine qa ?_;exact r0 ⟨aJ hU us X ay,rfl,rfl⟩
  ·simp only [Nb] at a;have u:=aI u a;obtain⟨r0,a8⟩:=O.head;have a7:(0:Int) < (((w::W).length:Nat):Int):=by simp only [List.length_cons];omega
   refine qa ?_;refine⟨O.len,?_⟩;have hq:=Y6 c w (km hk.lf (by unfold Go.Proofs.YthfhklnhmahcbaaGreatDoor.big;decide));have aD:=O.tail;cases hf:xl c.features w with
   | none =>
    rw [hf] at hq;simp only [J4,qs] at hq;refine qo _ hq ?_;refine qa ?_;refine fun aP R=>?_;replace R:=zS R;try simp only [Nb] at R
    have u:=aI u R;refine qa ?_;refine⟨(N,W,T),by simp only;omega,[(b,.c n),(d,mS N),(k,mS T),(J,.c (cH x.hd (kI x.args))),(C,.c (qT c))],_,_,_,?_,zc _,zp _,zp _,⟨hU.miss hf,hG,by simp only [List.length_cons] at hB ⊢;omega⟩,by exact qA,by exact qA,by exact qA,by exact qA,.inr ⟨b,n,_,_,⟨aD,a.1,a.2.1,a.2.2.1,a.2.2.2.1⟩,by exact qA,by exact qA⟩⟩;refine qB ?_;exact(zc _).cons _
   | some f =>
    rw [hf] at hq;simp only [J4,qs] at hq;refine qo _ hq ?_;refine qa ?_;refine fun aP R=>?_;replace R:=zS R;try simp only [Nb] at R
    have u:=aI u R;refine qa ?_;have an:=qOc hf;have aU:=(hk.ff _ an).1.2;refine fun z j=>?_;replace j:=zS j;try simp only [Nb] at j
    have u:=aI u j;have ah:=qsk f.body aU ([],T) z k ⟨j.2.2.2.1.2,j.2.2.2.1.1⟩;have aX:(qls f.body ([],T)).1=xc f:=qV2 _ _ _ rfl;have az:=hG.tabs an;rw [aX,qLj (xc f)] at ah;rw [vE,qY] at ah;generalize (qls f.body ([],T)).2=Y at ah az;refine qa ?_;refine qr [_,_] _ (List.Perm.cons _ (ux (l₁:=[_,_,_]))) ah ?_;rintro v bs rs ⟨rfl,rfl,rfl⟩;refine qa ?_;refine fun ib ac=>?_;replace ac:=zS ac;try simp only [Nb,List.append_eq,List.cons_append,List.nil_append] at ac
    have u:=aI u ac;have aC:=Zj f;refine qa ?_;generalize aK:gS 0 (xc f)=gd at *;generalize a5:(xc f).length=K at *;refine jE Ty.mixed (by rfl) (fun q:List Nat × List Str × List Str=>(xP gd q.1).length) (fun q S=>(ve (fun r:Str × Unit=>some r.1) gd q.1 q.2.1/\(∀ m ∈ q.2.1,m ∈ N++q.2.2)/\qt8 c x (N++q.2.2) Y/\(W++q.2.2).length+qk9 (unN c x) (N++q.2.2)<=W.length+qk9 (unN c x) N)/\S.rows=[]/\S.σ 2=ptr C/\S.σ 6=mp d/\S.σ 7=mp k/\S.σ 46=ptr ib /\
     ∃ b n o cap,(At n o cap (W++q.2.2)/\Nb b [(ib,.c []),(d,.c []),(z,.c []),(k,.c []),(J,.c []),(C,.c [])])/\S.σ 8=.lit (.slice (some ⟨b,o,none⟩) (W++q.2.2).length cap)/\S.boxes=[(ib,.it z K q.1 K),(z,mG vT gd K),(k,mS Y),(b,.c n),(d,mS (N++q.2.2)),(J,.c (cH x.hd (kI x.args))),(C,.c (qT c))]) ([],[],[]) ?_
     (fun⟨seen,G,A⟩ S ⟨⟨ao,aa,ag,aq⟩,gr,g2,g6,g7,ak,b,n,o,cap,⟨O,a⟩,g8,gb⟩=>?_)
    ·refine⟨[(ib,.it z K [] K),(z,mG vT gd K),(k,mS Y),(b,.c n),(d,mS N),(J,.c (cH x.hd (kI x.args))),(C,.c (qT c))],_,_,_,?_,zc _,zp _,zp _,
      ⟨⟨ve.start _,nofun,by simpa using az,by simp⟩,by exact qA,by exact qA,by exact qA,by exact qA,by exact qA,b,n,_,_,⟨by simpa using aD,ac.2.2.2.1.symm,a.1,j.2.1.symm,a.2.1,a.2.2.1,a.2.2.2.1,a.2.2.2.2⟩,?_,?_⟩⟩
     ·refine qB ?_;exact((((zc _).cons _).cons_cons _).cons_cons _).cons_cons _
     ·exact qA
     ·exact qA
    ·simp only [Nb] at a;simp only at ao aa ag aq O g8 gb;have u:=aI u a;refine qa ?_;refine⟨fun ap=>?_,fun e he aH=>?_⟩
     ·rw [qU] at ap;have aF:=ao.done (by simpa [qP] using ap);rw [Kv,<-aK,qir] at aF;have hA:∀ m ∈ xc f,m ∈ N++A:=fun m j=>aa m (aF.mem_iff.2 j);simp only [zr] at aq;refine qa ?_;refine⟨(N++A,W++A,Y),by simp only [zr];omega,[(k,mS Y),(b,.c n),(d,mS (N++A)),(J,.c (cH x.hd (kI x.args))),(C,.c (qT c))],_,_,_,?_,zc _,(ux (l₁:=[(b,B.c n),(d,mS (N++A))])).symm,zp _,
       ⟨hU.hit hf hA,ag,by simp only [zr,List.length_cons] at hB ⊢;omega⟩,by exact qA,by exact qA,by exact qA,by exact qA,.inr ⟨b,n,o,cap,⟨O,a.2.1,a.2.2.2.1,a.2.2.2.2.1,a.2.2.2.2.2.1⟩,by exact qA,by exact qA⟩⟩
      refine qB ?_;exact((zc _).cons _).cons _
     ·rw [qU] at he;obtain⟨p,hp,rfl⟩:=x9.1 he;have av:=ao.step aC hp;have ar:=xW aC hp;have aV:(seen++[p.1]).getLast? = some p.1:=by simp
      have aY:p.2.1 ∈ xc f:=by
       rw [<-qir 0 (xc f),aK];exact x9.2 ⟨p,(qA6.1 hp).1,rfl⟩
      simp only at aH;by_cases ad:p.2.1 ∈ N++A
      ·have aG:VL.findM (Qz 0 (N++A)) (.string p.2.1)=some (qq true):=by
        rw [ZT,if_pos];unfold vI.memS';simpa using ad
       refine qa ?_;refine⟨(seen++[p.1],G++[p.2.1],A),ar,_,_,_,_,zc _,zc _,zp _,zp _,⟨av,fun m j=>?_,ag,aq⟩,by exact qA,by exact qA,by exact qA,by exact qA,by exact qA,b,n,o,cap,⟨O,a.1,a.2.1,a.2.2.1,a.2.2.2.1,a.2.2.2.2.1,a.2.2.2.2.2.1⟩,by exact qA,by exact qA⟩;rcases z6.1 j with j | j
       ·exact aa m j
       ·rw [kl.1 j];exact ad
      ·have aG:VL.findM (Qz 0 (N++A)) (.string p.2.1)=none:=by
        rw [ZT,if_neg];unfold vI.memS';simpa using ad
       simp only [↓rA,rU,gr,g6,g7,g8,ak,gb,u,aH,aG,aV,simprocAttr];have aA:=ag.name an aY ad;have a4:=qUj (aA.n2 _ (z6.2 (.inr (kl.2 rfl)))) ad;have hE:(W++(A++[p.2.1])).length=(W++A).length+1:=by simp only [zr,List.length_cons,List.length_nil];omega
       have aR:((W++A).length+1) * 16<=140737488355328:=by
        simp only [List.length_cons] at hB;omega
       have aO:o+cap * 1<=n.length/\(W++A).length<=cap:=⟨by have:=O.room;omega,O.len⟩;have aL:∀ m ∈ G++[p.2.1],m ∈ N++(A++[p.2.1]):=fun m j=>by
        rw [<-jm];rcases z6.1 j with j | j
        ·exact z6.2 (.inl (aa m j))
        ·exact z6.2 (.inr j)
       have aB:qt8 c x (N++(A++[p.2.1])) Y:=by rw [<-jm];exact aA
       have aM:(W++(A++[p.2.1])).length+qk9 (unN c x) (N++(A++[p.2.1]))<=W.length+qk9 (unN c x) N:=by
        rw [hE,<-jm];omega
       refine fun y=>jS.l ?_;rw [<-qVx];by_cases au:(W++A).length+1<=cap
       ·simp only [↓rA,rU,gr,g6,g7,g8,ak,gb,u,au,simprocAttr];refine⟨aO,(seen++[p.1],G++[p.2.1],A++[p.2.1]),ar,_,[],_,_,zc _,zn _,zp _,zp _,⟨av,aL,aB,aM⟩,by exact qA,by exact qA,by exact qA,by exact qA,by exact qA,b,_,o,cap,⟨by rw [<-jm];exact O.put _ au,a.1,a.2.1,a.2.2.1,a.2.2.2.1,a.2.2.2.2.1,a.2.2.2.2.2.1⟩,?_,?_⟩
        ·exact qA
        ·refine qB ?_;rw [qPh,<-jm N A];rfl
       ·simp only [↓rA,rU,gr,g6,g7,g8,ak,gb,u,au,simprocAttr];refine⟨aO,aR,fun b' c' U aT=>?_⟩;replace U:=zS U;simp only [Nb] at U;refine qa ?_;refine⟨(seen++[p.1],G++[p.2.1],A++[p.2.1]),ar,[(b',.c ((n.drop o).take (W++A).length++[vstr p.2.1]++zC (c' - ((W++A).length+1)))),(ib,.it z K (seen++[p.1]) K),(z,mG vT gd K),(k,mS Y),(d,mS (N++A++[p.2.1])),(J,.c (cH x.hd (kI x.args))),(C,.c (qT c))],[],_,_,?_,zn _,
         (ux (l₁:=[(ib,B.it z K (seen++[p.1]) K),(z,mG vT gd K),(k,mS Y)])).symm,zp _,⟨av,aL,aB,aM⟩,by exact qA,by exact qA,by exact qA,by exact qA,by exact qA,b',_,0,c',⟨by rw [<-jm];exact O.new _ c' aT,U.1,U.2.2.2.2.1,U.2.1,U.2.2.1,U.2.2.2.2.2.1,U.2.2.2.2.2.2.1⟩,by exact qA,?_⟩
        ·refine qB ?_;rw [qPh,qPh];exact((((zc _).cons _).cons_cons _).cons_cons _).cons_cons _ |>.cons_cons _
        ·refine qB ?_;rw [<-jm N A]
theorem qUo {l:List yg} (h:∀ i h,OkE l i h):∀ x ∈ l,x.kind=1->xz x.fact=true:=fun x e d=>by
 obtain⟨i,a,rfl⟩:=qOu.1 e;exact((h i a).2.2 d).1
theorem qo5 (l:List yg) (q:l.length<=1048576) (d:∀ e ∈ l,VR e):Ok prog 4 [xN l] [] fun v bs rs=>(∃ b:Bool,v=qq b/\(b=true->l.length<=60/\∀ x ∈ l,x.kind=1->xz x.fact=true))/\bs=[]/\rs=[]:=by
 have n:=ql3 l (by unfold Go.Proofs.YthfhklnhmahcbaaGreatDoor.big;omega) d;refine oE func4 fun F w o=>?_;refine qa ?_;by_cases h:(l.length:Int)<=60
 ·have p:=eq_true h;refine qa ?_;refine qr [] [] (zp _) n ?_;rintro v bs rs ⟨⟨k,rfl,j⟩,rfl,rfl⟩;by_cases a:k=0
  ·have u:=eq_true a;refine qa ?_;exact r0 ⟨⟨true,rfl,fun _=>⟨by omega,qUo (j a).2⟩⟩,rfl,rfl⟩
  ·refine qa ?_;exact r0 ⟨⟨false,rfl,nofun⟩,rfl,rfl⟩
 ·refine qa ?_;exact r0 ⟨⟨false,rfl,nofun⟩,rfl,rfl⟩
theorem qU2 {l:List yg} {tick:Int} {c c':Cat} (j:∀ e ∈ l,VR e) (q:∀ e ∈ l,∀ v ∈ e.fact.fields,inW v.n) (w:l.length<=60) (k:∀ x ∈ l,x.kind=1->xz x.fact=true) (hc:KT c) :
  ∃ d,World c ((Zv l tick).filter fun r=>!Un c' tick r) d/\((Zv l tick).filter fun r=>!Un c' tick r).Pairwise fun a b=>cmpRow a b < 0:=by
 obtain⟨d,o⟩:=qT0 hc.2.1;have p:Srt (Zv l tick):=qVl fun x u h=>k x u (by unfold Qv at h;simp only [k7,decide_eq_true_eq] at h;exact h.2);exact⟨d,⟨hc.1,km (qMu _ _) (km (qyp l tick) (by omega)),fun r n=>qvr j q (qA6.1 n).1,p.filter _,o⟩,(qxm l tick).sorted.filter _⟩
abbrev lkF (c:Cat) (m:Str):Ftr:=(xl c.features m).getD qS0
theorem qU3 (o:Option Ftr):J4 o=.tup [.agg (cFtr (o.getD qS0)),qq o.isSome]:=by cases o <;> rfl
theorem qWj {c:Cat} (a:zD 32 c) (m:Str):uh (lkF c m).body:=by
 unfold lkF;cases h:xl c.features m with
 | none=>exact qNl
 | some f=>exact(a.ff f (qOc h)).1.2
theorem qS8 {rows:List Rw} {key:Str} {i:Nat} (a:i < rows.length):qig (rows.take (i+1)) key=if rows[i].key=key then qig (rows.take i) key++[rows[i]] else qig (rows.take i) key:=by
 rw [zt a,qig,qQo];by_cases h:rows[i].key=key <;> simp [h]
theorem qI6 (l:List yg) (key:Str) (t tick:Int) (al:l.length<=1048576) (R:∀ e ∈ l,VR e) (hv:∀ e ∈ l,∀ v ∈ e.fact.fields,inW v.n) :
  zk prog 3 [xN l,vstr key,vint t,vint tick] (qq true):=by
 refine Ok.of_exM [(22,1)] Ty.mixed func3 rfl (by simp) (by rfl) fun F w0 I0=>?_;refine qa ?_;refine qr [] [] (zp _) (qo5 l al R) ?_;rintro v U rs ⟨⟨bv,rfl,af⟩,rfl,rfl⟩;cases bv
 ·exact qe
 obtain⟨ai,ad⟩:=af rfl;refine qa ?_;refine qr [] [] (zp _) (qz2 l (by omega) R tick) ?_;rintro v U rs ⟨⟨c,rfl,C⟩,rfl,rfl⟩;refine qa ?_;refine fun h P=>?_;replace P:=zS P;try simp only [Nb] at P
 refine qa ?_;refine qF (qin l tick (by omega) R (fun x hx D=>qlk (ad x hx D)) (km (qyp l tick) (by omega))) ?_;rintro v U rs ⟨⟨c',_,rfl⟩,rfl,rfl⟩;obtain⟨rk,W,ab⟩:=qU2 (tick:=tick) (c':=c') R hv ai ad C;generalize ((Zv l tick).filter fun r=>!Un c' tick r)=rows at W ab;have aj:=C.1.lf;have am:=W.few;refine qa ?_;refine xo.nilRow 11 8 35 (by rfl) (by decide) ?_;refine zI Ty.mixed (by kernel_rfl) rows.length (fun i S=>∃ y,S.boxes=[(h,.c (qT c))]/\S.rows=[⟨y,8,35⟩]/\S.σ 1=vstr key/\S.σ 2=vint t/\S.σ 9=ptr h/\S.σ 10=qZ rows/\S.σ 11=.list (some y) 8 ((qig (rows.take i) key).map zJ)/\S.σ 12=vint i) ⟨_,_,_,_,zc _,zc _,zp _,zp _,nilv,?_⟩
  (fun i S H ⟨y,z,d,n,p,q,o,A,aq⟩=>?_) (fun S ⟨y,z,d,n,p,q,o,A,aq⟩=>?_)
 ·exact⟨by rfl,by rfl,by rfl,by rfl,by rfl,by rfl,by rfl,by rfl⟩
 ·have ap:=qj H;have aA:(qig (rows.take i) key).length<=i:=by
   refine km (qMu _ _) ?_;rw [kB];omega
  by_cases Z:rows[i].key=key
  ·refine qn ?_;refine fun y2=>xf ?_;refine qa ?_;refine⟨by omega,fun y3=>⟨_,[⟨y3,8,35⟩],_,_,zc _,List.Sublist.cons_cons _ (zn _),zp _,zp _,y3,z,rfl,n,p,q,o,?_,rfl⟩⟩;show V.list _ _ _=_;rw [qS8 H,if_pos Z,k8];simp [Z,zJ]
  ·refine qn ?_;refine lP ⟨y,z,d,n,p,q,o,?_,rfl⟩;rw [qS8 H,if_neg Z];exact A
 refine qn ?_;rw [xa (w3 _)] at A;refine qo _ (qT1 rows am ab) ?_;refine qa ?_;refine zI Ty.mixed (by kernel_rfl) c.features.length (fun i S=>S.boxes=[(h,.c (qT c))]/\S.rows=[⟨y,8,35⟩]/\S.σ 1=vstr key/\S.σ 2=vint t/\S.σ 9=ptr h/\S.σ 10=qZ rows/\S.σ 11=.list (some y) 8 ((qig rows key).map zJ)/\S.σ 13=vint i) ⟨_,_,_,_,zc _,zc _,zp _,zp _,?_⟩
  (fun i S H ⟨z,d,n,p,q,o,A,I⟩=>?_) (fun S ⟨z,d,n,p,q,o,A,I⟩=>?_)
 ·exact qA
 ·have ap:=qj H;have Y:=zs H;have ac:=(C.1.ff _ Y).1.2;have ag:=qT9 C.2.2 Y;obtain⟨u,w,ids,az,ah,q1,q2,q3,q4⟩:=apart W ag t key;have q5:=qVt c _ C.1 ac (C.1.sf _ Y);have q6:=qTa _ ac;rw [vE,qY] at q3 q5 q6;have c1:=qs c.features[i];refine qn ?_;generalize c.features[i]=f at *;refine fun K L=>?_;replace L:=zS L;try simp only [Nb] at L
  have j:=aI P L;refine qW q5 ?_;rintro v U rs ⟨⟨a,ts,aC,rfl,an,ao⟩,rfl,rfl⟩;refine qi _ q6 ?_;refine qa ?_;refine zI Ty.mixed (by kernel_rfl) a.length (fun k S=>S.boxes=[(K,.c (cFtr f)),(h,.c (qT c))]/\S.rows=[⟨y,8,35⟩]/\S.σ 1=vstr key/\S.σ 2=vint t/\S.σ 9=ptr h/\S.σ 10=qZ rows/\S.σ 11=.list (some y) 8 ((qig rows key).map zJ)/\S.σ 13=vint i/\S.σ 14=ptr K/\S.σ 15=jV a/\S.σ 17=qq (qco f.body || (a.take k).any fun m=>qco (lkF c m).body)/\S.σ 18=vint k) ⟨_,_,_,_,zc _,zc _,zp _,zp _,?_⟩
   (fun k S D ⟨z,d,n,p,q,o,A,I,aa,ae,G,J⟩=>?_) (fun S ⟨z,d,n,p,q,o,A,I,aa,ae,G,J⟩=>?_)
  ·refine qB ?_;simp
  ·have T:=qj D;obtain⟨b,q7⟩:∃ b,zk prog 10 [zO c,vstr a[k]] (.tup [.agg (cFtr (lkF c a[k])),qq b]):=⟨_,by rw [<-qU3];exact Y6 c a[k] (km aj (by unfold Go.Proofs.YthfhklnhmahcbaaGreatDoor.big;decide))⟩;have q8:=qTa _ (qWj C.1 a[k]);have ak:((a.take (k+1)).any fun m=>qco (lkF c m).body)=(((a.take k).any fun m=>qco (lkF c m).body) || qco (lkF c a[k]).body):=by
    rw [zt D,qQ6];simp
   rw [ak,<-Bool.or_assoc];generalize lkF c a[k]=g at q7 q8;generalize (qco f.body || (a.take k).any fun m=>qco (lkF c m).body)=B at G;rw [vE,qY] at q8;rw [qs] at q7;refine qn ?_;refine qt _ q7.v ?_;refine qa ?_;refine fun av M=>?_;replace M:=zS M;try simp only [Nb] at M
   have j:=aI j M;cases B
   ·simp only [↓rA,rU,d,G,J,j,T,simprocAttr];refine qo _ q8 ?_;simp only [↓rA,rU,d,J,j,T,simprocAttr];refine⟨[(K,.c (cFtr f)),(h,.c (qT c))],[⟨y,8,35⟩],_,_,?_,?_,zp _,zp _,rfl,rfl,?_⟩
    ·refine qB ?_;exact(zc _).cons _
    ·refine qB ?_;exact zc _
    ·exact qA
   ·simp only [↓rA,rU,d,G,J,j,T,simprocAttr];refine⟨[(K,.c (cFtr f)),(h,.c (qT c))],[⟨y,8,35⟩],_,_,?_,?_,zp _,zp _,rfl,rfl,?_⟩
    ·refine qB ?_;exact(zc _).cons _
    ·refine qB ?_;exact zc _
    ·exact qA
  rw [xa (w3 _)] at G;have Q:(qco f.body || a.any fun m=>qco (lkF c m).body)=false->u=w:=fun Q=>by
   obtain⟨h1,h2⟩:=qR2.1 Q;exact q4 a an ao h1 fun m X g hg=>by
    have:=List.any_eq_false.1 h2 m X;simpa [lkF,hg] using this
  generalize (qco f.body || a.any fun m=>qco (lkF c m).body)=B at G Q;simp only [↓rA,rU,z,d,n,p,q,o,aa,ae,J,j,qs f,zq,WR,simprocAttr];refine qo _ q1 ?_;refine qa ?_;refine fun aw N=>?_;replace N:=zS N;try simp only [Nb] at N
  have j:=aI j N;refine qi _ (Ok.le (.c1 (.cons (Le.list _ _ _) (.c1 (.c1 (.c1 .nil))))) q2) ?_;refine qa ?_;refine fun ax O=>?_;replace O:=zS O;try simp only [Nb] at O
  have j:=aI j O;cases B
  case' false=>obtain rfl:=Q rfl
  all_goals
   simp only [↓rA,rU,d,n,p,q,o,aa,G,j,simprocAttr];refine qo _ q3 ?_;refine qa ?_;refine zI Ty.mixed (by kernel_rfl) ids.length (fun k S=>S.boxes=[(h,.c (qT c))]/\S.rows=[⟨y,8,35⟩]/\S.σ 1=vstr key/\S.σ 2=vint t/\S.σ 9=ptr h/\S.σ 10=qZ rows/\S.σ 11=.list (some y) 8 ((qig rows key).map zJ)/\S.σ 13=vint i/\S.σ 25=qd9 ids/\S.σ 26=vint k) ⟨[(h,.c (qT c))],[⟨y,8,35⟩],_,_,?_,?_,zp _,zp _,rfl,rfl,?_⟩
    (fun k S D ⟨z,d,n,p,q,o,A,I,ar,au⟩=>?_) (fun S ⟨z,d,n,p,q,o,A,I,ar,au⟩=>?_)
   ·refine qB ?_;exact(((zc _).cons _).cons _).cons _
   ·refine qB ?_;exact zc _
   ·exact qA
   ·have T:=qj D;rcases k with _ | m
    ·have hp:(0:Int) < (ids.length:Int):=by omega
     have w1:IntKind.i64.wrap 1=1:=by decide
     refine qa ?_;exact lP (by exact qA)
    ·have X:m < ids.length:=by omega
     have aD:=uI m (by omega);have hp:(0:Int) < ((m+1:Nat):Int):=by omega
     have aB:cmpID ids[m] ids[m+1] < 0:=qRg.1 ah m (m+1) X D (by omega);have ay:¬ 0<=cmpID ids[m] ids[m+1]:=by omega
     refine qn ?_;refine qt _ (qSd ids[m] ids[m+1]).v ?_;refine qa ?_;exact lP (by exact qA)
   refine qn ?_;exact lP (by exact qA)
 ·refine qn ?_;refine qo _ qgt ?_;exact qe
open Go.ChangeShapes
theorem qEo:(Rows.naiveApartUptoRow.inPlace == prog.inPlace 3)=true:=by kernel_rfl
theorem qD5:(Rows.naiveApartUptoRow.unfollowed == prog.unfollowed 3)=true:=by kernel_rfl
theorem qD9:(Rows.naiveApartUptoRow.recurses == prog.recurses 3)=true:=by kernel_rfl
theorem qEf:(Rows.naiveApartUptoRow.named == prog.varsNamed 3)=true:=by kernel_rfl
theorem qD1:(Rows.naiveApartUptoRow.wf (OpenSpec.ofChange (Rows.OpenSpec.upto Rows.naiveApartSpec).bare))=true:=by kernel_rfl
theorem qoa:(laidOutB prog)=true:=by kernel_rfl
theorem qEg:(mapsRowed prog)=true:=by kernel_rfl
theorem qD8:(Tryz.f3.params.all (prog.readableRec ·))=true:=by kernel_rfl
theorem qEe:(namedTie prog Rows.naiveApartUptoRow.named (Rows.OpenSpec.upto Rows.naiveApartSpec).bare.vars)=true:=by kernel_rfl
theorem qEa:(prog.stops == [])=true:=by kernel_rfl
theorem qEc:(prog.stopKnobs == [])=true:=by kernel_rfl
theorem qEh:(Rows.naiveApartUptoRow.maps == (Tryz.f3.params.toList++(Rows.OpenSpec.upto Rows.naiveApartSpec).bare.plain.varTypes prog).any (prog.mapsRec ·))=true:=by kernel_rfl
theorem qEq:(Rows.naiveApartUptoRow.ifaces == (Tryz.f3.params.toList++(Rows.OpenSpec.upto Rows.naiveApartSpec).bare.plain.varTypes prog).any (prog.ifacesRec ·))=true:=by kernel_rfl
theorem qEi:(Rows.naiveApartUptoRow.mapsOut == prog.mapsAmong Tryz.f3.resultTypes.toList)=true:=by kernel_rfl
theorem qEn:(Rows.naiveApartUptoRow.loops == (Tryz.f3.params.toList++(Rows.OpenSpec.upto Rows.naiveApartSpec).bare.plain.varTypes prog).any (prog.loopsFrom ·))=true:=by kernel_rfl
theorem qD0:(Rows.naiveApartUptoRow.wideKeys == (Tryz.f3.params.toList++(Rows.OpenSpec.upto Rows.naiveApartSpec).bare.plain.varTypes prog++Tryz.f3.resultTypes.toList).any (prog.wideKeysFrom ·))=true:=by kernel_rfl
theorem qD2:((Rows.OpenSpec.upto Rows.naiveApartSpec).bare.vars.all (prog.varReadable ·))=true:=by kernel_rfl
theorem qD7:(Tryz.f3.resultTypes.all (fun t=>prog.readableRec t && decide (t < prog.types.size)))=true:=by kernel_rfl
theorem qEp:(Rows.naiveApartUptoRow.ifacesOut == Tryz.f3.resultTypes.toList.any (prog.ifacesRec ·))=true:=by kernel_rfl
theorem qEl:(Rows.naiveApartUptoRow.loopsOut == Tryz.f3.resultTypes.toList.any (prog.loopsFrom ·))=true:=by kernel_rfl
theorem qEb:(Rows.naiveApartUptoRow.plainKeys == prog.plainKeys)=true:=by kernel_rfl
theorem qD6:(prog.stopsHeard)=true:=by kernel_rfl
theorem qEk:(prog.mayEnter)=true:=by kernel_rfl
theorem qEm:(Rows.naiveApartUptoRow.lifted == prog.liftsFinal)=true:=by kernel_rfl
theorem qEj:(prog.make == some Rows.naiveApartUptoRow.make)=true:=by kernel_rfl
theorem qEd:(Rows.naiveApartUptoRow.pinned == Rows.naiveApartUptoRow.pinnedBy)=true:=by kernel_rfl
theorem qD4:(Rows.naiveApartUptoRow.veiled == (Tryz.f3.params.toList++(Rows.OpenSpec.upto Rows.naiveApartSpec).bare.plain.varTypes prog++Tryz.f3.resultTypes.toList).any (prog.veiledRec ·))=true:=by kernel_rfl
theorem qD3:(Rows.naiveApartUptoRow.veiledFits prog Tryz.f3.params.toList (Tryz.f3.params.toList++(Rows.OpenSpec.upto Rows.naiveApartSpec).bare.plain.varTypes prog++Tryz.f3.resultTypes.toList))=true:=by kernel_rfl
theorem qaw : prog.funcNamed "asof/asoflaw18.NaiveApart" = some 3 := by kernel_rfl
theorem qln:prog.looks []=false:=by kernel_rfl
theorem qrw:prog.funcs.any Func.goes=false:=by kernel_rfl
theorem qct {P:Program} {c:OpenClaim} (h:P.funcs.any Func.goes=false) (j:c.start=.entering):c.goesBy P=false:=by
 unfold OpenClaim.goesBy Program.goesAt Program.goesFrom;rw [j,qP3];cases k:P.funcNamed c.func with
 | none=>rfl
 | some f =>
  show P.goes f=false;unfold Program.goes;rw [h,qPu,qP3,List.any_eq_false];intro g _;cases d:P.funcs[g]? with
  | none=>simp
  | some fn =>
   rw [Option.any_some];exact fun e=>by
    have a:P.funcs.any Func.goes=true:=Array.any_eq_true'.2 ⟨fn,qR1 d,e⟩;rw [h] at a;cases a
theorem qsa:false=Rows.naiveApartUptoRow.goesBy prog:=(qct qrw rfl).symm
theorem ka {a b:Bool} (d:a=true) (hb:b=true):(a && b)=true:=by rw [d,hb];rfl
end Go.Proofs.YthfhklnhmahcbaaGreatDoor
