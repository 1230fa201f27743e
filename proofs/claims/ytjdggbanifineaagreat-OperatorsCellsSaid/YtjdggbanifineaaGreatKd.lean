/- Merged out of my texts GZ H0 H1 LA CA O7 O8 H2 I4 I5 I6 I7 I0 I1 I2 I3 I8. -/
import Derived.Test.YtjdggbanifineaaGreatKc
import Derived.Test.YtjdggbanifineaaGreatKa
import Derived.Test.YtjdggbanifineaaGreatKTy
import Derived.Test.YtjdggbanifineaaGreatKVT
import Derived.Test.YtjdggbanifineaaGreatKVK
import Derived.Lib.IndexMore
set_option linter.unusedSimpArgs false
set_option maxRecDepth 100000
namespace Go.Ar
open Go.VL Go.Sg Go.Lo
def FamC (f:Nat) (l:List Cl):Prop:=∀ c ∈ l,FamS f c.2
theorem addF_eq {f:Nat} {s:Stt} (h0:¬ f=0) (h:FamS f s) (v:Val) (id:FID) {n:Int} (hn:inW n):addF f s v id n=addSt.add s (dItem f v id n):=by
 unfold addF
 by_cases e:n=0
 ·subst e
  rw [if_pos (.inr rfl),dItem_zero]
  exact(addSt.addz h.ok).symm
 ·rw [if_neg fun h=>h.elim h0 e,addM_eq h v id hn]
theorem FamS.addF {f:Nat} {s:Stt} (h:FamS f s) (v:Val) (id:FID) {n:Int} (hn:inW n):FamS f (addF f s v id n):=by
 unfold Go.Ar.addF
 split
 ·exact h
 ·exact h.addM v id hn
theorem addF_len (f:Nat) (s:Stt) (v:Val) (id:FID) (n:Int) {k:Nat} (h1:s.2.2.1.length≤k) (h2:s.2.2.2.length≤k):(addF f s v id n).2.2.1.length≤k+1∧(addF f s v id n).2.2.2.length≤k+1:=by
 unfold addF addM
 split
 ·exact⟨by omega,by omega⟩
 ·refine⟨?_,?_⟩
  ·show (if f=4∨f=5 then _ else _:Its).length≤_
   split
   ·exact Nat.le_trans (put_len ordM addW _ _ _) (by omega)
   ·simp
  ·show (if f=3 then _ else _:Bks).length≤_
   split
   ·exact Nat.le_trans (put_len ordI addW _ _ _) (by omega)
   ·simp
theorem put_zeroS {K G:Type} [DecidableEq K] [DecidableEq G] {O:Sg.Ord K} {A:Sg.Add G} {k:K} {m:List (K × G)} (h:∀ p ∈ m,O.lt k p.1=true):put O A k A.z m=m:=by
 cases m with
 | nil=>unfold put;rw [if_pos rfl]
 | cons p m =>
  have h1:=h p List.mem_cons_self
  unfold put
  rw [if_neg (by rw [O.asym h1];decide),if_neg (fun e=>O.ne h1 e.symm),if_pos rfl]
abbrev stepM (f:Nat) (l:List Cl) (p:Pk):List Cl:=put ordI addSt p.1.event (dItem f p.1.val p.1.id p.2) l
theorem updM_take (f:Nat) (l:List Cl) (ps:List Pk) (i:Nat) (h:i < ps.length):updM f l (ps.take (i+1))=stepM f (updM f l (ps.take i)) ps[i]:=by
 rw [List.take_succ_eq_append_getElem h,updM_append];rfl
section
variable {f:Nat} {l:List Cl} {p:Pk} {i:Nat} (h0:¬ f=0) (hc:Canon ordI addSt l) (hF:FamC f l) (hn:inW p.2) (hi:i≤l.length) (hs:∀ j,(h:j < l.length)→(j < i↔l[j].1 < p.1.event))
include h0 hc hF hn hi hs
omit h0 hc hF hn in
theorem step_ahead:∀ q ∈ l.take i,ordI.lt q.1 p.1.event=true:=fun q hq=>by
 obtain⟨j,hj,rfl⟩:=List.getElem_of_mem hq
 rw [List.length_take] at hj
 rw [List.getElem_take]
 exact ltO.2 ((hs j (by omega)).1 (by omega))
omit hc in
theorem step_hit (h:i < l.length) (he:l[i].1=p.1.event):stepM f l p=if addF f l[i].2 p.1.val p.1.id p.2=zSt then l.take i++l.drop (i+1) else l.take i++(p.1.event,addF f l[i].2 p.1.val p.1.id p.2)::l.drop (i+1):=by
 have hd:l=l.take i++(p.1.event,l[i].2)::l.drop (i+1):=by
  rw [← he]
  conv=>lhs;rw [← List.take_append_drop i l,List.drop_eq_getElem_cons h]
 unfold stepM
 rw [addF_eq h0 (hF _ (List.getElem_mem h)) _ _ hn]
 conv=>lhs;rw [hd]
 rw [put_ahead (step_ahead hi hs),put_hit]
 show (_++if addSt.add l[i].2 _=zSt then _ else _)=_
 split <;> rfl
omit hF in
theorem step_miss (h:i=l.length∨∃ h:i < l.length,l[i].1 ≠ p.1.event):stepM f l p=if addF f zSt p.1.val p.1.id p.2=zSt then l else l.take i++(p.1.event,addF f zSt p.1.val p.1.id p.2)::l.drop i:=by
 have hb:∀ q ∈ l.drop i,ordI.lt p.1.event q.1=true:=fun q hq=>by
  rcases h with e | ⟨h,hne⟩
  ·rw [e,List.drop_length] at hq;cases hq
  ·have hp:=hc.sorted
   rw [← List.take_append_drop i l,List.drop_eq_getElem_cons h] at hp
   have hk:ordI.lt p.1.event l[i].1=true:=ltO.2 (by have:=mt (hs i h).2 (Nat.lt_irrefl i);omega)
   rw [List.drop_eq_getElem_cons h] at hq
   rcases List.mem_cons.1 hq with rfl | hq
   ·exact hk
   ·exact ordI.tr hk ((List.pairwise_cons.1 (List.pairwise_append.1 hp).2.1).1 q hq)
 have e1:addF f zSt p.1.val p.1.id p.2=dItem f p.1.val p.1.id p.2:=by
  rw [addF_eq h0 (FamS.zero f) _ _ hn];exact addSt.zadd (dItem_ok hn)
 rw [e1]
 unfold stepM
 conv=>lhs;rw [← List.take_append_drop i l]
 rw [put_ahead (step_ahead hi hs)]
 split
 ·rename_i hz
  rw [hz,show zSt=addSt.z from rfl,put_zeroS hb,List.take_append_drop]
 ·rename_i hz
  rw [put_miss hz hb]
end
theorem FamC.step {f:Nat} {l:List Cl} {p:Pk} (h0:¬ f=0) (hF:FamC f l) (hn:inW p.2):FamC f (stepM f l p):=by
 have main:∀ {l:List Cl},FamC f l→FamC f (stepM f l p):=by
  intro l
  induction l with
  | nil =>
   intro _ c hc
   unfold stepM put at hc
   split at hc
   ·cases hc
   ·rw [List.mem_singleton.1 hc]
    have:=(FamS.zero f).addF p.1.val p.1.id hn
    rw [addF_eq h0 (FamS.zero f) _ _ hn,show addSt.add zSt _=_ from addSt.zadd (dItem_ok hn)] at this
    exact this
  | cons q l ih =>
   intro hF c hc
   have hl:FamC f l:=fun c hc=>hF c (List.mem_cons_of_mem _ hc)
   have hq:=hF q List.mem_cons_self
   unfold stepM put at hc
   split at hc
   ·rcases List.mem_cons.1 hc with rfl | hc
    ·exact hq
    ·exact ih hl c hc
   ·split at hc
    ·split at hc
     ·exact hl c hc
     ·rcases List.mem_cons.1 hc with rfl | hc
      ·have:=hq.addF p.1.val p.1.id hn
       rw [addF_eq h0 hq _ _ hn] at this
       exact this
      ·exact hl c hc
    ·split at hc
     ·exact hF c hc
     ·rcases List.mem_cons.1 hc with rfl | hc
      ·have:=(FamS.zero f).addF p.1.val p.1.id hn
       rw [addF_eq h0 (FamS.zero f) _ _ hn,show addSt.add zSt _=_ from addSt.zadd (dItem_ok hn)] at this
       exact this
      ·exact hF c hc
 exact main hF
theorem Bd.step {f n:Nat} {l:List Cl} {p:Pk} (h0:¬ f=0) (hF:FamC f l) (hn:inW p.2) (hb:Bd n l):Bd (n+1) (stepM f l p):=by
 refine⟨Nat.le_trans (put_len ordI addSt _ _ _) (Nat.add_le_add_right hb.1 1),?_⟩
 have main:∀ {l:List Cl},FamC f l→(∀ c ∈ l,c.2.2.2.1.length≤n∧c.2.2.2.2.length≤n)→∀ c ∈ stepM f l p,c.2.2.2.1.length≤n+1∧c.2.2.2.2.length≤n+1:=by
  have up:∀ c:Cl,(c.2.2.2.1.length≤n∧c.2.2.2.2.length≤n)→c.2.2.2.1.length≤n+1∧c.2.2.2.2.length≤n+1:=fun c h=>⟨by omega,by omega⟩
  have new:∀ s:Stt,FamS f s→s.2.2.1.length≤n→s.2.2.2.length≤n→(addSt.add s (dItem f p.1.val p.1.id p.2)).2.2.1.length≤n+1∧(addSt.add s (dItem f p.1.val p.1.id p.2)).2.2.2.length≤n+1:=fun s hs h1 h2=>by
   have:=addF_len f s p.1.val p.1.id p.2 h1 h2
   rwa [addF_eq h0 hs _ _ hn] at this
  have new0:=new zSt (FamS.zero f) (Nat.zero_le _) (Nat.zero_le _)
  rw [show addSt.add zSt _=_ from addSt.zadd (dItem_ok hn)] at new0
  intro l
  induction l with
  | nil =>
   intro _ _ c hc
   unfold stepM put at hc
   split at hc
   ·cases hc
   ·rw [List.mem_singleton.1 hc];exact new0
  | cons q l ih =>
   intro hF hb c hc
   have hl:FamC f l:=fun c hc=>hF c (List.mem_cons_of_mem _ hc)
   have hbl:∀ c ∈ l,c.2.2.2.1.length≤n∧c.2.2.2.2.length≤n:=fun c hc=>hb c (List.mem_cons_of_mem _ hc)
   unfold stepM put at hc
   split at hc
   ·rcases List.mem_cons.1 hc with rfl | hc
    ·exact up _ (hb _ List.mem_cons_self)
    ·exact ih hl hbl c hc
   ·split at hc
    ·split at hc
     ·exact up _ (hbl c hc)
     ·rcases List.mem_cons.1 hc with rfl | hc
      ·exact new q.2 (hF q List.mem_cons_self) (hb q List.mem_cons_self).1 (hb q List.mem_cons_self).2
      ·exact up _ (hbl c hc)
    ·split at hc
     ·exact up _ (hb c hc)
     ·rcases List.mem_cons.1 hc with rfl | hc
      ·exact new0
      ·exact up _ (hb c hc)
 exact main hF hb.2
structure GoodC (f n:Nat) (l:List Cl):Prop where
 can:Canon ordI addSt l
 fam:FamC f l
 bd:Bd n l
theorem GoodC.step {f n:Nat} {l:List Cl} {p:Pk} (h0:¬ f=0) (h:GoodC f n l) (hn:inW p.2):GoodC f (n+1) (stepM f l p):=⟨h.can.put (dItem_ok hn),h.fam.step h0 hn,h.bd.step h0 h.fam hn⟩
theorem GoodC.nil (f n:Nat):GoodC f n []:=⟨Canon.nil,fun _ hc=>absurd hc List.not_mem_nil,Nat.zero_le _,fun _ hc=>absurd hc List.not_mem_nil⟩
theorem GoodC.upd {f:Nat} (h0:¬ f=0):∀ {ps:List Pk} {n:Nat} {l:List Cl},GoodC f n l→(∀ p ∈ ps,inW p.2)→GoodC f (n+ps.length) (updM f l ps)
 | [],_,_,h,_=>h
 | p::ps,n,l,h,hp=>by
  have:=GoodC.upd h0 (ps:=ps) (h.step h0 (hp p List.mem_cons_self)) fun q hq=>hp q (List.mem_cons_of_mem _ hq)
  rw [List.length_cons,show n+(ps.length+1)=n+1+ps.length by omega]
  exact this
theorem GoodC.sorted {f n:Nat} {l:List Cl} (h:GoodC f n l):l.Pairwise fun a b=>a.1 < b.1:=h.can.sorted.imp fun h=>ltO.1 h
end Go.Ar
set_option linter.unusedSimpArgs false
set_option maxRecDepth 100000
set_option linter.defProp false
namespace Go.Ar
open Go.VL Go.Sg Go.Lo
theorem cell_cut (l:List Cl) (i:Nat) (h:i < l.length) (rest:List V):(l.map cCl).flatten++rest=((l.take i).map cCl).flatten++(cCl l[i]++(((l.drop (i+1)).map cCl).flatten++rest)):=by
 conv=>lhs;rw [← List.take_append_drop i l,List.drop_eq_getElem_cons h]
 simp only [List.map_append,List.map_cons,List.flatten_append,List.flatten_cons,List.append_assoc]
theorem ins_cellsC (l:List Cl) (j:Nat) (hj:j≤l.length) (rest0 rest:List V) (g:Cl):List.take (j * 6) ((l.map cCl).flatten++rest0)++cCl g++List.drop (j * 6) (List.take (l.length * 6) ((l.map cCl).flatten++rest0))++rest=((l.take j++g::l.drop j).map cCl).flatten++rest:=by
 have h1:=cells_lenC l
 have h2:(((l.take j).map cCl).flatten).length=j * 6:=by rw [cells_lenC,List.length_take,Nat.min_eq_left hj]
 have h3:(l.map cCl).flatten=((l.take j).map cCl).flatten++((l.drop j).map cCl).flatten:=by rw [← List.flatten_append,← List.map_append,List.take_append_drop]
 rw [List.take_left' h1,List.take_append_of_le_length (by rw [h1];omega),h3,List.take_left' h2,List.drop_left' h2]
 simp only [List.map_append,List.map_cons,List.flatten_append,List.flatten_cons,List.append_assoc]
end Go.Ar
namespace Go.Proofs.YtjdggbanifineaaGreat
open Go.VL Go.Ar Go.Sg Go.Lo Go.Proofs.YtjdggbanifineaaGreat Go.Proofs.YtjdggbanifineaaGreat.Arr
def CellsAt (L:List Cl) (v:V) (bs:List (Nat × B)):Prop:=(L=[]∧v=nilS∧bs=[])∨∃ b c rest,(L.length≤c∧rest.length=(c - L.length) * 6)∧v=.lit (.slice (some ⟨b,0,none⟩) L.length c)∧bs=[(b,.c ((L.map cCl).flatten++rest))]
def tbH00:=(aI (aI (aI (aI Ty.c22 (aI Ty.c23 Ty.c24)) (aI Ty.c26 (aI Ty.c27 Ty.c28))) (aI (aI Ty.c29 (aI Ty.c7 Ty.t117)) (aI (aI Ty.t22 Ty.t26) (aI Ty.t28 Ty.t3)))) (aI (aI (aI Ty.t30 (aI Ty.t31 Ty.t4)) (aI Ty.t49 (aI Ty.t51 Ty.t52))) (aI (aI Ty.t53 (aI Ty.t55 Ty.t57)) (aI (aI Ty.t58 Ty.t61) (aI Ty.t65 Ty.t9)))))
set_option maxHeartbeats 1000000 in
theorem update_raw (op:Str) (l:List Cl) (ps:List Pk) (h0:¬ fam op=0) (hg:GoodC (fam op) 10000 l) (hp:∀ p ∈ ps,inW p.2∧inW p.1.val.n) (hl:ps.length≤10000):Ok Tryz.prog 9 [vstr op,vCls l,vPks ps] [] fun v bs rs=>rs=[]∧CellsAt (updM (fam op) l ps) v bs:=by
 refine Ok.of_ex Ty.mixed Tryz.func9 rfl (by simp [Tryz.ntmps9]) (by kernel_rfl) fun F w0 I0=>?_
 simp only [↓rA,rB,buildOk,nt_is,simprocAttr,tbH00,Tryz.results9]
 refine OkF_of _ (known_ok op) ?_
 simp only [↓rA,rB,buildOk,nt_is,simprocAttr,tbH00,Tryz.results9,h0]
 refine OkF_with [] [] (List.Perm.refl _) (cloneC_ok l (by have:=hg.bd.1;omega)) ?_
 intro v bs rs hcl
 obtain⟨hr0,hcl2⟩:rs=[]∧CellsAt l v bs:=by
  obtain⟨h1,⟨h2,h3,h4⟩ | ⟨b,c,h2,h3,h4⟩⟩:=hcl
  ·exact⟨h1,.inl ⟨h2,h3,h4⟩⟩
  ·exact⟨h1,.inr ⟨b,c,_,⟨h2,anys_len _⟩,h3,h4⟩⟩
 subst hr0
 clear hcl
 simp only [↓rA,rB,buildOk,nt_is,simprocAttr,tbH00,Tryz.results9]
 refine EX_forS Ty.mixed (by kernel_rfl) ps.length (fun i S=>CellsAt (updM (fam op) l (ps.take i)) (S.σ 6) S.boxes∧S.rows=[]∧S.σ 0=vstr op∧S.σ 18=vPks ps∧S.σ 19=vint ps.length∧S.σ 20=vint i) ⟨_,_,List.Sublist.refl _,List.Sublist.refl _,?_⟩ (fun i S hi ⟨hc,gr,g0,g18,g19,g20⟩=>?_) (fun S ⟨hc,gr,g0,g18,g19,g20⟩=>?_)
 ·simp only [↓rA,rB,buildOk,nt_is,simprocAttr,tbH00,Tryz.results9,List.length_map]
  exact hcl2
 ·have hgi:=(hg.upd h0 (ps:=ps.take i) fun q hq=>(hp q (List.mem_of_mem_take hq)).1)
  rw [updM_take _ _ _ _ hi]
  generalize updM (fam op) l (ps.take i)=L at hc hgi ⊢
  obtain⟨hpn,hpv⟩:=hp ps[i] (List.getElem_mem hi)
  have hLl:L.length≤20000:=by have:=hgi.bd.1;rw [List.length_take] at this;omega
  have hbd:∀ c ∈ L,c.2.2.2.1.length≤20000∧c.2.2.2.2.length≤20000:=fun c hc=>by have:=hgi.bd.2 c hc;rw [List.length_take] at this;omega
  have w1:=wrap_succ hi (by omega)
  rcases hc with⟨rfl,g6,gb⟩ | ⟨b,c,rest,⟨hlc,hrl⟩,g6,gb⟩
  ·have hst:=step_miss h0 Canon.nil hpn (Nat.le_refl 0) (fun j h=>absurd h (Nat.not_lt_zero j)) (.inl rfl) (p:=ps[i])
   simp only [↓rA,rB,buildOk,nt_is,simprocAttr,tbH00,Tryz.results9,gb,gr,g0,g6,g18,g19,g20,Int.ofNat_lt,hi,List.length_map,getD_map _ _ _ hi]
   generalize ps[i]=p at hpn hpv hst ⊢
   refine fun b8 h8=>?_;replace h8:=newb h8;try simp only [Nb] at h8
   simp only [↓rA,rB,buildOk,nt_is,simprocAttr,tbH00,Tryz.results9,gb,gr,g0,g6,g18,g19,g20,h8]
   refine OkF_of _ (bsearchNilC_ok p.1.event) ?_
   simp only [↓rA,rB,buildOk,nt_is,simprocAttr,tbH00,Tryz.results9,gb,gr,g0,g6,g18,g19,g20,h8]
   refine fun b11 h11=>?_;replace h11:=newb h11;try simp only [Nb] at h11
   simp only [↓rA,rB,buildOk,nt_is,simprocAttr,tbH00,Tryz.results9,gb,gr,g0,g6,g18,g19,g20,h8,h11]
   have hE:Le (V.agg [vint 0,vint 0,vu 0,nilS,nilS]) (.agg (cSt zSt)):=LeSt (Le.nil 6) (Le.nil 2)
   refine OkF_le (.cons (Le.refl _) (.cons hE (.cons (Le.refl _) .nil))) _ (add_ok op zSt ((p.1.id,p.1.val),p.2) (FamS.zero _) hpv hpn (by simp) (by simp)) ?_
   show _
   generalize addF (fam op) zSt p.1.val p.1.id p.2=s at hst ⊢
   simp only [↓rA,rB,buildOk,nt_is,simprocAttr,tbH00,Tryz.results9,gb,gr,g0,g6,g18,g19,g20,h8,h11]
   refine OkF_of _ (zero_ok s) ?_
   by_cases hz:s=zSt
   ·rw [if_pos hz] at hst
    simp only [↓rA,rB,buildOk,nt_is,simprocAttr,tbH00,Tryz.results9,gb,gr,g0,g6,g18,g19,g20,h8,h11,hz,w1]
    refine⟨[],_,List.nil_sublist _,List.Sublist.refl _,?_⟩
    simp only [↓rA,rB,buildOk,nt_is,simprocAttr,tbH00,Tryz.results9,gr,g0,g6,g18,g19,g20]
    exact .inl ⟨hst,rfl,rfl⟩
   ·rw [if_neg hz] at hst
    simp only [↓rA,rB,buildOk,nt_is,simprocAttr,tbH00,Tryz.results9,gb,gr,g0,g6,g18,g19,g20,h8,h11,hz,w1]
    refine fun y=>OkF_with [] [_,_] (List.Perm.refl _) (insCeNil_ok (cCl (p.1.event,s)) (some y)) ?_
    rintro v bs rs ⟨rfl,b,c,hc1,rfl,rfl⟩
    simp only [↓rA,rB,buildOk,nt_is,simprocAttr,tbH00,Tryz.results9,gb,gr,g0,g6,g18,g19,g20,h8,h11,w1]
    refine⟨[_],[],List.Sublist.cons_cons _ (List.nil_sublist _),List.nil_sublist _,?_⟩
    simp only [↓rA,rB,buildOk,nt_is,simprocAttr,tbH00,Tryz.results9,gr,g0,g6,g18,g19,g20]
    rw [hst]
    exact .inr ⟨b,c,anys ((c - 1) * 6),⟨hc1,anys_len _⟩,rfl,by simp⟩
  ·skip
   simp only [↓rA,rB,buildOk,nt_is,simprocAttr,tbH00,Tryz.results9,gb,gr,g0,g6,g18,g19,g20,Int.ofNat_lt,hi,List.length_map,getD_map _ _ _ hi]
   generalize ps[i]=p at hpn hpv ⊢
   refine fun b8 h8=>?_;replace h8:=newb h8;try simp only [Nb] at h8
   simp only [↓rA,rB,buildOk,nt_is,simprocAttr,tbH00,Tryz.results9,gb,gr,g0,g6,g18,g19,g20,h8]
   refine OkF_with [_] [_] (List.Perm.swap _ _ _) (bsearchC_ok L p.1.event rest b c (by omega) hgi.sorted) ?_
   rintro v bs rs ⟨rfl,rfl,k,hk,hsp,rfl⟩
   generalize hfd:decide (L[k]?.map (·.1)=some p.1.event)=fd
   simp only [↓rA,rB,buildOk,nt_is,simprocAttr,tbH00,Tryz.results9,gb,gr,g0,g6,g18,g19,g20,h8]
   refine fun b11 h11=>?_;replace h11:=newb h11;try simp only [Nb] at h11
   have hh:=And.intro h8 h11
   have wk:IntKind.i64.wrap ((k:Int)+1)=((k+1:Nat):Int):=by rw [wrap_id (by omega) (by omega)];rfl
   cases fd with
   | true =>
    have hfe:=of_decide_eq_true hfd
    have hil:k < L.length:=by
     rcases Nat.lt_or_ge k L.length with h | h
     ·exact h
     ·rw [List.getElem?_eq_none h] at hfe;cases hfe
    rw [List.getElem?_eq_getElem hil] at hfe
    have he:L[k].1=p.1.event:=Option.some.inj hfe
    have hst:=step_hit h0 hgi.fam hpn hk hsp hil he
    have hcl:=get_cells (k:=6) (c:=cCl) (fun _=>rfl) L rest k hil
    have hdl:=left_cells (k:=6) (c:=cCl) (fun _=>rfl) L rest k hil
    have hFs:=hgi.fam _ (List.getElem_mem hil)
    have hbs:=hbd _ (List.getElem_mem hil)
    simp only [↓rA,rB,buildOk,nt_is,simprocAttr,tbH00,Tryz.results9,gb,gr,g0,g6,g18,g19,g20,hh,Int.ofNat_lt,hil,hcl,hdl,wk]
    rw [cell_cut L k hil rest]
    refine OkF_with [_] [_,_] (List.Perm.swap _ _ _) (delCe_ok ((L.take k).map cCl).flatten ((L.drop (k+1)).map cCl).flatten (cCl L[k]) rest k L.length c b (by rw [cells_lenC,List.length_take,Nat.min_eq_left (by omega)]) rfl (by rw [cells_lenC,List.length_drop]) hil hlc (by omega) hrl) ?_
    rintro v bs rs ⟨rfl,rest',rfl,hr',rfl⟩
    have hap:((L.take k).map cCl).flatten++(((L.drop (k+1)).map cCl).flatten++rest')=((L.take k++L.drop (k+1)).map cCl).flatten++rest':=by simp only [List.map_append,List.flatten_append,List.append_assoc]
    rw [hap]
    clear hap
    have hl':(L.take k++L.drop (k+1)).length=L.length - 1:=by rw [List.length_append,List.length_take,List.length_drop];omega
    have ht':(L.take k++L.drop (k+1)).take k=L.take k:=List.take_left' (by rw [List.length_take];omega)
    have hd':(L.take k++L.drop (k+1)).drop k=L.drop (k+1):=List.drop_left' (by rw [List.length_take];omega)
    rw [← hl'] at hr' ⊢
    have hst':stepM (fam op) L p=if addF (fam op) L[k].2 p.1.val p.1.id p.2=zSt then L.take k++L.drop (k+1) else (L.take k++L.drop (k+1)).take k++(p.1.event,addF (fam op) L[k].2 p.1.val p.1.id p.2)::(L.take k++L.drop (k+1)).drop k:=by
     rw [hst,ht',hd']
    have hk':k≤(L.take k++L.drop (k+1)).length:=by omega
    have hlc':(L.take k++L.drop (k+1)).length≤c:=by omega
    have hll':(L.take k++L.drop (k+1)).length≤20000:=by omega
    clear hst ht' hd' hl' hcl hdl
    generalize L.take k++L.drop (k+1)=L' at *
    have hFs':=hFs
    clear hFs
    generalize L[k]=cc at he hst' hbs hFs' ⊢
    obtain⟨ce,cs⟩:=cc
    simp only at he hst' hbs hFs'
    subst he
    simp only [↓rA,rB,buildOk,nt_is,simprocAttr,tbH00,Tryz.results9,gb,gr,g0,g6,g18,g19,g20,hh]
    refine OkF_of _ (add_ok op cs ((p.1.id,p.1.val),p.2) hFs' hpv hpn (by omega) (by omega)) ?_
    show _
    generalize addF (fam op) cs p.1.val p.1.id p.2=s at hst' ⊢
    simp only [↓rA,rB,buildOk,nt_is,simprocAttr,tbH00,Tryz.results9,gb,gr,g0,g6,g18,g19,g20,hh]
    refine OkF_of _ (zero_ok s) ?_
    by_cases hz:s=zSt
    ·rw [if_pos hz] at hst'
     simp only [↓rA,rB,buildOk,nt_is,simprocAttr,tbH00,Tryz.results9,gb,gr,g0,g6,g18,g19,g20,hh,hz,w1]
     refine⟨[_],_,List.Sublist.cons_cons _ (List.nil_sublist _),List.Sublist.refl _,?_⟩
     simp only [↓rA,rB,buildOk,nt_is,simprocAttr,tbH00,Tryz.results9,gr,g0,g6,g18,g19,g20]
     rw [hst']
     exact .inr ⟨b,c,rest',⟨hlc',hr'⟩,rfl,rfl⟩
    ·rw [if_neg hz] at hst'
     have hcs:((L'.map cCl).flatten++rest').length=c * 6:=by rw [List.length_append,cells_lenC,hr',← Nat.add_mul];congr 1;omega
     simp only [↓rA,rB,buildOk,nt_is,simprocAttr,tbH00,Tryz.results9,gb,gr,g0,g6,g18,g19,g20,hh,hz,w1]
     refine fun y=>OkF_with [_] [_,_] (List.Perm.refl _) (insCe_ok _ k L'.length c b (cCl (p.1.event,s)) (some y) rfl hcs hk' hlc' (by omega)) ?_
     rintro v bs rs ⟨rfl,b',c',rest'',h1,rfl,h2,rfl⟩
     simp only [↓rA,rB,buildOk,nt_is,simprocAttr,tbH00,Tryz.results9,gb,gr,g0,g6,g18,g19,g20,hh,w1]
     refine⟨[_],[],List.Sublist.cons_cons _ (List.nil_sublist _),List.nil_sublist _,?_⟩
     simp only [↓rA,rB,buildOk,nt_is,simprocAttr,tbH00,Tryz.results9,gr,g0,g6,g18,g19,g20]
     rw [hst',ins_cellsC L' k hk']
     have hlen:(L'.take k++(p.1.event,s)::L'.drop k).length=L'.length+1:=by simp;omega
     exact .inr ⟨b',c',rest'',⟨by rw [hlen];exact h1,by rw [hlen];exact h2⟩,by rw [hlen],rfl⟩
   | false =>
    have hfe:=of_decide_eq_false hfd
    have hst:=step_miss h0 hgi.can hpn hk hsp (by
     rcases Nat.lt_or_ge k L.length with h | h
     ·refine .inr ⟨h,fun e=>hfe ?_⟩
      rw [List.getElem?_eq_getElem h,Option.map_some,e]
     ·exact .inl (by omega))
    simp only [↓rA,rB,buildOk,nt_is,simprocAttr,tbH00,Tryz.results9,gb,gr,g0,g6,g18,g19,g20,hh]
    have hE:Le (V.agg [vint 0,vint 0,vu 0,nilS,nilS]) (.agg (cSt zSt)):=LeSt (Le.nil 6) (Le.nil 2)
    refine OkF_le (.cons (Le.refl _) (.cons hE (.cons (Le.refl _) .nil))) _ (add_ok op zSt ((p.1.id,p.1.val),p.2) (FamS.zero _) hpv hpn (by simp) (by simp)) ?_
    show _
    generalize addF (fam op) zSt p.1.val p.1.id p.2=s at hst ⊢
    simp only [↓rA,rB,buildOk,nt_is,simprocAttr,tbH00,Tryz.results9,gb,gr,g0,g6,g18,g19,g20,hh]
    refine OkF_of _ (zero_ok s) ?_
    by_cases hz:s=zSt
    ·rw [if_pos hz] at hst
     simp only [↓rA,rB,buildOk,nt_is,simprocAttr,tbH00,Tryz.results9,gb,gr,g0,g6,g18,g19,g20,hh,hz,w1]
     refine⟨[_],_,List.Sublist.cons _ (List.Sublist.cons_cons _ (List.nil_sublist _)),List.Sublist.refl _,?_⟩
     simp only [↓rA,rB,buildOk,nt_is,simprocAttr,tbH00,Tryz.results9,gr,g0,g6,g18,g19,g20]
     rw [hst]
     exact .inr ⟨b,c,rest,⟨hlc,hrl⟩,rfl,rfl⟩
    ·rw [if_neg hz] at hst
     have hcs:((L.map cCl).flatten++rest).length=c * 6:=by rw [List.length_append,cells_lenC,hrl,← Nat.add_mul];congr 1;omega
     simp only [↓rA,rB,buildOk,nt_is,simprocAttr,tbH00,Tryz.results9,gb,gr,g0,g6,g18,g19,g20,hh,hz,w1]
     refine fun y=>OkF_with [_] [_,_] (List.Perm.swap _ _ _) (insCe_ok _ k L.length c b (cCl (p.1.event,s)) (some y) rfl hcs hk hlc (by omega)) ?_
     rintro v bs rs ⟨rfl,b',c',rest',h1,rfl,h2,rfl⟩
     simp only [↓rA,rB,buildOk,nt_is,simprocAttr,tbH00,Tryz.results9,gb,gr,g0,g6,g18,g19,g20,hh,w1]
     refine⟨[_],[],List.Sublist.cons_cons _ (List.nil_sublist _),List.nil_sublist _,?_⟩
     simp only [↓rA,rB,buildOk,nt_is,simprocAttr,tbH00,Tryz.results9,gr,g0,g6,g18,g19,g20]
     rw [hst,ins_cellsC L k hk]
     have hlen:(L.take k++(p.1.event,s)::L.drop k).length=L.length+1:=by simp;omega
     exact .inr ⟨b',c',rest',⟨by rw [hlen];exact h1,by rw [hlen];exact h2⟩,by rw [hlen],rfl⟩
 ·rw [List.take_length] at hc
  simp only [↓rA,rB,buildOk,nt_is,simprocAttr,tbH00,Tryz.results9,gr,g0,g18,g19,g20,Int.ofNat_lt,Nat.lt_irrefl]
  exact⟨_,_,[],Le.refl _,List.Sublist.refl _,List.nil_sublist _,rfl,hc⟩
end Go.Proofs.YtjdggbanifineaaGreat
set_option linter.unusedSimpArgs false
set_option maxRecDepth 100000
set_option linter.defProp false
namespace Go.Ar
open Go.VL Go.Sg Go.Lo
theorem pm3 {α:Type} (a b c d:α):[a,b,c,d].Perm [b,c,a,d]:=(List.perm_middle (l₁:=[b,c]) (a:=a) (l₂:=[d])).symm
theorem pmr {α:Type} (a b c:α):[a,b,c].Perm [c,b,a]:=(List.reverse_perm [a,b,c]).symm
abbrev outP (key:Str) (tick:Int) (p:Pk):Bool:=!selB key tick p
theorem cells_lenP (L:List Pk):((L.map cPk).flatten).length=L.length * 9:=flatK_len (c:=cPk) (k:=9) (fun _=>rfl) L
theorem pick_cells (l:List Pk) (i:Nat) (hi:i < l.length) (rest:List V):∃ A B:List V,A.length=i * 9∧(l.map cPk).flatten++rest=A++(cPk l[i]++B):=by
 refine⟨((l.take i).map cPk).flatten,((l.drop (i+1)).map cPk).flatten++rest,?_,?_⟩
 ·rw [cells_lenP,List.length_take,Nat.min_eq_left (by omega)]
 ·conv=>lhs;rw [← List.take_append_drop i l,List.drop_eq_getElem_cons hi]
  simp only [List.map_append,List.map_cons,List.flatten_append,List.flatten_cons,List.append_assoc]
theorem sel_take (key:Str) (tick:Int) (l:List Pk) (i:Nat) (h:i < l.length):(l.take (i+1)).filter (selB key tick)=(l.take i).filter (selB key tick)++(if outP key tick l[i]=true then [] else [l[i]]):=by
 rw [List.take_succ_eq_append_getElem h,List.filter_append]
 unfold outP
 cases hx:selB key tick l[i] <;> simp [List.filter_cons,hx]
theorem sel_none {key:Str} {tick:Int} {l:List Pk} (h:∀ p ∈ l,outP key tick p=false):l.filter (selB key tick)=l:=by
 rw [List.filter_eq_self]
 intro x hx
 have:=h x hx
 unfold outP at this
 simpa using this
theorem sel_take_none {key:Str} {tick:Int} {l:List Pk} {i:Nat} (hi:i < l.length) (h:∀ j (h':j < i),outP key tick (l[j]'(by omega))=false):(l.take i).filter (selB key tick)=l.take i:=by
 refine sel_none fun p hp=>?_
 obtain⟨j,hj,rfl⟩:=List.getElem_of_mem hp
 rw [List.length_take] at hj
 rw [List.getElem_take]
 exact h j (by omega)
theorem del_cellsP (K l:List Pk) (G:List V) (j:Nat) (hj:j < l.length) (rest:List V):∃ X Y:List V,X.length=K.length * 9+G.length∧(K.map cPk).flatten++(G++(((l.drop j).map cPk).flatten++rest))=X++(cPk l[j]++Y)∧X=(K.map cPk).flatten++G∧Y=((l.drop (j+1)).map cPk).flatten++rest:=by
 refine⟨(K.map cPk).flatten++G,((l.drop (j+1)).map cPk).flatten++rest,by rw [List.length_append,cells_lenP],?_,rfl,rfl⟩
 rw [List.drop_eq_getElem_cons hj]
 simp only [List.map_cons,List.flatten_cons,List.append_assoc]
theorem put_cells9 (kc G Z row:List V) {m:Nat} (h:kc.length=m) (hG:9≤G.length):(kc++G++Z).take m++row++(kc++G++Z).drop (m+9)=kc++(row++(G.drop 9++Z)):=by
 subst h
 rw [List.append_assoc kc G Z,List.take_left',← List.drop_drop,List.drop_left',List.drop_append_of_le_length hG,List.append_assoc] <;> rfl
end Go.Ar
namespace Go.Proofs.YtjdggbanifineaaGreat
open Go.VL Go.Ar Go.Sg Go.Lo Go.Proofs.YtjdggbanifineaaGreat Go.Proofs.YtjdggbanifineaaGreat.Arr
theorem update_ok (op:Str) (l:List Cl) (ps:List Pk) (h0:¬ fam op=0) (hg:GoodC (fam op) 10000 l) (hp:∀ p ∈ ps,inW p.2∧inW p.1.val.n) (hl:ps.length≤10000):OkP Tryz.prog 9 [vstr op,vCls l,vPks ps] (vCls (updM (fam op) l ps)):=by
 have hraw:=update_raw op l ps h0 hg hp hl
 generalize updM (fam op) l ps=L at hraw
 refine norowsO (Q:=fun v bs rs=>bs=[]∧rs=[]∧((v=nilS∧L=[])∨∃ y,v=.list (some y) 6 (L.map cCl))) (Ok.freeze hraw fun v bs rs h=>?_) fun v bs rs h=>?_
 ·obtain⟨rfl,⟨h1,rfl,rfl⟩ | ⟨b,c,rest,⟨hc,hr⟩,rfl,rfl⟩⟩:=h
  ·exact .inl ⟨rfl,rfl,.inl ⟨rfl,h1⟩⟩
  ·exact .inr ⟨b,L.length,c,6,_,L.map cCl,[],_,List.Perm.refl _,⟨List.take_left' (cells_lenC L),fun e he=>by obtain⟨x,_,rfl⟩:=List.mem_map.1 he;rfl,by simp,hc⟩,.here,rfl,rfl,.inr ⟨_,rfl⟩⟩
 ·obtain⟨rfl,rfl,⟨rfl,h⟩ | ⟨y,rfl⟩⟩:=h
  ·exact⟨vCls L,[],[],by rw [h];exact Le.nil 6,List.nil_sublist _,List.nil_sublist _,rfl,rfl,rfl⟩
  ·exact⟨vCls L,[],[],Le.list _ _ _,List.nil_sublist _,List.nil_sublist _,rfl,rfl,rfl⟩
def tbH10:=(aI (aI (aI (aI Ty.c22 (aI Ty.c23 Ty.c24)) (aI Ty.c26 (aI Ty.c27 Ty.c28))) (aI (aI Ty.c29 (aI Ty.c7 Ty.t117)) (aI (aI Ty.t22 Ty.t26) (aI Ty.t28 Ty.t3)))) (aI (aI (aI Ty.t30 (aI Ty.t31 Ty.t4)) (aI Ty.t49 (aI Ty.t51 Ty.t52))) (aI (aI Ty.t53 (aI Ty.t55 Ty.t57)) (aI (aI Ty.t58 Ty.t61) (aI Ty.t65 Ty.t9)))))
theorem update0_ok (op:Str) (v w:V) (h0:fam op=0):OkP Tryz.prog 9 [vstr op,v,w] v:=by
 refine Ok.of_ex Ty.mixed Tryz.func9 rfl (by simp [Tryz.ntmps9]) (by kernel_rfl) fun F w0 I0=>?_
 simp only [↓rA,rB,buildOk,nt_is,simprocAttr,tbH10,Tryz.results9]
 refine OkF_of _ (known_ok op) ?_
 simp only [↓rA,rB,buildOk,nt_is,simprocAttr,tbH10,Tryz.results9,h0]
 exact ret_done rfl
def tbH11:=(aI (aI Ty.t26 (aI Ty.t28 Ty.t3)) (aI Ty.t30 (aI Ty.t4 Ty.t9)))
theorem outP_ok (p:Pk) (key:Str) (tick:Int) (bk bt:Nat) (hb:bk ≠ bt∧bt ≠ bk):Ok Tryz.prog 21 [.agg (cPk p),ptr bk,ptr bt] [(bk,.c [vstr key]),(bt,.c [vint tick])] fun v bs rs=>v=vbool (outP key tick p)∧bs=[(bk,.c [vstr key]),(bt,.c [vint tick])]∧rs=[]:=by
 refine Ok.of_ex Ty.mixed Tryz.func21 rfl (by simp [Tryz.ntmps21]) (by kernel_rfl) fun F w0 I0=>?_
 simp only [↓rA,rB,buildOk,nt_is,simprocAttr,tbH11,Tryz.results21]
 refine fun b3 h3=>?_;replace h3:=newb h3;try simp only [Nb] at h3
 by_cases hk:p.1.key=key
 ·by_cases ht:tick < p.1.tick
  ·simp only [↓rA,rB,buildOk,nt_is,simprocAttr,tbH11,Tryz.results21,h3,hb,hk,ht]
   exact⟨_,[_,_],[],Le.refl _,List.Sublist.cons _ (List.Sublist.refl _),List.nil_sublist _,by simp [selB,hk,ht],rfl,rfl⟩
  ·simp only [↓rA,rB,buildOk,nt_is,simprocAttr,tbH11,Tryz.results21,h3,hb,hk,ht]
   exact⟨_,[_,_],[],Le.refl _,List.Sublist.cons _ (List.Sublist.refl _),List.nil_sublist _,by simp [selB,hk];omega,rfl,rfl⟩
 ·simp only [↓rA,rB,buildOk,nt_is,simprocAttr,tbH11,Tryz.results21,h3,hb,hk]
  exact⟨_,[_,_],[],Le.refl _,List.Sublist.cons _ (List.Sublist.refl _),List.nil_sublist _,by simp [selB,hk],rfl,rfl⟩
abbrev fnC (bk bt:Nat):V:=.lit (.func (.func 21) #[] #[.pointer (some ⟨bk,0,none⟩),.pointer (some ⟨bt,0,none⟩)])
def tbH12:=(aI (aI (aI Ty.t22 Ty.t26) (aI Ty.t28 Ty.t3)) (aI (aI Ty.t30 Ty.t4) (aI Ty.t47 Ty.t9)))
theorem indexP_ok (l:List Pk) (key:Str) (tick:Int) (bk bt b c:Nat) (h1:bk ≠ bt∧bt ≠ bk) (h2:b ≠ bk∧bk ≠ b) (h3:b ≠ bt∧bt ≠ b) (rest:List V) (hl:l.length≤1000000) :
  Ok Tryz.prog 52 [.lit (.slice (some ⟨b,0,none⟩) l.length c),fnC bk bt] [(bk,.c [vstr key]),(bt,.c [vint tick]),(b,.c ((l.map cPk).flatten++rest))] fun v bs rs =>
   bs=[(bk,.c [vstr key]),(bt,.c [vint tick]),(b,.c ((l.map cPk).flatten++rest))]∧rs=[]∧((v=vint (-1)∧∀ i (h:i < l.length),outP key tick l[i]=false)∨∃ i,∃ h:i < l.length,v=vint i∧outP key tick l[i]=true∧∀ j (h':j < i),outP key tick (l[j]'(by omega))=false):=by
 have k1:callB Tryz.prog 21=true:=by kernel_rfl
 refine Ok.of_ex Ty.mixed Tryz.func52 rfl (by simp [Tryz.ntmps52]) (by kernel_rfl) fun F w0 I0=>?_
 simp only [↓rA,rB,buildOk,nt_is,simprocAttr,tbH12,Tryz.results52]
 refine EX_for Ty.mixed (by kernel_rfl) l.length (fun i S=>(∀ j (h:j < l.length),j < i→outP key tick l[j]=false)∧S.boxes=[(bk,.c [vstr key]),(bt,.c [vint tick]),(b,.c ((l.map cPk).flatten++rest))]∧S.rows=[]∧S.σ 0=.lit (.slice (some ⟨b,0,none⟩) l.length c)∧S.σ 1=fnC bk bt∧S.σ 7=vint l.length∧S.σ 8=vint i) ⟨0,?_⟩ (fun i S hi ⟨hf,gb,gr,g0,g1,g7,g8⟩=>?_) (fun S ⟨hf,gb,gr,g0,g1,g7,g8⟩=>?_)
 ·simp only [↓rA,rB,buildOk,nt_is,simprocAttr,tbH12,Tryz.results52]
  try exact fun j h h'=>absurd h' (Nat.not_lt_zero j)
 ·obtain⟨X,Y,hX,e⟩:=pick_cells l i hi rest
  rw [e] at gb
  have w1:=wrap_id (n:=(i:Int)+1) (by omega) (by omega)
  simp only [↓rA,rB,buildOk,nt_is,simprocAttr,tbH12,Tryz.results52,gb,gr,g0,g1,g7,g8,h1,h2,h3,Int.ofNat_lt,hi,List.drop_left' hX,k1]
  refine OkF_with [_,_] [_] (List.Perm.refl _) (outP_ok l[i] key tick bk bt h1) ?_
  rintro v bs rs ⟨rfl,rfl,rfl⟩
  cases hx:outP key tick l[i]
  ·simp only [↓rA,rB,buildOk,nt_is,simprocAttr,tbH12,Tryz.results52,gb,gr,g0,g1,g7,g8,h1,h2,h3,Int.ofNat_lt,hi,w1]
   exact⟨0,fun j h h'=>if h2:j=i then by subst h2;exact hx else hf j h (by omega),by rw [e];rfl,rfl⟩
  ·simp only [↓rA,rB,buildOk,nt_is,simprocAttr,tbH12,Tryz.results52,gb,gr,g0,g1,g7,g8,h1,h2,h3,Int.ofNat_lt,hi]
   exact⟨_,[_,_,_],[],Le.refl _,List.Sublist.refl _,List.nil_sublist _,by rw [e];rfl,rfl,.inr ⟨i,hi,rfl,hx,fun j h'=>hf j (by omega) h'⟩⟩
 ·simp only [↓rA,rB,buildOk,nt_is,simprocAttr,tbH12,Tryz.results52,gb,gr,g0,g1,g7,g8,Int.ofNat_lt,Nat.lt_irrefl]
  exact⟨_,[_,_,_],[],Le.refl _,List.Sublist.refl _,List.nil_sublist _,rfl,rfl,.inl ⟨rfl,fun i h=>hf i h h⟩⟩
def tbH13:=(aI (aI (aI Ty.t22 Ty.t26) (aI Ty.t28 Ty.t3)) (aI (aI Ty.t30 Ty.t4) (aI Ty.t47 Ty.t9)))
theorem indexPNil_ok (fv:V):Ok Tryz.prog 52 [nilS,fv] [] fun v bs rs=>v=vint (-1)∧bs=[]∧rs=[]:=by
 refine Ok.of_ex Ty.mixed Tryz.func52 rfl (by simp [Tryz.ntmps52]) (by kernel_rfl) fun F w0 I0=>?_
 simp only [↓rA,rB,buildOk,nt_is,simprocAttr,tbH13,Tryz.results52]
 refine EX_for Ty.mixed (by kernel_rfl) 0 (fun i S=>S.boxes=[]∧S.rows=[]∧S.σ 0=nilS∧S.σ 7=vint 0∧S.σ 8=vint i) ⟨0,?_⟩ (fun i S hi=>absurd hi (Nat.not_lt_zero i)) (fun S ⟨gb,gr,g0,g7,g8⟩=>?_)
 ·simp only [↓rA,rB,buildOk,nt_is,simprocAttr,tbH13,Tryz.results52]
 ·simp only [↓rA,rB,buildOk,nt_is,simprocAttr,tbH13,Tryz.results52,gb,gr,g0,g7,g8]
  exact⟨_,[],[],Le.refl _,List.Sublist.refl _,List.nil_sublist _,rfl,rfl,rfl⟩
def tbH14:=(aI (aI (aI Ty.c52 Ty.t22) (aI Ty.t26 Ty.t28)) (aI (aI Ty.t3 Ty.t30) (aI Ty.t4 (aI Ty.t47 Ty.t9))))
theorem deletePNil_ok (fv:V):OkP Tryz.prog 19 [nilS,fv] nilS:=by
 refine Ok.of_ex Ty.mixed Tryz.func19 rfl (by simp [Tryz.ntmps19]) (by kernel_rfl) fun F w0 I0=>?_
 simp only [↓rA,rB,buildOk,nt_is,simprocAttr,tbH14,Tryz.results19]
 refine OkF_with [] [] (List.Perm.refl _) (indexPNil_ok fv) ?_
 rintro v bs rs ⟨rfl,rfl,rfl⟩
 simp only [↓rA,rB,buildOk,nt_is,simprocAttr,tbH14,Tryz.results19,Int.reduceEq]
 exact ret_done rfl
def tbH15:=(aI (aI (aI Ty.c52 Ty.t22) (aI Ty.t26 Ty.t28)) (aI (aI Ty.t3 Ty.t30) (aI Ty.t4 (aI Ty.t47 Ty.t9))))
theorem deleteP_ok (l:List Pk) (key:Str) (tick:Int) (bk bt b c:Nat) (h1:bk ≠ bt∧bt ≠ bk) (h2:b ≠ bk∧bk ≠ b) (h3:b ≠ bt∧bt ≠ b) (rest:List V) (hl:l.length≤1000000) (hc:l.length≤c) :
  Ok Tryz.prog 19 [.lit (.slice (some ⟨b,0,none⟩) l.length c),fnC bk bt] [(bk,.c [vstr key]),(bt,.c [vint tick]),(b,.c ((l.map cPk).flatten++rest))] fun v bs rs =>
   rs=[]∧∃ r',v=.lit (.slice (some ⟨b,0,none⟩) (l.filter (selB key tick)).length c)∧bs=[(b,.c (((l.filter (selB key tick)).map cPk).flatten++r'))]:=by
 have k1:callB Tryz.prog 21=true:=by kernel_rfl
 refine Ok.of_ex Ty.mixed Tryz.func19 rfl (by simp [Tryz.ntmps19]) (by kernel_rfl) fun F w0 I0=>?_
 simp only [↓rA,rB,buildOk,nt_is,simprocAttr,tbH15,Tryz.results19]
 refine OkF_with [_,_,_] [] (List.Perm.refl _) (indexP_ok l key tick bk bt b c h1 h2 h3 rest hl) ?_
 rintro v bs rs ⟨rfl,rfl,⟨rfl,hno⟩ | ⟨i0,hi0,rfl,hdel,hbef⟩⟩
 ·have hk:l.filter (selB key tick)=l:=sel_none fun p hp=>by
   obtain⟨j,hj,rfl⟩:=List.getElem_of_mem hp
   exact hno j hj
  simp only [↓rA,rB,buildOk,nt_is,simprocAttr,tbH15,Tryz.results19,h1,h2,h3]
  rw [hk]
  exact⟨_,[_],[],Le.refl _,List.Sublist.cons _ (List.Sublist.cons _ (List.Sublist.refl _)),List.nil_sublist _,rfl,rest,rfl,rfl⟩
 ·have hneg:¬ ((i0:Int)=-1):=by omega
  have hk0:=sel_take_none hi0 hbef
  have hk1:(l.take (i0+1)).filter (selB key tick)=l.take i0:=by rw [sel_take key tick l i0 hi0,hk0,if_pos hdel,List.append_nil]
  simp only [↓rA,rB,buildOk,nt_is,simprocAttr,tbH15,Tryz.results19,h1,h2,h3,hneg,wrap_id (n:=(i0:Int)+1) (by omega) (by omega)]
  refine EX_forP Ty.mixed (by kernel_rfl) (l.length - (i0+1)) (fun i S=>∃ G:List V,G.length=(i0+1+i - ((l.take (i0+1+i)).filter (selB key tick)).length) * 9∧((l.take (i0+1+i)).filter (selB key tick)).length < i0+1+i∧S.boxes=[(bk,.c [vstr key]),(bt,.c [vint tick]),(b,.c ((((l.take (i0+1+i)).filter (selB key tick)).map cPk).flatten++(G++(((l.drop (i0+1+i)).map cPk).flatten++rest))))]∧S.rows=[]∧S.σ 0=.lit (.slice (some ⟨b,0,none⟩) l.length c)∧S.σ 1=fnC bk bt∧S.σ 5=vint ((l.take (i0+1+i)).filter (selB key tick)).length∧S.σ 6=vint ((i0+1+i:Nat):Int)) ⟨_,_,_,_,List.Sublist.refl _,List.Sublist.refl _,List.Perm.refl _,List.Perm.refl _,?_⟩ (fun i S hi ⟨G,hG,hlt,gb,gr,g0,g1,g5,g6⟩=>?_) (fun S ⟨G,hG,hlt,gb,gr,g0,g1,g5,g6⟩=>?_)
  ·simp only [↓rA,rB,buildOk,nt_is,simprocAttr,tbH15,Tryz.results19,h1,h2,h3]
   refine⟨cPk l[i0],?_,?_,?_,?_,rfl⟩
   ·rw [hk1,List.length_take,Nat.min_eq_left (by omega),Nat.add_sub_cancel_left]
    rfl
   ·rw [hk1,List.length_take];omega
   ·rw [hk1]
    conv=>lhs;rw [← List.take_append_drop i0 l,List.drop_eq_getElem_cons hi0]
    simp only [List.map_append,List.map_cons,List.flatten_append,List.flatten_cons,List.append_assoc]
   ·rw [hk1,List.length_take,Nat.min_eq_left (by omega)]
  ·generalize hj:i0+1+i=j at hG hlt gb g5 g6
   have hjl:j < l.length:=by omega
   have hkt:=sel_take key tick l j hjl
   generalize hK:(l.take j).filter (selB key tick)=K at hG hlt gb g5 hkt
   obtain⟨X,Y,hX,e,eX,eY⟩:=del_cellsP K l G j hjl rest
   have hX2:X.length=j * 9:=by rw [hX,hG];omega
   rw [e] at gb
   simp only [↓rA,rB,buildOk,nt_is,simprocAttr,tbH15,Tryz.results19,gb,gr,g0,g1,g5,g6,h1,h2,h3,Int.ofNat_lt,hjl,List.drop_left' hX2,k1]
   refine fun b7 h7=>?_;replace h7:=newb h7;try simp only [Nb] at h7
   simp only [↓rA,rB,buildOk,nt_is,simprocAttr,tbH15,Tryz.results19,gb,gr,g0,g1,g5,g6,h1,h2,h3,Int.ofNat_lt,hjl,List.drop_left' hX2,h7,k1]
   refine OkF_with [(bk,.c [vstr key]),(bt,.c [vint tick])] [_,_] (pm3 _ _ _ _) (outP_ok l[j] key tick bk bt h1) ?_
   rintro v bs rs ⟨rfl,rfl,rfl⟩
   have hw1:=wrap_id (n:=(j:Int)+1) (by omega) (by omega)
   cases hx:outP key tick l[j]
   ·have hw2:=wrap_id (n:=(K.length:Int)+1) (by omega) (by omega)
    rw [if_neg (by rw [hx];decide)] at hkt
    subst eX
    have hG8:9≤G.length:=by omega
    simp only [↓rA,rB,buildOk,nt_is,simprocAttr,tbH15,Tryz.results19,gr,g0,g1,g5,g6,h1,h2,h3,Int.ofNat_lt,hjl,List.drop_left' hX2,h7,hw1,hw2]
    refine⟨by omega,?_,?_⟩
    ·simp only [List.length_append,List.length_cons]
     rw [cells_lenP]
     omega
    refine⟨[_,_,_],[],[_,_,_],[],List.Sublist.cons_cons _ (List.Sublist.cons_cons _ (List.Sublist.cons _ (List.Sublist.refl _))),List.nil_sublist _,List.Perm.refl _,List.Perm.refl _,?_⟩
    simp only [↓rA,rB,buildOk,nt_is,simprocAttr,tbH15,Tryz.results19,gr,g0,g1,g5,g6,h1,h2,h3,Int.ofNat_lt,hjl,List.drop_left' hX2,h7,hw1,hw2]
    have hj1:i0+1+(i+1)=j+1:=by omega
    rw [hj1,hkt]
    refine⟨G.drop 9++cPk l[j],?_,?_,?_,?_,?_⟩
    ·rw [List.length_append,List.length_append,List.length_drop,hG]
     show _+9=(j+1 - (K.length+1)) * 9
     omega
    ·rw [List.length_append]
     show K.length+1 < _
     omega
    ·refine congrArg (fun c=>[(bk,B.c [vstr key]),(bt,B.c [vint tick]),(b,B.c c)]) ((put_cells9 _ G (cPk l[j]++Y) (cPk l[j]) (cells_lenP K) hG8).trans ?_)
     subst eY
     simp only [List.map_append,List.map_cons,List.map_nil,List.flatten_append,List.flatten_cons,List.flatten_nil,List.append_nil,List.append_assoc]
    ·rw [List.length_append]
     rfl
    ·rfl
   ·rw [if_pos hx,List.append_nil] at hkt
    simp only [↓rA,rB,buildOk,nt_is,simprocAttr,tbH15,Tryz.results19,gr,g0,g1,g5,g6,h1,h2,h3,Int.ofNat_lt,hjl,List.drop_left' hX2,h7,hw1]
    refine⟨[_,_,_],[],[_,_,_],[],List.Sublist.cons_cons _ (List.Sublist.cons_cons _ (List.Sublist.cons _ (List.Sublist.refl _))),List.nil_sublist _,List.Perm.refl _,List.Perm.refl _,?_⟩
    simp only [↓rA,rB,buildOk,nt_is,simprocAttr,tbH15,Tryz.results19,gr,g0,g1,g5,g6,h1,h2,h3,Int.ofNat_lt,hjl,List.drop_left' hX2,h7,hw1]
    have hj1:i0+1+(i+1)=j+1:=by omega
    rw [hj1,hkt]
    refine⟨G++cPk l[j],?_,by omega,?_,rfl,?_⟩
    ·rw [List.length_append,hG]
     show _+9=_
     omega
    ·subst eX eY
     simp only [List.append_assoc]
     rfl
    ·simp only [vint,Int.natCast_add,Int.cast_ofNat_Int]
  ·have hn:i0+1+(l.length - (i0+1))=l.length:=by omega
   rw [hn] at hG hlt gb g5 g6
   rw [List.take_of_length_le (Nat.le_refl _)] at hG hlt gb g5
   rw [List.drop_eq_nil_of_le (Nat.le_refl _)] at gb
   generalize hK:l.filter (selB key tick)=K at hG hlt gb g5
   simp only [↓rA,rB,buildOk,nt_is,simprocAttr,tbH15,Tryz.results19,gb,gr,g0,g1,g5,g6,h1,h2,h3,Int.ofNat_lt,Nat.lt_irrefl]
   refine⟨by omega,hc,⟨fun h=>absurd h (by omega),fun h=>?_⟩⟩
   simp only [↓rA,rB,buildOk,nt_is,simprocAttr,tbH15,Tryz.results19,gb,gr,g0,g1,g5,g6,h1,h2,h3]
   rw [if_neg (by omega)]
   refine⟨?_,by omega,?_⟩
   ·simp only [List.length_append,cells_lenP,hG]
    omega
   exact⟨_,[_],[],Le.refl _,List.Sublist.cons _ (List.Sublist.cons _ (List.Sublist.refl _)),List.nil_sublist _,rfl,_,by rw [ite_self],by rw [List.take_left' (cells_lenP K),List.append_assoc]⟩
def tbH16:=(aI (aI (aI (aI Ty.c19 Ty.c20) (aI Ty.c21 (aI Ty.c9 Ty.t117))) (aI (aI Ty.t22 Ty.t26) (aI Ty.t28 (aI Ty.t3 Ty.t30)))) (aI (aI (aI Ty.t31 Ty.t47) (aI Ty.t49 (aI Ty.t51 Ty.t52))) (aI (aI Ty.t53 Ty.t55) (aI Ty.t57 (aI Ty.t65 Ty.t9)))))
theorem cells_ok (op:Str) (ps:List Pk) (key:Str) (tick:Int) (h0:¬ fam op=0) (hp:∀ p ∈ ps,inW p.2∧inW p.1.val.n) (hl:ps.length≤10000):OkP Tryz.prog 8 [vstr op,vPks ps,vstr key,vint tick] (vCls (cellsM (fam op) ps key tick)):=by
 have hu:=update_ok op [] (ps.filter (selB key tick)) h0 (GoodC.nil _ _) (fun p hp'=>hp p (List.mem_filter.1 hp').1) (Nat.le_trans (List.length_filter_le _ _) hl)
 refine Ok.of_ex Ty.mixed Tryz.func8 rfl (by simp [Tryz.ntmps8]) (by kernel_rfl) fun F w0 I0=>?_
 simp only [↓rA,rB,buildOk,nt_is,simprocAttr,tbH16,Tryz.results8]
 refine fun b6 h6=>?_;replace h6:=newb h6;try simp only [Nb] at h6
 simp only [↓rA,rB,buildOk,nt_is,simprocAttr,tbH16,Tryz.results8,h6]
 refine fun b7 h7=>?_;replace h7:=newb h7;try simp only [Nb] at h7
 simp only [↓rA,rB,buildOk,nt_is,simprocAttr,tbH16,Tryz.results8,h6,h7]
 refine OkF_withN [] [_,_] (List.Perm.refl _) (cloneP_ok ps (by omega)) ?_
 rintro v bs rs ⟨rfl,⟨rfl,rfl,rfl⟩ | ⟨b,c,hlc,rfl,rfl⟩⟩ hN
 ·simp only [↓rA,rB,buildOk,nt_is,simprocAttr,tbH16,Tryz.results8,h6,h7]
  refine OkF_of _ (deletePNil_ok _) ?_
  simp only [↓rA,rB,buildOk,nt_is,simprocAttr,tbH16,Tryz.results8,h6,h7]
  refine OkF_le (.cons (Le.refl _) (.cons (Le.nil 6) (.cons (Le.nil 9) .nil))) _ hu ?_
  simp only [↓rA,rB,buildOk,nt_is,simprocAttr,tbH16,Tryz.results8]
  exact ret_done rfl
 ·simp only [List.cons_append,List.nil_append,List.map_cons,List.map_nil,List.nodup_cons,List.mem_cons,List.not_mem_nil,or_false,not_or,List.nodup_nil,not_false_eq_true,and_true] at hN
  simp only [↓rA,rB,buildOk,nt_is,simprocAttr,tbH16,Tryz.results8,h6,h7]
  refine OkF_with [_,_,_] [] (pmr _ _ _) (deleteP_ok ps key tick b6 b7 b c (by simp only [Dum,and_true] at h7;exact h7) ⟨hN.1.2,fun e=>hN.1.2 e.symm⟩ ⟨hN.1.1,fun e=>hN.1.1 e.symm⟩ _ (by omega) hlc) ?_
  rintro v bs rs ⟨rfl,r',rfl,rfl⟩
  simp only [↓rA,rB,buildOk,nt_is,simprocAttr,tbH16,Tryz.results8]
  have hcap:(ps.filter (selB key tick)).length≤c:=Nat.le_trans (List.length_filter_le _ _) hlc
  have hcm:cellsM (fam op) ps key tick=updM (fam op) [] (ps.filter (selB key tick)):=rfl
  rw [hcm]
  generalize ps.filter (selB key tick)=fl at hu hcap ⊢
  refine OkF_with [_] [] (List.Perm.refl _) (Ok.consume (n:=fl.length) (c:=c) (k:=9) (es:=fl.map cPk) ⟨List.take_left' (cells_lenP fl),fun e he=>by obtain⟨x,_,rfl⟩:=List.mem_map.1 he;rfl,by simp,hcap⟩ (.cons (.same _) (.cons (.same _) (.cons .here .nil))) (Ok.le (.cons (Le.refl _) (.cons (Le.nil 6) (.cons (Le.list _ _ _) .nil))) hu)) ?_
  rintro v bs rs ⟨rfl,rfl,rfl⟩
  simp only [↓rA,rB,buildOk,nt_is,simprocAttr,tbH16,Tryz.results8]
  exact ret_done rfl
end Go.Proofs.YtjdggbanifineaaGreat
namespace Go.Lo
open Go.VL Go.Ar
structure Fac where
 name:Str
 exp:Int
 deriving DecidableEq
structure Hd where
 kind:Int
 op:Str
 name:Str
 table:Str
 val:Val
 unit:List Fac
 param:Int
 wk:Int
 ws:Int
 deriving DecidableEq
inductive E where
 | mk (h:Hd) (args:List E)
def E.hd:E→Hd
 | .mk h _=>h
def E.args:E→List E
 | .mk _ l=>l
theorem E.ext' {x y:E} (h:x.hd=y.hd) (h':x.args=y.args):x=y:=by cases x;cases y;simp_all [E.hd,E.args]
noncomputable instance:DecidableEq E:=fun a b=>Classical.propDecidable (a=b)
abbrev es0:Str:=⟨#[]⟩
structure Nd where
 kind:Int
 table:Str
 expr:E
 op:Str
 param:Int
 wk:Int
 ws:Int
 val:Val
 name:Str
 inn:List Int
noncomputable instance:DecidableEq Nd:=fun a b=>Classical.propDecidable (a=b)
end Go.Lo
set_option linter.unusedSimpArgs false
set_option maxRecDepth 100000
namespace Go.Lo
open Go.VL Go.Ar
structure Typ where
 kind:Int
 unit:List Fac
 of:Str
 deriving DecidableEq
structure Fld where
 name:Str
 typ:Typ
 deriving DecidableEq
structure Tab where
 name:Str
 entity:Str
 fields:List Fld
 keep:Int
 deriving DecidableEq
structure Ftr where
 name:Str
 entity:Str
 typ:Typ
 body:E
 version:Int
structure Cat where
 tables:List Tab
 features:List Ftr
 drafts:List Ftr
 past:List Ftr
noncomputable instance:DecidableEq Ftr:=fun a b=>Classical.propDecidable (a=b)
noncomputable instance:DecidableEq Cat:=fun a b=>Classical.propDecidable (a=b)
end Go.Lo
namespace Go.Proofs.YtjdggbanifineaaGreat
open Go.VL Go.Ar Go.Lo Go.Proofs.YtjdggbanifineaaGreat
theorem all_take {α:Type} {p:α→Bool} {l:List α} {i:Nat} (h:i < l.length):(l.take (i+1)).all p=((l.take i).all p && p l[i]):=by
 rw [List.take_succ_eq_append_getElem h,List.all_append];simp
theorem all_fail {α:Type} {p:α→Bool} {l:List α} {i:Nat} (h:i < l.length) (hp:p l[i]=false):l.all p=false:=by
 rw [List.all_eq_false]
 exact⟨l[i],List.getElem_mem h,by rw [hp];decide⟩
theorem getD_str (s:Str) (i:Nat) (h:i < s.size):s.data.toList.getD i 0=s.data.toList[i]'(by simpa using h):=by
 have h':i < s.data.toList.length:=by simpa using h
 rw [List.getD_eq_getElem?_getD,List.getElem?_eq_getElem h',Option.getD_some]
def okCh (low:Int) (c:UInt8):Bool:=if (c.toNat:Int) < low then false else if (126:Int) < c.toNat then false else if (c.toNat:Int)=34 then false else decide (¬ (c.toNat:Int)=92)
def valC (v:Val):Int :=
 if v.kind < 0 then 1 else if 5 < v.kind then 1 else if ¬ v.kind=4∧¬ v.kind=5∧¬ v.s=es0 then 1
 else if ¬ v.kind=2∧¬ v.kind=3∧¬ v.n=0∧(¬ v.kind=1∨¬ v.n=1) then 1
 else if v.n < -1152921504606846976 then 2 else if 1152921504606846976 < v.n then 2
 else if ¬ v.kind=4∧¬ v.kind=5 then 0
 else if v.kind=5 then (if 32 < v.s.size then 2 else if v.s=es0 then 3 else if v.s.data.toList.all (okCh 33)=true then 0 else 3)
 else if 64 < v.s.size then 2 else if v.s.data.toList.all (okCh 32)=true then 0 else 3
def big:Nat:=1099511627776
inductive Fit:E→Prop
 | mk (h:Hd) (l:List E) (hu:h.unit.length≤big) (hl:l.length≤big) (ha:∀ x ∈ l,Fit x):Fit (.mk h l)
theorem Fit.unit {x:E} (h:Fit x):x.hd.unit.length≤big:=by cases h;assumption
theorem Fit.len {x:E} (h:Fit x):x.args.length≤big:=by cases h;assumption
theorem Fit.args {x:E} (h:Fit x):∀ y ∈ x.args,Fit y:=by cases h;assumption
abbrev sQuant:Str:=⟨#[113,117,97,110,116,105,108,101]⟩
abbrev sDecay:Str:=⟨#[100,101,99,97,121]⟩
abbrev sCount:Str:=⟨#[99,111,117,110,116]⟩
end Go.Proofs.YtjdggbanifineaaGreat
set_option linter.unusedSimpArgs false
set_option maxRecDepth 100000
namespace Go.Lo
open Go.VL Go.Ar
end Go.Lo
namespace Go.Proofs.YtjdggbanifineaaGreat.Arr
open Go.VL Go.Ar Go.Lo Go.Proofs.YtjdggbanifineaaGreat Go.Proofs.YtjdggbanifineaaGreat.Arr
end Go.Proofs.YtjdggbanifineaaGreat.Arr
set_option linter.unusedSimpArgs false
set_option maxRecDepth 100000
set_option linter.defProp false
namespace Go.Proofs.YtjdggbanifineaaGreat.Arr
open Go.VL Go.Ar Go.Lo Go.Proofs.YtjdggbanifineaaGreat Go.Proofs.YtjdggbanifineaaGreat.Arr
def tbO80:=(aI (aI Ty.t3 Ty.t4) (aI Ty.t5 Ty.t9))
theorem printable32_ok (s:Str) (hs:s.size≤64):OkP Tryz.prog 73 [vstr s,.lit (.int .u8 32)] (vbool (s.data.toList.all (okCh 32))):=by
 have fb:∀ {a b:Bool},a=b→V.lit (.bool a)=vbool b:=fun h=>by rw [h]
 refine Ok.of_ex Ty.mixed Tryz.func73 rfl (by simp [Tryz.ntmps73]) (by kernel_rfl) fun F w0 I0=>?_
 simp only [↓rA,rB,buildOk,nt_is,simprocAttr,tbO80,Tryz.results73]
 refine EX_for Ty.mixed (by kernel_rfl) s.size (fun i S=>(s.data.toList.take i).all (okCh 32)=true∧S.boxes=[]∧S.rows=[]∧S.σ 0=vstr s∧S.σ 1=.lit (.int .u8 32)∧S.σ 5=vint i) ⟨0,?_⟩ (fun i S hi ⟨hf,gb,gr,g0,g1,g5⟩=>?_) (fun S ⟨hf,gb,gr,g0,g1,g5⟩=>?_)
 ·simp only [↓rA,rB,buildOk,nt_is,simprocAttr,tbO80,Tryz.results73]
  try exact rfl
 ·have hl:i < s.data.toList.length:=by simpa using hi
  have ht:=all_take (p:=okCh 32) hl
  have hb:=all_fail (p:=okCh 32) hl
  rw [← getD_str s i hi] at ht hb
  generalize hcd:s.data.toList.getD i 0=c at ht hb
  have hwi:=wrap_succ (i:=i) (N:=s.size) hi (by omega)
  have cs:(c.toNat:Int) < 32∨(¬ (c.toNat:Int) < 32∧(126:Int) < c.toNat)∨(¬ (c.toNat:Int) < 32∧¬ (126:Int) < c.toNat∧(c.toNat:Int)=34)∨(¬ (c.toNat:Int) < 32∧¬ (126:Int) < c.toNat∧¬ (c.toNat:Int)=34∧(c.toNat:Int)=92)∨(¬ (c.toNat:Int) < 32∧¬ (126:Int) < c.toNat∧¬ (c.toNat:Int)=34∧¬ (c.toNat:Int)=92):=by omega
  rcases cs with cs | cs | cs | cs | cs <;>
  first
  | (
    have hc:okCh 32 c=false:=by simp [okCh,cs]
    simp only [↓rA,rB,buildOk,nt_is,simprocAttr,tbO80,Tryz.results73,gb,gr,g0,g1,g5,Int.ofNat_lt,hi,hcd,cs]
    exact ret_done (fb (by rw [hb hc])))
  | (
    have hc:okCh 32 c=true:=by simp [okCh,cs]
    simp only [↓rA,rB,buildOk,nt_is,simprocAttr,tbO80,Tryz.results73,gb,gr,g0,g1,g5,Int.ofNat_lt,hi,hcd,cs,hwi]
    exact⟨0,by rw [ht,hf,hc];rfl⟩)
 ·simp only [↓rA,rB,buildOk,nt_is,simprocAttr,tbO80,Tryz.results73,gb,gr,g0,g1,g5,Int.ofNat_lt,Nat.lt_irrefl]
  rw [List.take_of_length_le (by simp)] at hf
  exact ret_done (fb hf.symm)
def tbO81:=(aI (aI Ty.t3 Ty.t4) (aI Ty.t5 Ty.t9))
theorem printable33_ok (s:Str) (hs:s.size≤64):OkP Tryz.prog 73 [vstr s,.lit (.int .u8 33)] (vbool (s.data.toList.all (okCh 33))):=by
 have fb:∀ {a b:Bool},a=b→V.lit (.bool a)=vbool b:=fun h=>by rw [h]
 refine Ok.of_ex Ty.mixed Tryz.func73 rfl (by simp [Tryz.ntmps73]) (by kernel_rfl) fun F w0 I0=>?_
 simp only [↓rA,rB,buildOk,nt_is,simprocAttr,tbO81,Tryz.results73]
 refine EX_for Ty.mixed (by kernel_rfl) s.size (fun i S=>(s.data.toList.take i).all (okCh 33)=true∧S.boxes=[]∧S.rows=[]∧S.σ 0=vstr s∧S.σ 1=.lit (.int .u8 33)∧S.σ 5=vint i) ⟨0,?_⟩ (fun i S hi ⟨hf,gb,gr,g0,g1,g5⟩=>?_) (fun S ⟨hf,gb,gr,g0,g1,g5⟩=>?_)
 ·simp only [↓rA,rB,buildOk,nt_is,simprocAttr,tbO81,Tryz.results73]
  try exact rfl
 ·have hl:i < s.data.toList.length:=by simpa using hi
  have ht:=all_take (p:=okCh 33) hl
  have hb:=all_fail (p:=okCh 33) hl
  rw [← getD_str s i hi] at ht hb
  generalize hcd:s.data.toList.getD i 0=c at ht hb
  have hwi:=wrap_succ (i:=i) (N:=s.size) hi (by omega)
  have cs:(c.toNat:Int) < 33∨(¬ (c.toNat:Int) < 33∧(126:Int) < c.toNat)∨(¬ (c.toNat:Int) < 33∧¬ (126:Int) < c.toNat∧(c.toNat:Int)=34)∨(¬ (c.toNat:Int) < 33∧¬ (126:Int) < c.toNat∧¬ (c.toNat:Int)=34∧(c.toNat:Int)=92)∨(¬ (c.toNat:Int) < 33∧¬ (126:Int) < c.toNat∧¬ (c.toNat:Int)=34∧¬ (c.toNat:Int)=92):=by omega
  rcases cs with cs | cs | cs | cs | cs <;>
  first
  | (
    have hc:okCh 33 c=false:=by simp [okCh,cs]
    simp only [↓rA,rB,buildOk,nt_is,simprocAttr,tbO81,Tryz.results73,gb,gr,g0,g1,g5,Int.ofNat_lt,hi,hcd,cs]
    exact ret_done (fb (by rw [hb hc])))
  | (
    have hc:okCh 33 c=true:=by simp [okCh,cs]
    simp only [↓rA,rB,buildOk,nt_is,simprocAttr,tbO81,Tryz.results73,gb,gr,g0,g1,g5,Int.ofNat_lt,hi,hcd,cs,hwi]
    exact⟨0,by rw [ht,hf,hc];rfl⟩)
 ·simp only [↓rA,rB,buildOk,nt_is,simprocAttr,tbO81,Tryz.results73,gb,gr,g0,g1,g5,Int.ofNat_lt,Nat.lt_irrefl]
  rw [List.take_of_length_le (by simp)] at hf
  exact ret_done (fb hf.symm)
def tbO82:=(aI (aI Ty.c73 Ty.t3) (aI Ty.t4 (aI Ty.t5 Ty.t9)))
theorem text_ok (s:Str):OkP Tryz.prog 50 [vstr s] (vbool (decide (s.size≤64) && s.data.toList.all (okCh 32))):=by
 have fb:∀ {a b:Bool},a=b→V.lit (.bool a)=vbool b:=fun h=>by rw [h]
 refine Ok.of_ex Ty.mixed Tryz.func50 rfl (by simp [Tryz.ntmps50]) (by kernel_rfl) fun F w0 I0=>?_
 by_cases h:s.size≤64
 ·have h':(s.size:Int)≤64:=by omega
  simp only [↓rA,rB,buildOk,nt_is,simprocAttr,tbO82,Tryz.results50,h']
  refine OkF_of _ (printable32_ok s h) ?_
  simp only [↓rA,rB,buildOk,nt_is,simprocAttr,tbO82,Tryz.results50]
  exact ret_done (fb (by simp [h]))
 ·have h':¬ (s.size:Int)≤64:=by omega
  simp only [↓rA,rB,buildOk,nt_is,simprocAttr,tbO82,Tryz.results50,h']
  exact ret_done (fb (by simp [h]))
def tbO83:=(aI (aI Ty.c73 Ty.t3) (aI Ty.t4 (aI Ty.t5 Ty.t9)))
theorem key_ok (s:Str):OkP Tryz.prog 51 [vstr s] (vbool (!decide (s=es0) && (decide (s.size≤32) && s.data.toList.all (okCh 33)))):=by
 have fb:∀ {a b:Bool},a=b→V.lit (.bool a)=vbool b:=fun h=>by rw [h]
 refine Ok.of_ex Ty.mixed Tryz.func51 rfl (by simp [Tryz.ntmps51]) (by kernel_rfl) fun F w0 I0=>?_
 by_cases e:s=es0
 ·subst e
  simp only [↓rA,rB,buildOk,nt_is,simprocAttr,tbO83,Tryz.results51]
  exact ret_done (fb (by simp))
 by_cases h:s.size≤32
 ·have h':(s.size:Int)≤32:=by omega
  simp only [↓rA,rB,buildOk,nt_is,simprocAttr,tbO83,Tryz.results51,e,h']
  refine OkF_of _ (printable33_ok s (by omega)) ?_
  simp only [↓rA,rB,buildOk,nt_is,simprocAttr,tbO83,Tryz.results51]
  exact ret_done (fb (by simp [e,h]))
 ·have h':¬ (s.size:Int)≤32:=by omega
  simp only [↓rA,rB,buildOk,nt_is,simprocAttr,tbO83,Tryz.results51,e,h']
  exact ret_done (fb (by simp [e,h]))
def rngB (n:Int):Bool:=decide (-1152921504606846976≤n) && decide (n≤1152921504606846976)
def tbO84:=(aI Ty.t3 Ty.t4)
theorem inRange_ok (n:Int):OkP Tryz.prog 49 [vint n] (vbool (rngB n)):=by
 have fb:∀ {a b:Bool},a=b→V.lit (.bool a)=vbool b:=fun h=>by rw [h]
 refine Ok.of_ex Ty.mixed Tryz.func49 rfl (by simp [Tryz.ntmps49]) (by kernel_rfl) fun F w0 I0=>?_
 by_cases h:(-1152921504606846976:Int)≤n
 ·simp only [↓rA,rB,buildOk,nt_is,simprocAttr,tbO84,Tryz.results49,h]
  exact ret_done (fb (by simp [rngB,h]))
 ·simp only [↓rA,rB,buildOk,nt_is,simprocAttr,tbO84,Tryz.results49,h]
  exact ret_done (fb (by simp [rngB,h]))
def fldB (v:Val):Bool :=
 if v.kind=0 then decide (v.n=0) && decide (v.s=es0) else if v.kind=1 then (decide (v.n=0) || decide (v.n=1)) && decide (v.s=es0)
 else if v.kind=2∨v.kind=3 then decide (v.s=es0) else if v.kind=4∨v.kind=5 then decide (v.n=0) else false
def tbO85:=(aI (aI Ty.t28 Ty.t3) (aI Ty.t4 Ty.t9))
theorem fields_ok (v:Val):OkP Tryz.prog 48 [.agg (cVal v)] (vbool (fldB v)):=by
 have fb:∀ {a b:Bool},a=b→V.lit (.bool a)=vbool b:=fun h=>by rw [h]
 obtain⟨k,n,s⟩:=v
 refine Ok.of_ex Ty.mixed Tryz.func48 rfl (by simp [Tryz.ntmps48]) (by kernel_rfl) fun F w0 I0=>?_
 simp only [↓rA,rB,buildOk,nt_is,simprocAttr,tbO85,Tryz.results48]
 refine fun b1 h1=>?_;replace h1:=newb h1;try simp only [Nb] at h1
 by_cases k0:k=0
 ·subst k0
  by_cases e:n=0
  ·simp only [↓rA,rB,buildOk,nt_is,simprocAttr,tbO85,Tryz.results48,h1,e]
   exact ret_done (fb (by simp [fldB,e]))
  ·simp only [↓rA,rB,buildOk,nt_is,simprocAttr,tbO85,Tryz.results48,h1,e]
   exact ret_done (fb (by simp [fldB,e]))
 by_cases k1:k=1
 ·subst k1
  by_cases e:n=0
  ·simp only [↓rA,rB,buildOk,nt_is,simprocAttr,tbO85,Tryz.results48,h1,e]
   exact ret_done (fb (by simp [fldB,e]))
  ·by_cases e1:n=1
   ·simp only [↓rA,rB,buildOk,nt_is,simprocAttr,tbO85,Tryz.results48,h1,e1]
    exact ret_done (fb (by simp [fldB,e1]))
   ·simp only [↓rA,rB,buildOk,nt_is,simprocAttr,tbO85,Tryz.results48,h1,e,e1]
    exact ret_done (fb (by simp [fldB,e,e1]))
 by_cases k2:k=2
 ·subst k2
  simp only [↓rA,rB,buildOk,nt_is,simprocAttr,tbO85,Tryz.results48,h1]
  exact ret_done (fb (by simp [fldB]))
 by_cases k3:k=3
 ·subst k3
  simp only [↓rA,rB,buildOk,nt_is,simprocAttr,tbO85,Tryz.results48,h1]
  exact ret_done (fb (by simp [fldB]))
 by_cases k4:k=4
 ·subst k4
  simp only [↓rA,rB,buildOk,nt_is,simprocAttr,tbO85,Tryz.results48,h1]
  exact ret_done (fb (by simp [fldB]))
 by_cases k5:k=5
 ·subst k5
  simp only [↓rA,rB,buildOk,nt_is,simprocAttr,tbO85,Tryz.results48,h1]
  exact ret_done (fb (by simp [fldB]))
 simp only [↓rA,rB,buildOk,nt_is,simprocAttr,tbO85,Tryz.results48,h1,k0,k1,k2,k3,k4,k5]
 exact ret_done (fb (by simp [fldB,k0,k1,k2,k3,k4,k5]))
theorem valC_f {v:Val} (h:fldB v=false):valC v=1:=by
 unfold fldB at h
 unfold valC
 by_cases k0:v.kind=0
 ·rw [if_pos k0] at h
  rw [if_neg (by omega),if_neg (by omega)]
  by_cases hs:v.s=es0
  ·have hn:¬ v.n=0:=by intro e;rw [decide_eq_true e,decide_eq_true hs] at h;cases h
   rw [if_neg (fun h=>h.2.2 hs),if_pos ⟨by omega,by omega,hn,.inl (by omega)⟩]
  ·rw [if_pos ⟨by omega,by omega,hs⟩]
 by_cases k1:v.kind=1
 ·rw [if_neg k0,if_pos k1] at h
  rw [if_neg (by omega),if_neg (by omega)]
  by_cases hs:v.s=es0
  ·rw [decide_eq_true hs,Bool.and_true,Bool.or_eq_false_iff] at h
   rw [if_neg (fun h=>h.2.2 hs),if_pos ⟨by omega,by omega,of_decide_eq_false h.1,.inr (of_decide_eq_false h.2)⟩]
  ·rw [if_pos ⟨by omega,by omega,hs⟩]
 by_cases k2:v.kind=2∨v.kind=3
 ·rw [if_neg k0,if_neg k1,if_pos k2] at h
  rw [if_neg (by omega),if_neg (by omega),if_pos ⟨by omega,by omega,of_decide_eq_false h⟩]
 by_cases k4:v.kind=4∨v.kind=5
 ·rw [if_neg k0,if_neg k1,if_neg k2,if_pos k4] at h
  rw [if_neg (by omega),if_neg (by omega),if_neg (by omega),if_pos ⟨by omega,by omega,of_decide_eq_false h,.inl (by omega)⟩]
 by_cases hk:v.kind < 0
 ·rw [if_pos hk]
 ·rw [if_neg hk,if_pos (by omega)]
theorem valC_t {v:Val} (h:fldB v=true):valC v=if rngB v.n=false then 2 else if v.kind=4 then (if 64 < v.s.size then 2 else if v.s.data.toList.all (okCh 32)=true then 0 else 3)
  else if v.kind=5 then (if 32 < v.s.size then 2 else if v.s=es0 then 3 else if v.s.data.toList.all (okCh 33)=true then 0 else 3) else 0:=by
 have hr:rngB v.n=false↔(v.n < -1152921504606846976∨1152921504606846976 < v.n):=by
  unfold rngB
  rw [Bool.and_eq_false_iff,decide_eq_false_iff_not,decide_eq_false_iff_not]
  omega
 have hk:v.kind=0∨v.kind=1∨v.kind=2∨v.kind=3∨v.kind=4∨v.kind=5:=by
  unfold fldB at h
  by_cases a:v.kind=0
  ·exact .inl a
  by_cases b:v.kind=1
  ·exact .inr (.inl b)
  rw [if_neg a,if_neg b] at h
  by_cases c:v.kind=2∨v.kind=3
  ·omega
  by_cases d:v.kind=4∨v.kind=5
  ·omega
  rw [if_neg c,if_neg d] at h
  cases h
 have h3:¬ (¬ v.kind=4∧¬ v.kind=5∧¬ v.s=es0):=by
  rintro⟨a,b,c⟩
  unfold fldB at h
  rw [decide_eq_false c] at h
  rcases hk with e | e | e | e | e | e <;> simp [e] at h a b
 have h4:¬ (¬ v.kind=2∧¬ v.kind=3∧¬ v.n=0∧(¬ v.kind=1∨¬ v.n=1)):=by
  rintro⟨a,b,c,d⟩
  unfold fldB at h
  rw [decide_eq_false c] at h
  rcases hk with e | e | e | e | e | e <;> simp [e] at h a b d
  exact d h.1
 unfold valC
 rw [if_neg (by omega),if_neg (by omega),if_neg h3,if_neg h4]
 by_cases r:rngB v.n=false
 ·rw [if_pos r]
  rcases hr.1 r with r | r
  ·rw [if_pos r]
  ·split
   ·rfl
   ·first | rfl | rw [if_pos r]
 ·have r':=fun h=>r (hr.2 h)
  rw [if_neg r,if_neg (fun h=>r' (.inl h)),if_neg (fun h=>r' (.inr h))]
  by_cases k4:v.kind=4
  ·rw [if_neg (fun h=>h.1 k4),if_neg (by omega),if_pos k4]
  ·by_cases k5:v.kind=5
   ·rw [if_neg (fun h=>h.2 k5),if_pos k5,if_neg k4,if_pos k5]
   ·rw [if_pos ⟨k4,k5⟩,if_neg k4,if_neg k5]
def tbO86:=(aI (aI (aI Ty.c48 Ty.c49) (aI Ty.c50 Ty.c51)) (aI (aI Ty.t28 Ty.t3) (aI Ty.t4 (aI Ty.t40 Ty.t9))))
theorem valR_ok (v:Val):OkP Tryz.prog 17 [.agg (cVal v)] (vint (valC v)):=by
 have fi:∀ {a b:Int},a=b→V.lit (.int .i64 a)=vint b:=fun h=>by rw [h]
 have hf:=fields_ok v
 obtain⟨k,n,s⟩:=v
 refine Ok.of_ex Ty.mixed Tryz.func17 rfl (by simp [Tryz.ntmps17]) (by kernel_rfl) fun F w0 I0=>?_
 simp only [↓rA,rB,buildOk,nt_is,simprocAttr,tbO86,Tryz.results17]
 refine fun b1 h1=>?_;replace h1:=newb h1;try simp only [Nb] at h1
 simp only [↓rA,rB,buildOk,nt_is,simprocAttr,tbO86,Tryz.results17,h1]
 refine OkF_of _ hf ?_
 cases e:fldB ⟨k,n,s⟩
 ·simp only [↓rA,rB,buildOk,nt_is,simprocAttr,tbO86,Tryz.results17]
  exact ret_done (fi (valC_f e).symm)
 rw [valC_t e]
 simp only [↓rA,rB,buildOk,nt_is,simprocAttr,tbO86,Tryz.results17,h1]
 refine OkF_of _ (inRange_ok n) ?_
 cases r:rngB n
 ·simp only [↓rA,rB,buildOk,nt_is,simprocAttr,tbO86,Tryz.results17,h1]
  exact ret_done rfl
 by_cases k4:k=4
 ·subst k4
  by_cases z:64 < s.size
  ·have z':(64:Int) < s.size:=by omega
   simp only [↓rA,rB,buildOk,nt_is,simprocAttr,tbO86,Tryz.results17,h1,z']
   exact ret_done (fi (by simp [z]))
  ·have z':¬ (64:Int) < s.size:=by omega
   simp only [↓rA,rB,buildOk,nt_is,simprocAttr,tbO86,Tryz.results17,h1,z']
   refine OkF_of _ (text_ok s) ?_
   have hz:decide (s.size≤64)=true:=decide_eq_true (by omega)
   cases q:s.data.toList.all (okCh 32)
   ·simp only [↓rA,rB,buildOk,nt_is,simprocAttr,tbO86,Tryz.results17,h1,hz,q]
    exact ret_done (fi (by simp [z]))
   ·simp only [↓rA,rB,buildOk,nt_is,simprocAttr,tbO86,Tryz.results17,h1,hz,q]
    exact ret_done (fi (by simp [z]))
 by_cases k5:k=5
 ·subst k5
  by_cases z:32 < s.size
  ·have z':(32:Int) < s.size:=by omega
   simp only [↓rA,rB,buildOk,nt_is,simprocAttr,tbO86,Tryz.results17,h1,z']
   exact ret_done (fi (by simp [z]))
  ·have z':¬ (32:Int) < s.size:=by omega
   simp only [↓rA,rB,buildOk,nt_is,simprocAttr,tbO86,Tryz.results17,h1,z']
   refine OkF_of _ (key_ok s) ?_
   have hz:decide (s.size≤32)=true:=decide_eq_true (by omega)
   by_cases hs:s=es0
   ·simp only [↓rA,rB,buildOk,nt_is,simprocAttr,tbO86,Tryz.results17,h1,hz,hs]
    exact ret_done (fi (by simp [hs];decide))
   cases q:s.data.toList.all (okCh 33)
   ·simp only [↓rA,rB,buildOk,nt_is,simprocAttr,tbO86,Tryz.results17,h1,hz,q,hs]
    exact ret_done (fi (by simp [z,hs]))
   ·simp only [↓rA,rB,buildOk,nt_is,simprocAttr,tbO86,Tryz.results17,h1,hz,q,hs]
    exact ret_done (fi (by simp [z,hs]))
 simp only [↓rA,rB,buildOk,nt_is,simprocAttr,tbO86,Tryz.results17,h1,k4,k5]
 exact ret_done (fi (by simp [k4,k5]))
end Go.Proofs.YtjdggbanifineaaGreat.Arr
set_option linter.unusedSimpArgs false
set_option maxRecDepth 100000
set_option linter.defProp false
namespace Go.Proofs.YtjdggbanifineaaGreat
open Go.VL Go.Ar Go.Sg Go.Lo Go.Proofs.YtjdggbanifineaaGreat Go.Proofs.YtjdggbanifineaaGreat.Arr
def propM (l:List Pk):Bool:=decide (l.length≤60) && l.all fun p=>decide (valC p.1.val=0) && (decide (-1000≤p.2) && decide (p.2≤1000))
theorem valC0 {v:Val} (h:valC v=0):-1152921504606846976≤v.n∧v.n≤1152921504606846976:=by
 unfold valC at h
 by_cases h1:v.n < -1152921504606846976
 ·simp only [h1,if_true] at h
  repeat' split at h
  all_goals contradiction
 ·by_cases h2:1152921504606846976 < v.n
  ·simp only [h1,h2,if_true,if_false] at h
   repeat' split at h
   all_goals contradiction
  ·omega
theorem prop_few {l:List Pk} (h:propM l=true):l.length≤60∧Few 1000 l∧∀ p ∈ l,inW p.2∧inW p.1.val.n:=by
 unfold propM at h
 rw [Bool.and_eq_true,decide_eq_true_eq,List.all_eq_true] at h
 refine⟨h.1,fun p hp=>?_,fun p hp=>?_⟩
 ·have:=h.2 p hp
  simp only [Bool.and_eq_true,decide_eq_true_eq] at this
  exact this.2
 ·have:=h.2 p hp
  simp only [Bool.and_eq_true,decide_eq_true_eq] at this
  have h2:=valC0 this.1
  unfold inW
  omega
def tbH20:=(aI (aI (aI Ty.c17 Ty.t22) (aI Ty.t26 Ty.t28)) (aI (aI Ty.t3 Ty.t30) (aI Ty.t4 (aI Ty.t40 Ty.t9))))
theorem proper_ok (l:List Pk) (hl:l.length≤9223372036854775807):OkP Tryz.prog 6 [vPks l] (vbool (propM l)):=by
 have fb:∀ {a b:Bool},a=b→V.lit (.bool a)=vbool b:=fun h=>by rw [h]
 have hb:∀ i,(h:i < l.length)→¬ (valC l[i].1.val=0∧-1000≤l[i].2∧l[i].2≤1000)→propM l=false:=fun i h hn=>by
  unfold propM
  rw [← Bool.not_eq_true,Bool.and_eq_true,List.all_eq_true]
  rintro⟨_,h2⟩
  have:=h2 l[i] (List.getElem_mem h)
  simp only [Bool.and_eq_true,decide_eq_true_eq] at this
  exact hn this
 refine Ok.of_ex Ty.mixed Tryz.func6 rfl (by simp [Tryz.ntmps6]) (by kernel_rfl) fun F w0 I0=>?_
 by_cases h60:(60:Int) < l.length
 ·simp only [↓rA,rB,buildOk,nt_is,simprocAttr,tbH20,Tryz.results6,List.length_map,h60]
  exact ret_done (fb (by simp [propM];omega))
 ·simp only [↓rA,rB,buildOk,nt_is,simprocAttr,tbH20,Tryz.results6,List.length_map,h60]
  refine EX_for Ty.mixed (by kernel_rfl) l.length (fun i S=>(∀ j (h:j < l.length),j < i→valC l[j].1.val=0∧-1000≤l[j].2∧l[j].2≤1000)∧S.rows=[]∧S.boxes=[]∧S.σ 0=vPks l∧S.σ 3=vint i) ⟨0,?_⟩ (fun i S hi ⟨hf,gr,gb,g0,g3⟩=>?_) (fun S ⟨hf,gr,gb,g0,g3⟩=>?_)
  ·simp only [↓rA,rB,buildOk,nt_is,simprocAttr,tbH20,Tryz.results6]
   exact fun j h h'=>absurd h' (Nat.not_lt_zero j)
  ·have w1:=wrap_succ hi hl
   simp only [↓rA,rB,buildOk,nt_is,simprocAttr,tbH20,Tryz.results6,gr,gb,g0,g3,Int.ofNat_lt,hi,List.length_map,getD_map _ _ _ hi]
   refine OkF_of _ (valR_ok l[i].1.val) ?_
   by_cases c1:valC l[i].1.val=0
   ·by_cases c2:l[i].2 < -1000
    ·simp only [↓rA,rB,buildOk,nt_is,simprocAttr,tbH20,Tryz.results6,gr,gb,g0,g3,Int.ofNat_lt,hi,List.length_map,getD_map _ _ _ hi,c1,c2]
     exact ret_done (fb (hb i hi (by omega)).symm)
    ·by_cases c3:1000 < l[i].2
     ·simp only [↓rA,rB,buildOk,nt_is,simprocAttr,tbH20,Tryz.results6,gr,gb,g0,g3,Int.ofNat_lt,hi,List.length_map,getD_map _ _ _ hi,c1,c2,c3]
      exact ret_done (fb (hb i hi (by omega)).symm)
     ·simp only [↓rA,rB,buildOk,nt_is,simprocAttr,tbH20,Tryz.results6,gr,gb,g0,g3,Int.ofNat_lt,hi,List.length_map,getD_map _ _ _ hi,c1,c2,c3,w1]
      exact⟨0,fun j h h'=>if e:j=i then by subst e;omega else hf j h (by omega)⟩
   ·simp only [↓rA,rB,buildOk,nt_is,simprocAttr,tbH20,Tryz.results6,gr,gb,g0,g3,Int.ofNat_lt,hi,List.length_map,getD_map _ _ _ hi,c1]
    exact ret_done (fb (hb i hi (by omega)).symm)
  ·simp only [↓rA,rB,buildOk,nt_is,simprocAttr,tbH20,Tryz.results6,gr,gb,g0,g3,Int.ofNat_lt,Nat.lt_irrefl,List.length_map]
   refine ret_done (fb ?_)
   unfold propM
   symm
   rw [Bool.and_eq_true,decide_eq_true_eq,List.all_eq_true]
   refine⟨by omega,fun p hp=>?_⟩
   obtain⟨j,hj,rfl⟩:=List.getElem_of_mem hp
   have:=hf j hj hj
   simp only [Bool.and_eq_true,decide_eq_true_eq]
   exact this
def tbH21:=(aI (aI Ty.t22 (aI Ty.t26 Ty.t28)) (aI (aI Ty.t3 Ty.t30) (aI Ty.t4 Ty.t9)))
theorem sameP_ok (l:List Pk) (hl:l.length≤9223372036854775807):OkP Tryz.prog 13 [vPks l,vPks l] (vbool true):=by
 refine Ok.of_ex Ty.mixed Tryz.func13 rfl (by simp [Tryz.ntmps13]) (by kernel_rfl) fun F w0 I0=>?_
 simp only [↓rA,rB,buildOk,nt_is,simprocAttr,tbH21,Tryz.results13,List.length_map]
 refine EX_for Ty.mixed (by kernel_rfl) l.length (fun i S=>S.rows=[]∧S.boxes=[]∧S.σ 0=vPks l∧S.σ 1=vPks l∧S.σ 5=vint i) ⟨0,?_⟩ (fun i S hi ⟨gr,gb,g0,g1,g5⟩=>?_) (fun S ⟨gr,gb,g0,g1,g5⟩=>?_)
 ·simp only [↓rA,rB,buildOk,nt_is,simprocAttr,tbH21,Tryz.results13]
 ·have w1:=wrap_succ hi hl
  simp only [↓rA,rB,buildOk,nt_is,simprocAttr,tbH21,Tryz.results13,gr,gb,g0,g1,g5,Int.ofNat_lt,hi,List.length_map,getD_map _ _ _ hi,w1]
  exact⟨0,by trivial⟩
 ·simp only [↓rA,rB,buildOk,nt_is,simprocAttr,tbH21,Tryz.results13,gr,gb,g0,g1,g5,Int.ofNat_lt,Nat.lt_irrefl,List.length_map]
  exact ret_done rfl
def tbH22:=(aI (aI (aI Ty.t117 (aI Ty.t26 Ty.t28)) (aI Ty.t3 (aI Ty.t4 Ty.t49))) (aI (aI Ty.t51 (aI Ty.t52 Ty.t53)) (aI Ty.t55 (aI Ty.t65 Ty.t9))))
theorem sameSt_ok (s:Stt) (h1:s.2.2.1.length≤1000000) (h2:s.2.2.2.length≤1000000):OkP Tryz.prog 30 [.agg (cSt s),.agg (cSt s)] (vbool true):=by
 obtain⟨n,w,its,bks⟩:=s
 simp only at h1 h2
 refine Ok.of_ex Ty.mixed Tryz.func30 rfl (by simp [Tryz.ntmps30]) (by kernel_rfl) fun F w0 I0=>?_
 simp only [↓rA,rB,buildOk,nt_is,simprocAttr,tbH22,Tryz.results30]
 refine fun b1 hb1=>?_;replace hb1:=newb hb1;try simp only [Nb] at hb1
 simp only [↓rA,rB,buildOk,nt_is,simprocAttr,tbH22,Tryz.results30,hb1]
 refine fun b2 hb2=>?_;replace hb2:=newb hb2;try simp only [Nb] at hb2
 simp only [↓rA,rB,buildOk,nt_is,simprocAttr,tbH22,Tryz.results30,hb1,hb2,List.length_map]
 refine EX_for Ty.mixed (by kernel_rfl) its.length (fun i S=>S.rows=[]∧S.boxes=[(b2,.c (cSt (n,(w,(its,bks))))),(b1,.c (cSt (n,(w,(its,bks)))))]∧S.σ 2=ptr b1∧S.σ 3=ptr b2∧S.σ 5=vint i) ⟨0,?_⟩ (fun i S hi ⟨gr,gb,g2,g3,g5⟩=>?_) (fun S ⟨gr,gb,g2,g3,g5⟩=>?_)
 ·simp only [↓rA,rB,buildOk,nt_is,simprocAttr,tbH22,Tryz.results30]
 ·have w1:=wrap_succ hi (by omega)
  simp only [↓rA,rB,buildOk,nt_is,simprocAttr,tbH22,Tryz.results30,gr,gb,g2,g3,g5,hb1,hb2,Int.ofNat_lt,hi,List.length_map,getD_map _ _ _ hi,w1]
  exact⟨0,by trivial⟩
 ·simp only [↓rA,rB,buildOk,nt_is,simprocAttr,tbH22,Tryz.results30,gr,gb,g2,g3,g5,hb1,hb2,Int.ofNat_lt,Nat.lt_irrefl,List.length_map]
  refine EX_for Ty.mixed (by kernel_rfl) bks.length (fun i S=>S.rows=[]∧S.boxes=[(b2,.c (cSt (n,(w,(its,bks))))),(b1,.c (cSt (n,(w,(its,bks)))))]∧S.σ 2=ptr b1∧S.σ 3=ptr b2∧S.σ 6=vint i) ⟨0,?_⟩ (fun i S hi ⟨gr,gb,g2,g3,g5⟩=>?_) (fun S ⟨gr,gb,g2,g3,g5⟩=>?_)
  ·simp only [↓rA,rB,buildOk,nt_is,simprocAttr,tbH22,Tryz.results30,gr,gb,g2,g3]
  ·have w1:=wrap_succ hi (by omega)
   simp only [↓rA,rB,buildOk,nt_is,simprocAttr,tbH22,Tryz.results30,gr,gb,g2,g3,g5,hb1,hb2,Int.ofNat_lt,hi,List.length_map,getD_map _ _ _ hi,w1]
   exact⟨0,by trivial⟩
  ·simp only [↓rA,rB,buildOk,nt_is,simprocAttr,tbH22,Tryz.results30,gr,gb,g2,g3,g5,hb1,hb2,Int.ofNat_lt,Nat.lt_irrefl,List.length_map]
   exact ret_done rfl
def tbH23:=(aI (aI (aI Ty.c30 (aI Ty.t117 Ty.t26)) (aI (aI Ty.t28 Ty.t3) (aI Ty.t31 Ty.t4))) (aI (aI (aI Ty.t49 Ty.t51) (aI Ty.t52 Ty.t53)) (aI (aI Ty.t55 Ty.t57) (aI Ty.t65 Ty.t9))))
theorem sameC_ok (l:List Cl) (hl:l.length≤1000000) (hb:∀ c ∈ l,c.2.2.2.1.length≤1000000∧c.2.2.2.2.length≤1000000):OkP Tryz.prog 10 [vCls l,vCls l] (vbool true):=by
 refine Ok.of_ex Ty.mixed Tryz.func10 rfl (by simp [Tryz.ntmps10]) (by kernel_rfl) fun F w0 I0=>?_
 simp only [↓rA,rB,buildOk,nt_is,simprocAttr,tbH23,Tryz.results10,List.length_map]
 refine EX_for Ty.mixed (by kernel_rfl) l.length (fun i S=>S.rows=[]∧S.boxes=[]∧S.σ 0=vCls l∧S.σ 1=vCls l∧S.σ 5=vint i) ⟨0,?_⟩ (fun i S hi ⟨gr,gb,g0,g1,g5⟩=>?_) (fun S ⟨gr,gb,g0,g1,g5⟩=>?_)
 ·simp only [↓rA,rB,buildOk,nt_is,simprocAttr,tbH23,Tryz.results10]
 ·have w1:=wrap_succ hi (by omega)
  have hbi:=hb _ (List.getElem_mem hi)
  simp only [↓rA,rB,buildOk,nt_is,simprocAttr,tbH23,Tryz.results10,gr,gb,g0,g1,g5,Int.ofNat_lt,hi,List.length_map,getD_map _ _ _ hi]
  refine CallV_of _ (sameSt_ok l[i].2 hbi.1 hbi.2).v ?_
  simp only [↓rA,rB,buildOk,nt_is,simprocAttr,tbH23,Tryz.results10,gr,gb,g0,g1,g5,Int.ofNat_lt,hi,List.length_map,w1]
  exact⟨0,by trivial⟩
 ·simp only [↓rA,rB,buildOk,nt_is,simprocAttr,tbH23,Tryz.results10,gr,gb,g0,g1,g5,Int.ofNat_lt,Nat.lt_irrefl,List.length_map]
  exact ret_done rfl
end Go.Proofs.YtjdggbanifineaaGreat
set_option linter.unusedSimpArgs false
set_option maxRecDepth 100000
set_option linter.defProp false
namespace Go.Ar
open Go.VL Go.Sg Go.Lo
theorem half_pos {x i:Nat} (h:i < bitsN x):0 < x / 2 ^ i:=by
 have hx:1≤x:=by
  rcases Nat.eq_zero_or_pos x with rfl | h0
  ·simp [bitsN] at h
  ·exact h0
 have h1:=(bits_lt hx).2
 have h2:2 ^ i≤2 ^ (bitsN x - 1):=Nat.pow_le_pow_right (by omega) (by omega)
 exact Nat.div_pos (Nat.le_trans h2 h1) (Nat.two_pow_pos i)
theorem half_end (x:Nat):x / 2 ^ bitsN x=0:=by
 rcases Nat.eq_zero_or_pos x with rfl | h0
 ·simp
 ·exact Nat.div_eq_of_lt (bits_lt h0).1
theorem half_next (x i:Nat):x / 2 ^ (i+1)=x / 2 ^ i / 2:=by rw [Nat.pow_succ,Nat.div_div_eq_div_mul]
theorem half_le (x i:Nat):x / 2 ^ i≤x:=Nat.div_le_self _ _
end Go.Ar
namespace Go.Proofs.YtjdggbanifineaaGreat
open Go.VL Go.Ar Go.Sg Go.Lo Go.Proofs.YtjdggbanifineaaGreat Go.Proofs.YtjdggbanifineaaGreat.Arr
def tbI40:=(aI Ty.t3 (aI Ty.t4 Ty.t49))
theorem positive_ok (x:Nat) (hx:x < 18446744073709551616):OkP Tryz.prog 130 [vu x] (vint (bucketN x)):=by
 have hb:bitsN x≤64:=bits_le hx
 have hq:∀ m:Nat,((m:Nat):Int).tdiv 2=((m / 2:Nat):Int):=fun m=>by rw [Int.tdiv_eq_ediv_of_nonneg (by omega)];omega
 have hu:∀ m:Nat,m≤x→IntKind.u64.wrap ((m:Nat):Int)=m:=fun m h=>by rw [IntKind.wrap_u64];omega
 refine Ok.of_ex Ty.mixed Tryz.func130 rfl (by simp [Tryz.ntmps130]) (by kernel_rfl) fun F w0 I0=>?_
 simp only [↓rA,rB,buildOk,nt_is,simprocAttr,tbI40,Tryz.results130]
 refine EX_for Ty.mixed (by kernel_rfl) (bitsN x) (fun i S=>S.boxes=[]∧S.rows=[]∧S.σ 0=vu x∧S.σ 3=vint i∧S.σ 4=vu ((x / 2 ^ i:Nat):Int)) ⟨0,?_⟩ (fun i S hi ⟨gb,gr,g0,g3,g4⟩=>?_) (fun S ⟨gb,gr,g0,g3,g4⟩=>?_)
 ·simp only [↓rA,rB,buildOk,nt_is,simprocAttr,tbI40,Tryz.results130]
  simp
 ·have hp:=half_pos hi
  have hle:=half_le x i
  have w1:=wrap_id (n:=(i:Int)+1) (by omega) (by omega)
  have hp':(0:Int) < ((x / 2 ^ i:Nat):Int):=by omega
  have w2:=hu (x / 2 ^ i / 2) (by omega)
  rw [half_next]
  generalize x / 2 ^ i=m at *
  simp only [↓rA,rB,buildOk,nt_is,simprocAttr,tbI40,Tryz.results130,gb,gr,g0,g3,g4,hp',w1,w2,hq]
  exact⟨0,rfl⟩
 ·rw [half_end] at g4
  by_cases h6:bitsN x < 6
  ·have h6':(bitsN x:Int) < 6:=by omega
   have w1:=wrap_id (n:=(x:Int)) (by omega) (by have:=(Nat.lt_of_lt_of_le (show x < 2 ^ 6 from by
    rcases Nat.eq_zero_or_pos x with rfl | h0
    ·decide
    ·exact Nat.lt_of_lt_of_le (bits_lt h0).1 (Nat.pow_le_pow_right (by omega) (by omega))) (Nat.le_refl _));omega)
   have e:bucketN x=x:=by unfold bucketN;rw [show bitsN x - 6=0 by omega];simp
   simp only [↓rA,rB,buildOk,nt_is,simprocAttr,tbI40,Tryz.results130,gb,gr,g0,g3,g4,h6',w1]
   exact ret_done (by rw [e])
  ·have h6':¬ (bitsN x:Int) < 6:=by omega
   have w1:IntKind.i64.wrap ((bitsN x:Int) - 6)=((bitsN x - 6:Nat):Int):=by rw [wrap_id (by omega) (by omega)];omega
   simp only [↓rA,rB,buildOk,nt_is,simprocAttr,tbI40,Tryz.results130,gb,gr,g0,g3,g4,h6',w1]
   have hsm:=shr_small x
   have hs58:bitsN x - 6≤58:=by omega
   unfold bucketN
   generalize bitsN x - 6=s at *
   refine EX_for Ty.mixed (by kernel_rfl) s (fun i S=>S.boxes=[]∧S.rows=[]∧S.σ 0=vu ((x / 2 ^ i:Nat):Int)∧S.σ 5=vint s∧S.σ 6=vint i) ⟨0,?_⟩ (fun i S hi ⟨gb,gr,g0,g5,g6⟩=>?_) (fun S ⟨gb,gr,g0,g5,g6⟩=>?_)
   ·simp only [↓rA,rB,buildOk,nt_is,simprocAttr,tbI40,Tryz.results130,gb,gr,g0]
    simp
   ·have hle:=half_le x i
    have w1:=wrap_id (n:=(i:Int)+1) (by omega) (by omega)
    have w2:=hu (x / 2 ^ i / 2) (by omega)
    rw [half_next]
    generalize x / 2 ^ i=m at *
    simp only [↓rA,rB,buildOk,nt_is,simprocAttr,tbI40,Tryz.results130,gb,gr,g0,g5,g6,Int.ofNat_lt,hi,w1,w2,hq]
    exact⟨0,rfl⟩
   ·generalize x / 2 ^ s=m at *
    have w2:=wrap_id (n:=32 * (s:Int)) (by omega) (by omega)
    have w3:=wrap_id (n:=(m:Int)) (by omega) (by omega)
    have w4:=wrap_id (n:=32 * (s:Int)+(m:Int)) (by omega) (by omega)
    simp only [↓rA,rB,buildOk,nt_is,simprocAttr,tbI40,Tryz.results130,gb,gr,g0,g5,g6,Int.ofNat_lt,Nat.lt_irrefl,w2,w3,w4]
    exact ret_done (by simp)
def tbI41:=(aI (aI Ty.c130 Ty.t3) (aI Ty.t4 Ty.t49))
theorem index16_ok (n:Int) (hn:inW n):OkP Tryz.prog 116 [vint n] (vint (idxM n)):=by
 unfold inW at hn
 refine Ok.of_ex Ty.mixed Tryz.func116 rfl (by simp [Tryz.ntmps116]) (by kernel_rfl) fun F w0 I0=>?_
 simp only [↓rA,rB,buildOk,nt_is,simprocAttr,tbI41,Tryz.results116]
 by_cases h:n < 0
 ·have w1:=wrap_id (n:=n+1) (by omega) (by omega)
  have w2:IntKind.i64.wrap (0 - (n+1))=-(n+1):=by rw [wrap_id (by omega) (by omega)];omega
  have w3:IntKind.u64.wrap (-(n+1))=-(n+1):=by rw [IntKind.wrap_u64];omega
  have w4:IntKind.u64.wrap (-(n+1)+1)=((-n).toNat:Int):=by rw [IntKind.wrap_u64];omega
  have hb:bucketN (-n).toNat≤2000:=by
   have h1:=shr_small (-n).toNat
   have h2:bitsN (-n).toNat≤64:=bits_le (show (-n).toNat < 2 ^ 64 by omega)
   unfold bucketN
   omega
  have w5:IntKind.i64.wrap (0 - (bucketN (-n).toNat:Int))=-(bucketN (-n).toNat:Int):=by rw [wrap_id (by omega) (by omega)];omega
  have e:idxM n=-(bucketN (-n).toNat:Int):=by unfold idxM;rw [if_pos h]
  simp only [↓rA,rB,buildOk,nt_is,simprocAttr,tbI41,Tryz.results116,h,w1,w2,w3,w4]
  refine OkF_of _ (positive_ok (-n).toNat (by omega)) ?_
  simp only [↓rA,rB,buildOk,nt_is,simprocAttr,tbI41,Tryz.results116,w5]
  exact ret_done (by rw [e])
 ·have w1:IntKind.u64.wrap n=(n.toNat:Int):=by rw [IntKind.wrap_u64];omega
  have e:idxM n=(bucketN n.toNat:Int):=by unfold idxM;rw [if_neg h]
  simp only [↓rA,rB,buildOk,nt_is,simprocAttr,tbI41,Tryz.results116,h,w1]
  refine OkF_of _ (positive_ok n.toNat (by omega)) ?_
  simp only [↓rA,rB,buildOk,nt_is,simprocAttr,tbI41,Tryz.results116]
  exact ret_done (by rw [e])
end Go.Proofs.YtjdggbanifineaaGreat
set_option linter.unusedSimpArgs false
set_option maxRecDepth 100000
set_option linter.defProp false
namespace Go.Ar
open Go.VL Go.Sg Go.Lo
abbrev cB2 (p:Int × Int):List V:=[vint p.1,vint p.2]
theorem bk_tail {l:Bks} (hc:Canon ordI addW l) {i:Nat} (h:i < l.length) {x:Int} (hx:x < l[i].1):∀ p ∈ l.drop i,ordI.lt x p.1=true:=fun p hp=>by
 have hs:=hc.sorted
 rw [List.drop_eq_getElem_cons h] at hp
 rcases List.mem_cons.1 hp with rfl | hp
 ·exact ltO.2 hx
 ·have h1:(l.drop i).Pairwise fun a b=>ordI.lt a.1 b.1=true:=hs.sublist (List.drop_sublist i l)
  rw [List.drop_eq_getElem_cons h] at h1
  have:=ltO.1 ((List.pairwise_cons.1 h1).1 p hp)
  exact ltO.2 (by omega)
theorem bk_end {l:Bks} {x t:Int} (ht:¬ t=0) (h:∀ p ∈ l,p.1 < x):put ordI addW x t l=l++[(x,t)]:=by
 have:=put_ahead (O:=ordI) (A:=addW) (k:=x) (g:=t) (l:=l) (m:=[]) fun p hp=>ltO.2 (h p hp)
 rw [List.append_nil] at this
 rw [this]
 unfold put
 rw [if_neg (show ¬ t=addW.z from ht)]
theorem bk_put {l:Bks} (hc:Canon ordI addW l) {x t:Int} (ht:¬ t=0) {i:Nat} (h:i < l.length) (hb:∀ p ∈ l.take i,p.1 < x) (hx:x < l[i].1):put ordI addW x t l=l.take i++[(x,t)]++l.drop i:=by
 conv=>lhs;rw [← List.take_append_drop i l]
 rw [put_ahead fun p hp=>ltO.2 (hb p hp),put_miss (show ¬ t=addW.z from ht) (bk_tail hc h hx)]
 simp
theorem bk_hit {l:Bks} {x t:Int} {i:Nat} (h:i < l.length) (hb:∀ p ∈ l.take i,p.1 < x) (hx:l[i].1=x):put ordI addW x t l=l.take i++(if IntKind.i64.wrap (l[i].2+t)=0 then [] else [(x,IntKind.i64.wrap (l[i].2+t))])++l.drop (i+1):=by
 conv=>lhs;rw [← List.take_append_drop i l,List.drop_eq_getElem_cons h]
 rw [put_ahead fun p hp=>ltO.2 (hb p hp)]
 have e:l[i]=(x,l[i].2):=by rw [← hx]
 rw [e,put_hit]
 have ea:addW.add l[i].2 t=IntKind.i64.wrap (l[i].2+t):=rfl
 have ez:addW.z=(0:Int):=rfl
 rw [ea,ez]
 split <;> simp
end Go.Ar
namespace Go.Proofs.YtjdggbanifineaaGreat
open Go.VL Go.Ar Go.Sg Go.Lo Go.Proofs.YtjdggbanifineaaGreat Go.Proofs.YtjdggbanifineaaGreat.Arr
def tbI50:=(aI (aI Ty.t117 Ty.t3) (aI Ty.t4 Ty.t53))
set_option maxHeartbeats 1000000 in
theorem merge16_ok (l:Bks) (hc:Canon ordI addW l) (x t:Int) (ht:¬ t=0) (hl:l.length≤1000000) (own:Option Value):OkP Tryz.prog 115 [vBks l,.list own 2 [[vint x,vint t]]] (vBks (put ordI addW x t l)):=by
 refine Ok.of_ex Ty.mixed Tryz.func115 rfl (by simp [Tryz.ntmps115]) (by kernel_rfl) fun F w0 I0=>?_
 simp only [↓rA,rB,buildOk,nt_is,simprocAttr,tbI50,Tryz.results115]
 refine AWP.nilRow 5 2 117 (by simp only [↓rA,rB,buildOk,nt_is,simprocAttr,tbI50,Tryz.results115]) (by decide) ?_
 refine EX_whileS Ty.mixed (by kernel_rfl) (fun(p:Nat × Nat)=>(l.length - p.1)+(1 - p.2)) (fun(p:Nat × Nat) S=>p.1≤l.length∧S.boxes=[]∧(∃ y out,S.rows=[⟨y,2,117⟩]∧S.σ 5=.list (some y) 2 (out.map cB2)∧out.length≤p.1+1∧((p.2=0∧out=l.take p.1∧∀ q ∈ l.take p.1,q.1 < x)∨(p.2=1∧out++l.drop p.1=put ordI addW x t l)))∧S.σ 0=vBks l∧S.σ 1=.list own 2 [[vint x,vint t]]∧S.σ 6=vint p.1∧S.σ 7=vint p.2) (0,0) ⟨_,_,List.Sublist.refl _,List.Sublist.refl _,?_⟩ (fun p S ⟨hil,gb,⟨y,out,gr,g5,hol,hph⟩,g0,g1,g6,g7⟩=>?_)
 ·simp only [↓rA,rB,buildOk,nt_is,simprocAttr,tbI50,Tryz.results115]
  exact⟨nilv,[],rfl,rfl,by simp,rfl,fun q hq=>absurd hq List.not_mem_nil⟩
 ·obtain⟨i,k⟩:=p
  simp only at *
  have w1:i < l.length→IntKind.i64.wrap ((i:Int)+1)=(i:Int)+1:=fun h=>wrap_id (by omega) (by omega)
  have n1:((1:Nat):Int)=1:=rfl
  have n0:((0:Nat):Int)=0:=rfl
  rcases hph with⟨rfl,rfl,hlt⟩ | ⟨rfl,he⟩
  ·by_cases hi:i < l.length
   ·have hgl:(l.map cB2).getD i []=cB2 l[i]:=getD_map _ _ _ hi
    have hne:¬ ((i:Int)=l.length):=by omega
    by_cases h1:l[i].1 < x
    ·simp only [↓rA,rB,buildOk,nt_is,simprocAttr,tbI50,Tryz.results115,gb,gr,g0,g1,g5,g6,g7,Int.ofNat_lt,hi,List.length_map,n1,n0,hgl,hne,h1,w1 hi]
     refine fun y1=>takeRF_2 ?_
     simp only [↓rA,rB,buildOk,nt_is,simprocAttr,tbI50,Tryz.results115,gb,gr,g0,g1,g5,g6,g7,Int.ofNat_lt,hi,List.length_map,n1,n0,hgl,hne,h1,w1 hi,List.length_take,hol]
     refine⟨by omega,fun y2=>?_⟩
     refine⟨(i+1,0),by simp only;omega,[],[⟨y2,2,117⟩],List.nil_sublist _,List.Sublist.cons_cons _ (List.nil_sublist _),?_⟩
     simp only [↓rA,rB,buildOk,nt_is,simprocAttr,tbI50,Tryz.results115,gb,g0,g1,g5,g6,g7]
     refine⟨by omega,⟨y2,l.take (i+1),rfl,by rw [List.take_succ_eq_append_getElem hi,List.map_append];rfl,by rw [List.length_take];omega,rfl,fun q hq=>?_⟩,rfl⟩
     rw [List.take_succ_eq_append_getElem hi] at hq
     rcases List.mem_append.1 hq with hq | hq
     ·exact hlt q hq
     ·rw [List.mem_singleton.1 hq];exact h1
    ·by_cases h2:x < l[i].1
     ·simp only [↓rA,rB,buildOk,nt_is,simprocAttr,tbI50,Tryz.results115,gb,gr,g0,g1,g5,g6,g7,Int.ofNat_lt,hi,List.length_map,n1,n0,hgl,hne,h1,h2,w1 hi]
      refine fun y1=>takeRF_2 ?_
      simp only [↓rA,rB,buildOk,nt_is,simprocAttr,tbI50,Tryz.results115,gb,gr,g0,g1,g5,g6,g7,Int.ofNat_lt,hi,List.length_map,n1,n0,hgl,hne,h1,h2,w1 hi,List.length_take,hol]
      refine⟨by omega,fun y2=>?_⟩
      refine⟨(i,1),by simp only;omega,[],[⟨y2,2,117⟩],List.nil_sublist _,List.Sublist.cons_cons _ (List.nil_sublist _),?_⟩
      simp only [↓rA,rB,buildOk,nt_is,simprocAttr,tbI50,Tryz.results115,gb,g0,g1,g5,g6,g7]
      exact⟨by omega,⟨y2,l.take i++[(x,t)],rfl,by rw [List.map_append];rfl,by rw [List.length_append,List.length_take];show _+1≤_;omega,(bk_put hc ht hi hlt h2).symm⟩,rfl⟩
     ·simp only [↓rA,rB,buildOk,nt_is,simprocAttr,tbI50,Tryz.results115,gb,gr,g0,g1,g5,g6,g7,Int.ofNat_lt,hi,List.length_map,n1,n0,hgl,hne,h1,h2,w1 hi]
      have hx:l[i].1=x:=by omega
      have hput:=bk_hit (t:=t) hi hlt hx
      by_cases hz:IntKind.i64.wrap (l[i].2+t)=0
      ·rw [if_pos hz,List.append_nil] at hput
       simp only [↓rA,rB,buildOk,nt_is,simprocAttr,tbI50,Tryz.results115,gb,gr,g0,g1,g5,g6,g7,Int.ofNat_lt,hi,List.length_map,n1,n0,hgl,hne,h1,h2,w1 hi,hz]
       refine⟨(i+1,1),by simp only;omega,[],[⟨y,2,117⟩],?_,?_,?_⟩
       ·exact List.nil_sublist _
       ·simp only [↓rA,rB,buildOk,nt_is,simprocAttr,tbI50,Tryz.results115,gr]
        exact List.Sublist.refl _
       ·simp only [↓rA,rB,buildOk,nt_is,simprocAttr,tbI50,Tryz.results115,gb,g0,g1,g5,g6,g7]
        exact⟨by omega,⟨y,l.take i,rfl,rfl,by rw [List.length_take];omega,hput.symm⟩,rfl,rfl⟩
      ·rw [if_neg hz] at hput
       simp only [↓rA,rB,buildOk,nt_is,simprocAttr,tbI50,Tryz.results115,gb,gr,g0,g1,g5,g6,g7,Int.ofNat_lt,hi,List.length_map,n1,n0,hgl,hne,h1,h2,w1 hi,hz]
       refine fun y1=>takeRF_2 ?_
       simp only [↓rA,rB,buildOk,nt_is,simprocAttr,tbI50,Tryz.results115,gb,gr,g0,g1,g5,g6,g7,Int.ofNat_lt,hi,List.length_map,n1,n0,hgl,hne,h1,h2,w1 hi,List.length_take]
       refine⟨by omega,fun y2=>?_⟩
       refine⟨(i+1,1),by simp only;omega,[],[⟨y2,2,117⟩],List.nil_sublist _,List.Sublist.cons_cons _ (List.nil_sublist _),?_⟩
       simp only [↓rA,rB,buildOk,nt_is,simprocAttr,tbI50,Tryz.results115,gb,g0,g1,g5,g6,g7]
       refine⟨by omega,⟨y2,l.take i++[(x,IntKind.i64.wrap (l[i].2+t))],rfl,?_,by rw [List.length_append,List.length_take];show _+1≤_;omega,hput.symm⟩,rfl,rfl⟩
       rw [List.map_append,← hx]
       rfl
   ·have hie:i=l.length:=by omega
    subst hie
    simp only [↓rA,rB,buildOk,nt_is,simprocAttr,tbI50,Tryz.results115,gb,gr,g0,g1,g5,g6,g7,Int.ofNat_lt,hi,List.length_map,n1,n0]
    refine fun y1=>takeRF_2 ?_
    simp only [↓rA,rB,buildOk,nt_is,simprocAttr,tbI50,Tryz.results115,gb,gr,g0,g1,g5,g6,g7,Int.ofNat_lt,hi,List.length_map,n1,n0,List.length_take,hol]
    refine⟨by omega,fun y2=>?_⟩
    refine⟨(l.length,1),by simp only;omega,[],[⟨y2,2,117⟩],List.nil_sublist _,List.Sublist.cons_cons _ (List.nil_sublist _),?_⟩
    simp only [↓rA,rB,buildOk,nt_is,simprocAttr,tbI50,Tryz.results115,gb,g0,g1,g5,g6,g7]
    rw [List.take_length] at hlt
    exact⟨⟨y2,l.take l.length++[(x,t)],rfl,by rw [List.map_append];rfl,by simp,by rw [List.take_length,List.drop_length,List.append_nil,bk_end ht hlt]⟩,rfl⟩
  ·by_cases hi:i < l.length
   ·have hgl:(l.map cB2).getD i []=cB2 l[i]:=getD_map _ _ _ hi
    simp only [↓rA,rB,buildOk,nt_is,simprocAttr,tbI50,Tryz.results115,gb,gr,g0,g1,g5,g6,g7,Int.ofNat_lt,hi,List.length_map,n1,n0,hgl,w1 hi]
    refine fun y1=>takeRF_2 ?_
    simp only [↓rA,rB,buildOk,nt_is,simprocAttr,tbI50,Tryz.results115,gb,gr,g0,g1,g5,g6,g7,Int.ofNat_lt,hi,List.length_map,n1,n0,hgl,w1 hi,hol]
    refine⟨by omega,fun y2=>?_⟩
    refine⟨(i+1,1),by simp only;omega,[],[⟨y2,2,117⟩],List.nil_sublist _,List.Sublist.cons_cons _ (List.nil_sublist _),?_⟩
    simp only [↓rA,rB,buildOk,nt_is,simprocAttr,tbI50,Tryz.results115,gb,g0,g1,g5,g6,g7]
    rw [List.drop_eq_getElem_cons hi] at he
    exact⟨by omega,⟨y2,out++[l[i]],rfl,by rw [List.map_append];rfl,by rw [List.length_append];show _+1≤_;omega,by rw [← he];simp⟩,rfl⟩
   ·have hie:i=l.length:=by omega
    subst hie
    simp only [↓rA,rB,buildOk,nt_is,simprocAttr,tbI50,Tryz.results115,gb,gr,g0,g1,g5,g6,g7,Int.ofNat_lt,hi,List.length_map,n1,n0]
    rw [List.drop_length,List.append_nil] at he
    subst he
    exact⟨vBks _,[],[],Le.list _ _ _,List.nil_sublist _,List.nil_sublist _,rfl,rfl,rfl⟩
def tbI51:=(aI (aI Ty.c115 (aI Ty.c116 Ty.t117)) (aI Ty.t3 (aI Ty.t4 Ty.t53)))
theorem add16_ok (s:Bks) (hs:Canon ordI addW s) (n times:Int) (hn:inW n) (ht:¬ times=0) (hl:s.length≤1000000):OkP Tryz.prog 94 [vBks s,vint n,vint times] (vBks (put ordI addW (idxM n) times s)):=by
 refine Ok.of_ex Ty.mixed Tryz.func94 rfl (by simp [Tryz.ntmps94]) (by kernel_rfl) fun F w0 I0=>?_
 simp only [↓rA,rB,buildOk,nt_is,simprocAttr,tbI51,Tryz.results94,ht]
 refine OkF_of _ (index16_ok n hn) ?_
 simp only [↓rA,rB,buildOk,nt_is,simprocAttr,tbI51,Tryz.results94]
 intro y
 refine OkF_of _ (merge16_ok s hs (idxM n) times ht hl (some y)) ?_
 simp only [↓rA,rB,buildOk,nt_is,simprocAttr,tbI51,Tryz.results94]
 exact ret_done rfl
end Go.Proofs.YtjdggbanifineaaGreat
set_option linter.unusedSimpArgs false
set_option maxRecDepth 100000
set_option linter.defProp false
namespace Go.Ar
open Go.VL Go.Sg Go.Lo
theorem fam2 (op:Str):fam op=2↔op=sSum∨op=sMean∨op=sDecay:=by
 constructor
 ·intro h
  unfold fam at h
  repeat' split at h
  all_goals first | assumption | (exfalso;omega) | (simp at h)
 ·intro h
  rcases h with rfl | rfl | rfl <;> decide +kernel
theorem fam3 (op:Str):fam op=3↔op=sQuant:=by
 constructor
 ·intro h
  unfold fam at h
  repeat' split at h
  all_goals first | assumption | (exfalso;omega) | (simp at h)
 ·intro h
  subst h;decide +kernel
theorem fam4 (op:Str):fam op=4↔op=sMin∨op=sMax∨op=sDist:=by
 constructor
 ·intro h
  unfold fam at h
  repeat' split at h
  all_goals first | assumption | (exfalso;omega) | (simp at h)
 ·intro h
  rcases h with rfl | rfl | rfl <;> decide +kernel
theorem fam5 (op:Str):fam op=5↔op=sFirst∨op=sLast:=by
 constructor
 ·intro h
  unfold fam at h
  repeat' split at h
  all_goals first | assumption | (exfalso;omega) | (simp at h)
 ·intro h
  rcases h with rfl | rfl <;> decide +kernel
theorem famN (op:Str):¬ fam op=0↔op=sCount∨op=sSum∨op=sMean∨op=sMin∨op=sMax∨op=sFirst∨op=sLast∨op=sDist∨op=sQuant∨op=sDecay:=by
 constructor
 ·intro h
  unfold fam at h
  repeat' split at h
  all_goals first | (exact absurd rfl h) | (rename_i x;rcases x with x | x | x <;> simp [x];done) | (rename_i x;rcases x with x | x <;> simp [x];done) | (rename_i x;simp [x];done)
 ·intro h
  rcases h with rfl | rfl | rfl | rfl | rfl | rfl | rfl | rfl | rfl | rfl <;> decide +kernel
end Go.Ar
namespace Go.Proofs.YtjdggbanifineaaGreat
open Go.VL Go.Ar Go.Sg Go.Lo Go.Proofs.YtjdggbanifineaaGreat Go.Proofs.YtjdggbanifineaaGreat.Arr
def tbI60:=(aI Ty.t4 Ty.t9)
theorem summing17_ok (op:Str):OkP Tryz.prog 91 [vstr op] (vbool (decide (fam op=2))):=by
 have hf:=fam2 op
 refine Ok.of_ex Ty.mixed Tryz.func91 rfl (by simp [Tryz.ntmps91]) (by kernel_rfl) fun F w0 I0=>?_
 simp only [↓rA,rB,buildOk,nt_is,simprocAttr,tbI60,Tryz.results91]
 by_cases e0:op=sSum
 ·have h:fam op=2:=hf.2 (by simp [e0])
  replace e0:=eq_true e0
  simp only [↓rA,rB,buildOk,nt_is,simprocAttr,tbI60,Tryz.results91,e0]
  exact ret_done (by rw [h];rfl)
 ·skip
  by_cases e1:op=sMean
  ·have h:fam op=2:=hf.2 (by simp [e0,e1])
   replace e1:=eq_true e1
   simp only [↓rA,rB,buildOk,nt_is,simprocAttr,tbI60,Tryz.results91,e0,e1]
   exact ret_done (by rw [h];rfl)
  ·skip
   by_cases e2:op=sDecay
   ·have h:fam op=2:=hf.2 (by simp [e0,e1,e2])
    replace e2:=eq_true e2
    simp only [↓rA,rB,buildOk,nt_is,simprocAttr,tbI60,Tryz.results91,e0,e1,e2]
    exact ret_done (by rw [h];rfl)
   ·skip
    have h:¬ fam op=2:=fun h=>by have:=hf.1 h;simp [e0,e1,e2] at this
    simp only [↓rA,rB,buildOk,nt_is,simprocAttr,tbI60,Tryz.results91,e0,e1,e2]
    exact ret_done (by simp [h])
def tbI61:=(aI Ty.t4 Ty.t9)
theorem valued17_ok (op:Str):OkP Tryz.prog 95 [vstr op] (vbool (decide (fam op=4))):=by
 have hf:=fam4 op
 refine Ok.of_ex Ty.mixed Tryz.func95 rfl (by simp [Tryz.ntmps95]) (by kernel_rfl) fun F w0 I0=>?_
 simp only [↓rA,rB,buildOk,nt_is,simprocAttr,tbI61,Tryz.results95]
 by_cases e0:op=sMin
 ·have h:fam op=4:=hf.2 (by simp [e0])
  replace e0:=eq_true e0
  simp only [↓rA,rB,buildOk,nt_is,simprocAttr,tbI61,Tryz.results95,e0]
  exact ret_done (by rw [h];rfl)
 ·skip
  by_cases e1:op=sMax
  ·have h:fam op=4:=hf.2 (by simp [e0,e1])
   replace e1:=eq_true e1
   simp only [↓rA,rB,buildOk,nt_is,simprocAttr,tbI61,Tryz.results95,e0,e1]
   exact ret_done (by rw [h];rfl)
  ·skip
   by_cases e2:op=sDist
   ·have h:fam op=4:=hf.2 (by simp [e0,e1,e2])
    replace e2:=eq_true e2
    simp only [↓rA,rB,buildOk,nt_is,simprocAttr,tbI61,Tryz.results95,e0,e1,e2]
    exact ret_done (by rw [h];rfl)
   ·skip
    have h:¬ fam op=4:=fun h=>by have:=hf.1 h;simp [e0,e1,e2] at this
    simp only [↓rA,rB,buildOk,nt_is,simprocAttr,tbI61,Tryz.results95,e0,e1,e2]
    exact ret_done (by simp [h])
def tbI62:=(aI Ty.t4 Ty.t9)
theorem ordered17_ok (op:Str):OkP Tryz.prog 96 [vstr op] (vbool (decide (fam op=5))):=by
 have hf:=fam5 op
 refine Ok.of_ex Ty.mixed Tryz.func96 rfl (by simp [Tryz.ntmps96]) (by kernel_rfl) fun F w0 I0=>?_
 simp only [↓rA,rB,buildOk,nt_is,simprocAttr,tbI62,Tryz.results96]
 by_cases e0:op=sFirst
 ·have h:fam op=5:=hf.2 (by simp [e0])
  replace e0:=eq_true e0
  simp only [↓rA,rB,buildOk,nt_is,simprocAttr,tbI62,Tryz.results96,e0]
  exact ret_done (by rw [h];rfl)
 ·skip
  by_cases e1:op=sLast
  ·have h:fam op=5:=hf.2 (by simp [e0,e1])
   replace e1:=eq_true e1
   simp only [↓rA,rB,buildOk,nt_is,simprocAttr,tbI62,Tryz.results96,e0,e1]
   exact ret_done (by rw [h];rfl)
  ·skip
   have h:¬ fam op=5:=fun h=>by have:=hf.1 h;simp [e0,e1] at this
   simp only [↓rA,rB,buildOk,nt_is,simprocAttr,tbI62,Tryz.results96,e0,e1]
   exact ret_done (by simp [h])
def tbI63:=(aI Ty.t4 Ty.t9)
theorem known17_ok (op:Str):OkP Tryz.prog 46 [vstr op] (vbool (decide (¬ fam op=0))):=by
 have hf:=famN op
 refine Ok.of_ex Ty.mixed Tryz.func46 rfl (by simp [Tryz.ntmps46]) (by kernel_rfl) fun F w0 I0=>?_
 simp only [↓rA,rB,buildOk,nt_is,simprocAttr,tbI63,Tryz.results46]
 by_cases e0:op=sCount
 ·have h:¬ fam op=0:=hf.2 (by simp [e0])
  replace e0:=eq_true e0
  simp only [↓rA,rB,buildOk,nt_is,simprocAttr,tbI63,Tryz.results46,e0]
  exact ret_done (by simp [h])
 ·skip
  by_cases e1:op=sSum
  ·have h:¬ fam op=0:=hf.2 (by simp [e0,e1])
   replace e1:=eq_true e1
   simp only [↓rA,rB,buildOk,nt_is,simprocAttr,tbI63,Tryz.results46,e0,e1]
   exact ret_done (by simp [h])
  ·skip
   by_cases e2:op=sMean
   ·have h:¬ fam op=0:=hf.2 (by simp [e0,e1,e2])
    replace e2:=eq_true e2
    simp only [↓rA,rB,buildOk,nt_is,simprocAttr,tbI63,Tryz.results46,e0,e1,e2]
    exact ret_done (by simp [h])
   ·skip
    by_cases e3:op=sMin
    ·have h:¬ fam op=0:=hf.2 (by simp [e0,e1,e2,e3])
     replace e3:=eq_true e3
     simp only [↓rA,rB,buildOk,nt_is,simprocAttr,tbI63,Tryz.results46,e0,e1,e2,e3]
     exact ret_done (by simp [h])
    ·skip
     by_cases e4:op=sMax
     ·have h:¬ fam op=0:=hf.2 (by simp [e0,e1,e2,e3,e4])
      replace e4:=eq_true e4
      simp only [↓rA,rB,buildOk,nt_is,simprocAttr,tbI63,Tryz.results46,e0,e1,e2,e3,e4]
      exact ret_done (by simp [h])
     ·skip
      by_cases e5:op=sFirst
      ·have h:¬ fam op=0:=hf.2 (by simp [e0,e1,e2,e3,e4,e5])
       replace e5:=eq_true e5
       simp only [↓rA,rB,buildOk,nt_is,simprocAttr,tbI63,Tryz.results46,e0,e1,e2,e3,e4,e5]
       exact ret_done (by simp [h])
      ·skip
       by_cases e6:op=sLast
       ·have h:¬ fam op=0:=hf.2 (by simp [e0,e1,e2,e3,e4,e5,e6])
        replace e6:=eq_true e6
        simp only [↓rA,rB,buildOk,nt_is,simprocAttr,tbI63,Tryz.results46,e0,e1,e2,e3,e4,e5,e6]
        exact ret_done (by simp [h])
       ·skip
        by_cases e7:op=sDist
        ·have h:¬ fam op=0:=hf.2 (by simp [e0,e1,e2,e3,e4,e5,e6,e7])
         replace e7:=eq_true e7
         simp only [↓rA,rB,buildOk,nt_is,simprocAttr,tbI63,Tryz.results46,e0,e1,e2,e3,e4,e5,e6,e7]
         exact ret_done (by simp [h])
        ·skip
         by_cases e8:op=sQuant
         ·have h:¬ fam op=0:=hf.2 (by simp [e0,e1,e2,e3,e4,e5,e6,e7,e8])
          replace e8:=eq_true e8
          simp only [↓rA,rB,buildOk,nt_is,simprocAttr,tbI63,Tryz.results46,e0,e1,e2,e3,e4,e5,e6,e7,e8]
          exact ret_done (by simp [h])
         ·skip
          by_cases e9:op=sDecay
          ·have h:¬ fam op=0:=hf.2 (by simp [e0,e1,e2,e3,e4,e5,e6,e7,e8,e9])
           replace e9:=eq_true e9
           simp only [↓rA,rB,buildOk,nt_is,simprocAttr,tbI63,Tryz.results46,e0,e1,e2,e3,e4,e5,e6,e7,e8,e9]
           exact ret_done (by simp [h])
          ·skip
           have h:fam op=0:=Decidable.byContradiction fun h=>by have:=hf.1 h;simp [e0,e1,e2,e3,e4,e5,e6,e7,e8,e9] at this
           simp only [↓rA,rB,buildOk,nt_is,simprocAttr,tbI63,Tryz.results46,e0,e1,e2,e3,e4,e5,e6,e7,e8,e9]
           exact ret_done (by simp [h])
def tbI64:=(aI (aI Ty.c95 (aI Ty.t26 Ty.t28)) (aI (aI Ty.t3 Ty.t4) (aI Ty.t65 Ty.t9)))
theorem mark17_ok (op:Str) (p:Mk × Int):OkP Tryz.prog 117 [vstr op,.agg (cIt p)] (.agg (cIt (if fam op=4 then (zid,p.1.2) else p.1,0))):=by
 refine Ok.of_ex Ty.mixed Tryz.func117 rfl (by simp [Tryz.ntmps117]) (by kernel_rfl) fun F w0 I0=>?_
 simp only [↓rA,rB,buildOk,nt_is,simprocAttr,tbI64,Tryz.results117]
 refine fun b3 h3=>?_;replace h3:=newb h3;try simp only [Nb] at h3
 simp only [↓rA,rB,buildOk,nt_is,simprocAttr,tbI64,Tryz.results117,h3]
 refine fun b4 h4=>?_;replace h4:=newb h4;try simp only [Nb] at h4
 simp only [↓rA,rB,buildOk,nt_is,simprocAttr,tbI64,Tryz.results117,h3,h4]
 refine OkF_of _ (valued17_ok op) ?_
 by_cases h:fam op=4
 ·simp only [↓rA,rB,buildOk,nt_is,simprocAttr,tbI64,Tryz.results117,h3,h4,h]
  exact ret_done rfl
 ·simp only [↓rA,rB,buildOk,nt_is,simprocAttr,tbI64,Tryz.results117,h3,h4,h]
  exact ret_done rfl
def tbI65:=(aI (aI Ty.c71 (aI Ty.t26 Ty.t28)) (aI (aI Ty.t3 Ty.t4) (aI Ty.t65 Ty.t9)))
theorem cmp17_ok (a b:Mk × Int):OkP Tryz.prog 118 [.agg (cIt a),.agg (cIt b)] (vint (cmpMk a.1 b.1)):=by
 have hm:cmpMk a.1 b.1=if cmpS a.1.1.src b.1.1.src=0 then (if cmpI a.1.1.seq b.1.1.seq=0 then cmpVal a.1.2 b.1.2 else cmpI a.1.1.seq b.1.1.seq) else cmpS a.1.1.src b.1.1.src:=by
  unfold cmpMk;rw [orL_cons,orL2]
 rw [hm]
 refine Ok.of_ex Ty.mixed Tryz.func118 rfl (by simp [Tryz.ntmps118]) (by kernel_rfl) fun F w0 I0=>?_
 simp only [↓rA,rB,buildOk,nt_is,simprocAttr,tbI65,Tryz.results118]
 refine fun b1 h1=>?_;replace h1:=newb h1;try simp only [Nb] at h1
 simp only [↓rA,rB,buildOk,nt_is,simprocAttr,tbI65,Tryz.results118,h1]
 refine fun b2 h2=>?_;replace h2:=newb h2;try simp only [Nb] at h2
 simp only [↓rA,rB,buildOk,nt_is,simprocAttr,tbI65,Tryz.results118,h1,h2]
 by_cases he:a.1.1.src=b.1.1.src
 ·have hs:cmpS a.1.1.src b.1.1.src=0:=by rw [he];exact cmpS_refl _
  rw [if_pos hs]
  by_cases hq:a.1.1.seq=b.1.1.seq
  ·have hz:cmpI a.1.1.seq b.1.1.seq=0:=by rw [hq];simp [cmpI]
   rw [if_pos hz]
   replace he:=eq_true he
   simp only [↓rA,rB,buildOk,nt_is,simprocAttr,tbI65,Tryz.results118,h1,h2,he,hq]
   refine OkF_of _ (cmpVal05_ok a.1.2 b.1.2) ?_
   simp only [↓rA,rB,buildOk,nt_is,simprocAttr,tbI65,Tryz.results118,h1,h2]
   exact ret_done rfl
  ·by_cases hl:a.1.1.seq < b.1.1.seq
   ·have hz:cmpI a.1.1.seq b.1.1.seq=-1:=by simp [cmpI,hl]
    rw [if_neg (by rw [hz];decide),hz]
    replace he:=eq_true he
    simp only [↓rA,rB,buildOk,nt_is,simprocAttr,tbI65,Tryz.results118,h1,h2,he,hq,hl]
    exact ret_done rfl
   ·have hz:cmpI a.1.1.seq b.1.1.seq=1:=by simp only [cmpI];rw [if_neg hl,if_pos (by omega)]
    rw [if_neg (by rw [hz];decide),hz]
    replace he:=eq_true he
    simp only [↓rA,rB,buildOk,nt_is,simprocAttr,tbI65,Tryz.results118,h1,h2,he,hq,hl]
    exact ret_done rfl
 ·cases hl:Op.bytesLess a.1.1.src.data.toList b.1.1.src.data.toList
  ·have hz:=cmpS_gt hl he
   rw [if_neg (by rw [hz];decide),hz]
   simp only [↓rA,rB,buildOk,nt_is,simprocAttr,tbI65,Tryz.results118,h1,h2,he,hl]
   exact ret_done rfl
  ·have hz:=cmpS_lt hl
   rw [if_neg (by rw [hz];decide),hz]
   simp only [↓rA,rB,buildOk,nt_is,simprocAttr,tbI65,Tryz.results118,h1,h2,he,hl]
   exact ret_done rfl
end Go.Proofs.YtjdggbanifineaaGreat
set_option linter.unusedSimpArgs false
set_option maxRecDepth 100000
set_option linter.defProp false
namespace Go.Ar
open Go.VL Go.Sg Go.Lo
abbrev mkF (op:Str) (q:Mk):Mk:=if fam op=4 then (zid,q.2) else q
theorem mkF_l {op:Str} {l:Its} (hz:fam op=4→∀ p ∈ l,p.1.1=zid) {i:Nat} (h:i < l.length):mkF op l[i].1=l[i].1:=by
 unfold mkF
 split
 ·rename_i h4
  have:=hz h4 _ (List.getElem_mem h)
  rw [← this]
 ·rfl
theorem mk_eq (a b:Mk):(decide (a.2.kind=b.2.kind) && (decide (a.2.n=b.2.n) && (decide (a.2.s=b.2.s) && (decide (a.1.src=b.1.src) && decide (a.1.seq=b.1.seq)))))=decide (a=b):=by
 obtain⟨⟨s,q⟩,⟨k,n,t⟩⟩:=a
 obtain⟨⟨s',q'⟩,⟨k',n',t'⟩⟩:=b
 rw [Bool.eq_iff_iff]
 simp only [Bool.and_eq_true,decide_eq_true_eq,Prod.mk.injEq,FID.mk.injEq,Val.mk.injEq]
 constructor
 ·rintro⟨h1,h2,h3,h4,h5⟩
  exact⟨⟨h4,h5⟩,h1,h2,h3⟩
 ·rintro⟨⟨h4,h5⟩,h1,h2,h3⟩
  exact⟨h1,h2,h3,h4,h5⟩
theorem take_drop (l:Its) (d k:Nat) (h:d+k < l.length):(l.drop d).take (k+1)=(l.drop d).take k++[l[d+k]]:=by
 rw [List.take_succ_eq_append_getElem (by rw [List.length_drop];omega),List.getElem_drop]
def outS (l mid:Its) (c d i:Nat):Its:=if i≤c then l.take i else l.take c++mid++(l.drop d).take (i - d)
theorem outS_lt {l mid:Its} {c d i:Nat} (hi:i < l.length) (h:i < c):outS l mid c d (i+1)=outS l mid c d i++[l[i]]:=by
 unfold outS
 rw [if_pos (by omega),if_pos (by omega),List.take_succ_eq_append_getElem hi]
theorem outS_gt {l mid:Its} {c d i:Nat} (hi:i < l.length) (h:c < i) (hd:d≤i):outS l mid c d (i+1)=outS l mid c d i++[l[i]]:=by
 unfold outS
 have e:=take_drop l d (i - d) (by omega)
 have e2:i - d+1=i+1 - d:=by omega
 have e3:d+(i - d)=i:=by omega
 rw [if_neg (by omega),if_neg (by omega),← e2,e]
 simp only [e3,List.append_assoc]
theorem outS_at (l mid:Its) (c d:Nat):outS l mid c d c=l.take c:=if_pos (Nat.le_refl c)
theorem outS_c (l mid:Its) {c:Nat} (hc:c < l.length):outS l mid c c (c+1)=outS l mid c c c++mid++[l[c]]:=by
 have e:=take_drop l c 0 (by omega)
 unfold outS
 rw [if_neg (by omega),if_pos (Nat.le_refl c),show c+1 - c=0+1 by omega,e]
 simp
theorem outS_c1 (l mid:Its) (c:Nat):outS l mid c (c+1) (c+1)=outS l mid c (c+1) c++mid:=by
 unfold outS
 rw [if_neg (by omega),if_pos (Nat.le_refl c)]
 simp
theorem outS_end {l mid:Its} {c d:Nat} (h:c < l.length):outS l mid c d l.length=l.take c++mid++l.drop d:=by
 unfold outS
 rw [if_neg (by omega),List.take_of_length_le (l:=l.drop d) (by rw [List.length_drop];omega)]
theorem outS_len {l mid:Its} {c d i:Nat} (hi:i≤l.length) (hm:mid.length≤1) (hd:c≤d):(outS l mid c d i).length≤i+1:=by
 unfold outS
 split
 ·rw [List.length_take];omega
 ·rw [List.length_append,List.length_append,List.length_take,List.length_take,List.length_drop];omega
structure Split (l:Its) (m:Mk) (c:Nat) (hit:Bool):Prop where
 le:c≤l.length
 hlt:hit=true→c < l.length
 eq:∀ i (h:i < l.length),l[i].1=m↔hit=true∧i=c
 gt:∀ i (h:i < l.length),0 < cmpMk l[i].1 m↔(if hit=true then c+1 else c)≤i
 put:∀ n:Int,¬ n=0→put ordM addW m n l=l.take c++(if hit=true then (if IntKind.i64.wrap ((l.getD c ((zid,⟨0,0,⟨#[]⟩⟩),0)).2+n)=0 then [] else [(m,IntKind.i64.wrap ((l.getD c ((zid,⟨0,0,⟨#[]⟩⟩),0)).2+n))]) else [(m,n)])++l.drop (if hit=true then c+1 else c)
end Go.Ar
namespace Go.Proofs.YtjdggbanifineaaGreat
open Go.VL Go.Ar Go.Sg Go.Lo Go.Proofs.YtjdggbanifineaaGreat Go.Proofs.YtjdggbanifineaaGreat.Arr
def tbI70:=(aI (aI (aI Ty.c117 Ty.c118) (aI Ty.t26 Ty.t28)) (aI (aI Ty.t3 Ty.t4) (aI Ty.t52 (aI Ty.t65 Ty.t9))))
set_option maxHeartbeats 1000000 in
theorem put17_ok (op:Str) (l:Its) (hz:fam op=4→∀ p ∈ l,p.1.1=zid) (p:Mk × Int) (hl:l.length≤100000) (c:Nat) (hit:Bool) (hsp:Split l (mkF op p.1) c hit) (hn:¬ p.2=0):OkP Tryz.prog 97 [vstr op,vIts l,.agg (cIt p)] (vIts (put ordM addW (mkF op p.1) p.2 l)):=by
 rw [hsp.put p.2 hn]
 have hm:OkP Tryz.prog 117 [vstr op,.agg (cIt p)] (.agg (cIt (mkF op p.1,0))):=mark17_ok op p
 obtain⟨s1,s2,s3,s4,_⟩:=hsp
 generalize mkF op p.1=m at *
 refine Ok.of_ex Ty.mixed Tryz.func97 rfl (by simp [Tryz.ntmps97]) (by kernel_rfl) fun F w0 I0=>?_
 simp only [↓rA,rB,buildOk,nt_is,simprocAttr,tbI70,Tryz.results97]
 refine fun b5 h5=>?_;replace h5:=newb h5;try simp only [Nb] at h5
 simp only [↓rA,rB,buildOk,nt_is,simprocAttr,tbI70,Tryz.results97,h5]
 refine OkF_of _ hm ?_
 simp only [↓rA,rB,buildOk,nt_is,simprocAttr,tbI70,Tryz.results97,h5]
 refine fun b7 h7=>?_;replace h7:=newb h7;try simp only [Nb] at h7
 simp only [↓rA,rB,buildOk,nt_is,simprocAttr,tbI70,Tryz.results97,h5,h7]
 refine EX_forS Ty.mixed (by kernel_rfl) l.length (fun j S=>S.boxes=[(b7,.c (cIt (m,0))),(b5,.c (cIt p))]∧S.rows=[]∧S.σ 0=vstr op∧S.σ 1=vIts l∧S.σ 5=ptr b5∧S.σ 7=ptr b7∧S.σ 8=vint (if hit=true∧l.length - j≤c then c else -1)∧S.σ 9=vint (max (l.length - j) (if hit=true then c+1 else c):Nat)∧S.σ 10=vint ((l.length:Int) - 1 - j)) ⟨_,_,List.Sublist.refl _,List.Sublist.refl _,?_⟩ (fun j S hj ⟨gb,gr,g0,g1,g5,g7,g8,g9,g10⟩=>?_) (fun S ⟨gb,gr,g0,g1,g5,g7,g8,g9,g10⟩=>?_)
 ·simp only [↓rA,rB,buildOk,nt_is,simprocAttr,tbI70,Tryz.results97,h5,h7,List.length_map]
  refine⟨?_,?_,?_⟩
  ·rw [if_neg (fun h=>by have:=s2 h.1;omega)]
  ·rw [Nat.max_eq_left (by split <;> first | (rename_i h;have:=s2 h;omega) | omega)]
  ·rw [wrap_id (by omega) (by omega)]
   simp
 ·obtain⟨i,hi,e1⟩:∃ i,i < l.length∧l.length - j=i+1:=⟨l.length - j - 1,by omega,by omega⟩
  have e2:(l.length:Int) - 1 - j=(i:Int):=by omega
  have e3:l.length - (j+1)=i:=by omega
  have e4:(l.length:Int) - 1 - ((j+1:Nat):Int)=(i:Int) - 1:=by omega
  have hi0:0≤(i:Int):=Int.natCast_nonneg i
  have w1:=wrap_id (n:=(i:Int) - 1) (by omega) (by omega)
  rw [e1] at g8 g9
  rw [e2] at g10
  rw [e3,e4]
  have hgl:(l.map cIt).getD i []=cIt l[i]:=getD_map _ _ _ hi
  have hmk:OkP Tryz.prog 117 [vstr op,.agg (cIt l[i])] (.agg (cIt (mkF op l[i].1,0))):=mark17_ok op l[i]
  rw [mkF_l hz hi] at hmk
  have q3:=s3 i hi
  have q4:=s4 i hi
  have hcmp:=cmp17_ok (l[i].1,0) (m,0)
  simp only [↓rA,rB,buildOk,nt_is,simprocAttr,tbI70,Tryz.results97,gb,gr,g0,g1,g5,g7,g8,g9,g10,h5,h7,hi0,hi,hgl,Int.ofNat_lt,List.length_map]
  refine CallV_of _ hmk.v ?_
  simp only [↓rA,rB,buildOk,nt_is,simprocAttr,tbI70,Tryz.results97,gb,gr,g0,g1,g5,g7,g8,g9,g10,h5,h7,hi0,hi,hgl,Int.ofNat_lt,List.length_map]
  have hb:=mk_eq l[i].1 m
  rw [hb]
  by_cases he:l[i].1=m
  ·have h1:=q3.1 he
   have v8:(if hit=true∧i≤c then (c:Int) else -1)=(i:Int):=by rw [if_pos ⟨h1.1,by omega⟩,h1.2]
   rw [v8]
   by_cases hg:0 < cmpMk l[i].1 m
   ·have:=q4.1 hg
    rw [if_pos h1.1] at this
    omega
   ·have h2:=mt q4.2 hg
    have v9:max i (if hit=true then c+1 else c)=max (i+1) (if hit=true then c+1 else c):=by omega
    rw [v9]
    rw [decide_eq_true he]
    simp only [↓rA,rB,buildOk,nt_is,simprocAttr,tbI70,Tryz.results97,gb,gr,g0,g1,g5,g7,g8,g9,g10,h5,h7,hi0,hi,hgl,Int.ofNat_lt,List.length_map]
    refine CallV_of _ hmk.v ?_
    simp only [↓rA,rB,buildOk,nt_is,simprocAttr,tbI70,Tryz.results97,gb,gr,g0,g1,g5,g7,g8,g9,g10,h5,h7,hi0,hi,hgl,Int.ofNat_lt,List.length_map]
    refine CallV_of _ hcmp.v ?_
    simp only [↓rA,rB,buildOk,nt_is,simprocAttr,tbI70,Tryz.results97,gb,gr,g0,g1,g5,g7,g8,g9,g10,h5,h7,hi0,hi,hgl,hg,w1,Int.ofNat_lt,List.length_map]
    refine⟨[(b7,.c (cIt (m,0))),(b5,.c (cIt p))],[],?_,List.nil_sublist _,?_⟩
    ·simp only [↓rA,rB,buildOk,nt_is,simprocAttr,tbI70,Tryz.results97,gb]
     exact List.Sublist.refl _
    ·simp only [↓rA,rB,buildOk,nt_is,simprocAttr,tbI70,Tryz.results97,gb,gr,g0,g1,g5,g7,g8,g9,g10]
     try rfl
  ·have h1:=mt q3.2 he
   have v8:(if hit=true∧i≤c then (c:Int) else -1)=(if hit=true∧i+1≤c then (c:Int) else -1):=by
    by_cases hh:hit=true∧i≤c
    ·have:¬ i=c:=fun h=>h1 ⟨hh.1,h⟩
     rw [if_pos hh,if_pos ⟨hh.1,by omega⟩]
    ·rw [if_neg hh,if_neg (fun h=>hh ⟨h.1,by omega⟩)]
   rw [v8]
   rw [decide_eq_false he]
   by_cases hg:0 < cmpMk l[i].1 m
   ·have h2:=q4.1 hg
    have v9:max i (if hit=true then c+1 else c)=i:=by omega
    rw [v9]
    simp only [↓rA,rB,buildOk,nt_is,simprocAttr,tbI70,Tryz.results97,gb,gr,g0,g1,g5,g7,g8,g9,g10,h5,h7,hi0,hi,hgl,Int.ofNat_lt,List.length_map]
    refine CallV_of _ hmk.v ?_
    simp only [↓rA,rB,buildOk,nt_is,simprocAttr,tbI70,Tryz.results97,gb,gr,g0,g1,g5,g7,g8,g9,g10,h5,h7,hi0,hi,hgl,Int.ofNat_lt,List.length_map]
    refine CallV_of _ hcmp.v ?_
    simp only [↓rA,rB,buildOk,nt_is,simprocAttr,tbI70,Tryz.results97,gb,gr,g0,g1,g5,g7,g8,g9,g10,h5,h7,hi0,hi,hgl,hg,w1,Int.ofNat_lt,List.length_map]
    refine⟨[(b7,.c (cIt (m,0))),(b5,.c (cIt p))],[],?_,List.nil_sublist _,?_⟩
    ·simp only [↓rA,rB,buildOk,nt_is,simprocAttr,tbI70,Tryz.results97,gb]
     exact List.Sublist.refl _
    ·simp only [↓rA,rB,buildOk,nt_is,simprocAttr,tbI70,Tryz.results97,gb,gr,g0,g1,g5,g7,g8,g9,g10]
     try rfl
   ·have h2:=mt q4.2 hg
    have v9:max i (if hit=true then c+1 else c)=max (i+1) (if hit=true then c+1 else c):=by omega
    rw [v9]
    simp only [↓rA,rB,buildOk,nt_is,simprocAttr,tbI70,Tryz.results97,gb,gr,g0,g1,g5,g7,g8,g9,g10,h5,h7,hi0,hi,hgl,Int.ofNat_lt,List.length_map]
    refine CallV_of _ hmk.v ?_
    simp only [↓rA,rB,buildOk,nt_is,simprocAttr,tbI70,Tryz.results97,gb,gr,g0,g1,g5,g7,g8,g9,g10,h5,h7,hi0,hi,hgl,Int.ofNat_lt,List.length_map]
    refine CallV_of _ hcmp.v ?_
    simp only [↓rA,rB,buildOk,nt_is,simprocAttr,tbI70,Tryz.results97,gb,gr,g0,g1,g5,g7,g8,g9,g10,h5,h7,hi0,hi,hgl,hg,w1,Int.ofNat_lt,List.length_map]
    refine⟨[(b7,.c (cIt (m,0))),(b5,.c (cIt p))],[],?_,List.nil_sublist _,?_⟩
    ·simp only [↓rA,rB,buildOk,nt_is,simprocAttr,tbI70,Tryz.results97,gb]
     exact List.Sublist.refl _
    ·simp only [↓rA,rB,buildOk,nt_is,simprocAttr,tbI70,Tryz.results97,gb,gr,g0,g1,g5,g7,g8,g9,g10]
     try rfl
 ·rw [Nat.sub_self,Nat.zero_max] at g9
  rw [Nat.sub_self] at g8
  have e3:(l.length:Int) - 1 - l.length=-1:=by omega
  rw [e3] at g10
  cases hit
  ·simp only [Bool.false_eq_true,if_false,false_and] at g8 g9 ⊢
   simp only [↓rA,rB,buildOk,nt_is,simprocAttr,tbI70,Tryz.results97,gb,gr,g0,g1,g5,g7,g8,g9,g10,h5,h7,Int.reduceLE]
   refine AWP.nilRow 11 6 65 (by simp only [↓rA,rB,buildOk,nt_is,simprocAttr,tbI70,Tryz.results97]) (by decide) ?_
   refine EX_forS Ty.mixed (by kernel_rfl) l.length (fun i S=>(∃ y,S.rows=[⟨y,6,65⟩]∧S.σ 11=.list (some y) 6 ((outS l [(m,p.2)] c c i).map cIt))∧S.boxes=[(b7,.c (cIt (m,if i≤c then 0 else p.2))),(b5,.c (cIt p))]∧S.σ 1=vIts l∧S.σ 5=ptr b5∧S.σ 7=ptr b7∧S.σ 8=vint (-1)∧S.σ 9=vint c∧S.σ 12=vint i) ⟨_,_,List.Sublist.refl _,List.Sublist.refl _,?_⟩ (fun i S hi ⟨⟨y,gr,g11⟩,gb,g1,g5,g7,g8,g9,g12⟩=>?_) (fun S ⟨⟨y,gr,g11⟩,gb,g1,g5,g7,g8,g9,g12⟩=>?_)
   ·simp only [↓rA,rB,buildOk,nt_is,simprocAttr,tbI70,Tryz.results97,gb,gr,g1,g5,g7,g8,g9]
    exact⟨nilv,rfl,by simp [outS]⟩
   ·have hgl:(l.map cIt).getD i []=cIt l[i]:=getD_map _ _ _ hi
    have w1:=wrap_succ hi (by omega)
    have hne:¬ ((i:Int)=-1):=by omega
    have hol:=outS_len (l:=l) (mid:=[(m,p.2)]) (c:=c) (d:=c) (i:=i) (by omega) (by simp) (Nat.le_refl c)
    rcases Nat.lt_trichotomy i c with h | h | h
    ·have hic:¬ ((i:Int)=c):=by omega
     rw [outS_lt hi h,if_pos (show i+1≤c by omega)]
     rw [if_pos (show i≤c by omega)] at gb
     simp only [↓rA,rB,buildOk,nt_is,simprocAttr,tbI70,Tryz.results97,gb,gr,g1,g5,g7,g8,g9,g11,g12,h5,h7,Int.ofNat_lt,hi,hgl,hne,hic,List.length_map]
     refine fun b13 h13=>?_;replace h13:=newb h13;try simp only [Nb] at h13
     simp only [↓rA,rB,buildOk,nt_is,simprocAttr,tbI70,Tryz.results97,gb,gr,g1,g5,g7,g8,g9,g11,g12,h5,h7,h13,Int.ofNat_lt,hi,hgl,hne,hic,List.length_map]
     refine fun y1=>takeRF_2 ?_
     simp only [↓rA,rB,buildOk,nt_is,simprocAttr,tbI70,Tryz.results97,gb,gr,g1,g5,g7,g8,g9,g11,g12,h5,h7,h13,Int.ofNat_lt,hi,hgl,hne,hic,w1,List.length_map,List.length_append]
     refine⟨by omega,fun y2=>?_⟩
     refine⟨[(b7,.c (cIt (m,0))),(b5,.c (cIt p))],[⟨y2,6,65⟩],?_,List.Sublist.cons_cons _ (List.nil_sublist _),?_⟩
     ·simp only [↓rA,rB,buildOk,nt_is,simprocAttr,tbI70,Tryz.results97,gb]
      exact List.Sublist.cons _ (List.Sublist.refl _)
     ·simp only [↓rA,rB,buildOk,nt_is,simprocAttr,tbI70,Tryz.results97,gb,gr,g1,g5,g7,g8,g9,g11]
      exact⟨_,rfl,by rw [List.map_append];rfl⟩
    ·subst h
     rw [outS_c _ _ hi,if_neg (show ¬ i+1≤i by omega)]
     rw [if_pos (Nat.le_refl i)] at gb
     simp only [↓rA,rB,buildOk,nt_is,simprocAttr,tbI70,Tryz.results97,gb,gr,g1,g5,g7,g8,g9,g11,g12,h5,h7,Int.ofNat_lt,hi,hgl,hne,List.length_map]
     refine fun b13 h13=>?_;replace h13:=newb h13;try simp only [Nb] at h13
     simp only [↓rA,rB,buildOk,nt_is,simprocAttr,tbI70,Tryz.results97,gb,gr,g1,g5,g7,g8,g9,g11,g12,h5,h7,h13,Int.ofNat_lt,hi,hgl,hne,List.length_map]
     refine fun y1=>takeRF_2 ?_
     simp only [↓rA,rB,buildOk,nt_is,simprocAttr,tbI70,Tryz.results97,gb,gr,g1,g5,g7,g8,g9,g11,g12,h5,h7,h13,Int.ofNat_lt,hi,hgl,hne, w1,List.length_map,List.length_append]
     refine⟨by omega,fun y2=>?_⟩
     refine fun y3=>takeRF_2 ?_
     simp only [↓rA,rB,buildOk,nt_is,simprocAttr,tbI70,Tryz.results97,gb,gr,g1,g5,g7,g8,g9,g11,g12,h5,h7,h13,Int.ofNat_lt,hi,hgl,hne, w1,List.length_map,List.length_append]
     refine⟨by show (_+1+1) * _≤_;omega,fun y4=>?_⟩
     refine⟨[(b7,.c (cIt (m,p.2))),(b5,.c (cIt p))],[⟨y4,6,65⟩],?_,List.Sublist.cons_cons _ (List.nil_sublist _),?_⟩
     ·simp only [↓rA,rB,buildOk,nt_is,simprocAttr,tbI70,Tryz.results97,gb]
      exact List.Sublist.cons _ (List.Sublist.refl _)
     ·simp only [↓rA,rB,buildOk,nt_is,simprocAttr,tbI70,Tryz.results97,gb,gr,g1,g5,g7,g8,g9,g11]
      exact⟨_,rfl,by rw [List.map_append,List.map_append];rfl⟩
    ·have hic:¬ ((i:Int)=c):=by omega
     rw [outS_gt hi h (by omega),if_neg (show ¬ i+1≤c by omega)]
     rw [if_neg (show ¬ i≤c by omega)] at gb
     simp only [↓rA,rB,buildOk,nt_is,simprocAttr,tbI70,Tryz.results97,gb,gr,g1,g5,g7,g8,g9,g11,g12,h5,h7,Int.ofNat_lt,hi,hgl,hne,hic,List.length_map]
     refine fun b13 h13=>?_;replace h13:=newb h13;try simp only [Nb] at h13
     simp only [↓rA,rB,buildOk,nt_is,simprocAttr,tbI70,Tryz.results97,gb,gr,g1,g5,g7,g8,g9,g11,g12,h5,h7,h13,Int.ofNat_lt,hi,hgl,hne,hic,List.length_map]
     refine fun y1=>takeRF_2 ?_
     simp only [↓rA,rB,buildOk,nt_is,simprocAttr,tbI70,Tryz.results97,gb,gr,g1,g5,g7,g8,g9,g11,g12,h5,h7,h13,Int.ofNat_lt,hi,hgl,hne,hic,w1,List.length_map,List.length_append]
     refine⟨by omega,fun y2=>?_⟩
     refine⟨[(b7,.c (cIt (m,p.2))),(b5,.c (cIt p))],[⟨y2,6,65⟩],?_,List.Sublist.cons_cons _ (List.nil_sublist _),?_⟩
     ·simp only [↓rA,rB,buildOk,nt_is,simprocAttr,tbI70,Tryz.results97,gb]
      exact List.Sublist.cons _ (List.Sublist.refl _)
     ·simp only [↓rA,rB,buildOk,nt_is,simprocAttr,tbI70,Tryz.results97,gb,gr,g1,g5,g7,g8,g9,g11]
      exact⟨_,rfl,by rw [List.map_append];rfl⟩
   ·by_cases hcl:c=l.length
    ·subst hcl
     rw [outS_at] at g11
     rw [if_pos (Nat.le_refl _)] at gb
     simp only [↓rA,rB,buildOk,nt_is,simprocAttr,tbI70,Tryz.results97,gb,gr,g1,g5,g7,g8,g9,g11,g12,h5,h7,Int.ofNat_lt,Nat.lt_irrefl,List.length_map]
     refine fun y1=>takeRF_2 ?_
     simp only [↓rA,rB,buildOk,nt_is,simprocAttr,tbI70,Tryz.results97,gb,gr,g1,g5,g7,g8,g9,g11,g12,h5,h7,List.length_map]
     refine⟨by simp;omega,fun y2=>?_⟩
     exact⟨_,[],[],Le.list _ _ _,List.nil_sublist _,List.nil_sublist _,congrArg (V.list none 6) (by rw [List.drop_length,List.append_nil,List.map_append];rfl),rfl,rfl⟩
    ·have hcl':¬ ((c:Int)=l.length):=by omega
     rw [outS_end (by omega)] at g11
     simp only [↓rA,rB,buildOk,nt_is,simprocAttr,tbI70,Tryz.results97,gb,gr,g1,g5,g7,g8,g9,g11,g12,h5,h7,hcl',Int.ofNat_lt,Nat.lt_irrefl,List.length_map]
     exact⟨vIts _,[],[],Le.list _ _ _,List.nil_sublist _,List.nil_sublist _,rfl,rfl,rfl⟩
  ·have hcl:=s2 rfl
   have hgd:l.getD c ((zid,⟨0,0,⟨#[]⟩⟩),0)=l[c]:=by simp [List.getD,hcl]
   have hm1:l[c].1=m:=(s3 c hcl).2 ⟨rfl,rfl⟩
   simp only [Nat.zero_le,and_self,if_true] at g8 g9 ⊢
   rw [hgd]
   have hc0:¬ (c:Int) < 0:=by omega
   generalize hw:IntKind.i64.wrap (l[c].2+p.2)=w
   have hol:∀ i,i≤l.length→(outS l (if w=0 then [] else [(m,w)]) c (c+1) i).length≤i+1:=fun i hi=>outS_len hi (by split <;> simp) (Nat.le_succ c)
   have hend:=outS_end (mid:=if w=0 then [] else [(m,w)]) (d:=c+1) hcl
   generalize hmid:(if w=0 then [] else [(m,w)])=mid at *
   simp only [↓rA,rB,buildOk,nt_is,simprocAttr,tbI70,Tryz.results97,gb,gr,g0,g1,g5,g7,g8,g9,g10,h5,h7,Int.reduceLE]
   refine AWP.nilRow 11 6 65 (by simp only [↓rA,rB,buildOk,nt_is,simprocAttr,tbI70,Tryz.results97]) (by decide) ?_
   refine EX_forS Ty.mixed (by kernel_rfl) l.length (fun i S=>(∃ y,S.rows=[⟨y,6,65⟩]∧S.σ 11=.list (some y) 6 ((outS l mid c (c+1) i).map cIt))∧S.boxes=[(b7,.c (cIt (m,0))),(b5,.c (cIt p))]∧S.σ 1=vIts l∧S.σ 5=ptr b5∧S.σ 7=ptr b7∧S.σ 8=vint c∧S.σ 9=vint ((c+1:Nat):Int)∧S.σ 12=vint i) ⟨_,_,List.Sublist.refl _,List.Sublist.refl _,?_⟩ (fun i S hi ⟨⟨y,gr,g11⟩,gb,g1,g5,g7,g8,g9,g12⟩=>?_) (fun S ⟨⟨y,gr,g11⟩,gb,g1,g5,g7,g8,g9,g12⟩=>?_)
   ·simp only [↓rA,rB,buildOk,nt_is,simprocAttr,tbI70,Tryz.results97,gb,gr,g1,g5,g7,g8,g9]
    exact⟨nilv,rfl,by simp [outS]⟩
   ·have hgl:(l.map cIt).getD i []=cIt l[i]:=getD_map _ _ _ hi
    have w1:=wrap_succ hi (by omega)
    have hol:=hol i (by omega)
    rcases Nat.lt_trichotomy i c with h | h | h
    ·have hic:¬ ((i:Int)=c):=by omega
     rw [outS_lt hi h]
     simp only [↓rA,rB,buildOk,nt_is,simprocAttr,tbI70,Tryz.results97,gb,gr,g1,g5,g7,g8,g9,g11,g12,h5,h7,Int.ofNat_lt,hi,hgl,hc0,hic,w1,List.length_map]
     refine fun b13 h13=>?_;replace h13:=newb h13;try simp only [Nb] at h13
     simp only [↓rA,rB,buildOk,nt_is,simprocAttr,tbI70,Tryz.results97,gb,gr,g1,g5,g7,g8,g9,g11,g12,h5,h7,Int.ofNat_lt,hi,hgl,hc0,hic,w1,List.length_map,h13]
     refine fun y1=>takeRF_2 ?_
     simp only [↓rA,rB,buildOk,nt_is,simprocAttr,tbI70,Tryz.results97,gb,gr,g1,g5,g7,g8,g9,g11,g12,h5,h7,Int.ofNat_lt,hi,hgl,hc0,hic,w1,List.length_map,h13]
     refine⟨by omega,fun y2=>?_⟩
     refine⟨[(b7,.c (cIt (m,0))),(b5,.c (cIt p))],[⟨y2,6,65⟩],?_,List.Sublist.cons_cons _ (List.nil_sublist _),?_⟩
     ·simp only [↓rA,rB,buildOk,nt_is,simprocAttr,tbI70,Tryz.results97,gb]
      exact List.Sublist.cons _ (List.Sublist.refl _)
     ·simp only [↓rA,rB,buildOk,nt_is,simprocAttr,tbI70,Tryz.results97,gb,gr,g1,g5,g7,g8,g9,g11]
      exact⟨_,rfl,by rw [List.map_append];rfl⟩
    ·subst h
     rw [outS_c1]
     by_cases hw0:w=0
     ·rw [if_pos hw0] at hmid
      subst hmid
      rw [List.append_nil]
      simp only [↓rA,rB,buildOk,nt_is,simprocAttr,tbI70,Tryz.results97,gb,gr,g1,g5,g7,g8,g9,g11,g12,h5,h7,Int.ofNat_lt,hi,hgl,hc0,hw,hw0,w1,List.length_map]
      refine fun b13 h13=>?_;replace h13:=newb h13;try simp only [Nb] at h13
      simp only [↓rA,rB,buildOk,nt_is,simprocAttr,tbI70,Tryz.results97,gb,gr,g1,g5,g7,g8,g9,g11,g12,h5,h7,Int.ofNat_lt,hi,hgl,hc0,hw,hw0,w1,List.length_map,h13]
      refine⟨[(b7,.c (cIt (m,0))),(b5,.c (cIt p))],[⟨y,6,65⟩],?_,?_,?_⟩
      ·simp only [↓rA,rB,buildOk,nt_is,simprocAttr,tbI70,Tryz.results97,gb]
       exact List.Sublist.cons _ (List.Sublist.refl _)
      ·simp only [↓rA,rB,buildOk,nt_is,simprocAttr,tbI70,Tryz.results97,gr]
       exact List.Sublist.refl _
      ·simp only [↓rA,rB,buildOk,nt_is,simprocAttr,tbI70,Tryz.results97,gb,gr,g1,g5,g7,g8,g9,g11]
       exact⟨y,rfl,rfl⟩
     ·rw [if_neg hw0] at hmid
      subst hmid
      simp only [↓rA,rB,buildOk,nt_is,simprocAttr,tbI70,Tryz.results97,gb,gr,g1,g5,g7,g8,g9,g11,g12,h5,h7,Int.ofNat_lt,hi,hgl,hc0,hw,hw0,w1,List.length_map]
      refine fun b13 h13=>?_;replace h13:=newb h13;try simp only [Nb] at h13
      simp only [↓rA,rB,buildOk,nt_is,simprocAttr,tbI70,Tryz.results97,gb,gr,g1,g5,g7,g8,g9,g11,g12,h5,h7,Int.ofNat_lt,hi,hgl,hc0,hw,hw0,w1,List.length_map,h13]
      refine fun y1=>takeRF_2 ?_
      simp only [↓rA,rB,buildOk,nt_is,simprocAttr,tbI70,Tryz.results97,gb,gr,g1,g5,g7,g8,g9,g11,g12,h5,h7,h13,Int.ofNat_lt,hi,hgl,hc0,hw,hw0,w1,List.length_map]
      refine⟨by omega,fun y2=>?_⟩
      refine⟨[(b7,.c (cIt (m,0))),(b5,.c (cIt p))],[⟨y2,6,65⟩],?_,List.Sublist.cons_cons _ (List.nil_sublist _),?_⟩
      ·simp only [↓rA,rB,buildOk,nt_is,simprocAttr,tbI70,Tryz.results97,gb]
       exact List.Sublist.cons _ (List.Sublist.refl _)
      ·simp only [↓rA,rB,buildOk,nt_is,simprocAttr,tbI70,Tryz.results97,gb,gr,g1,g5,g7,g8,g9,g11]
       exact⟨_,rfl,by rw [List.map_append,← hm1];rfl⟩
    ·have hic:¬ ((i:Int)=c):=by omega
     rw [outS_gt hi h (by omega)]
     simp only [↓rA,rB,buildOk,nt_is,simprocAttr,tbI70,Tryz.results97,gb,gr,g1,g5,g7,g8,g9,g11,g12,h5,h7,Int.ofNat_lt,hi,hgl,hc0,hic,w1,List.length_map]
     refine fun b13 h13=>?_;replace h13:=newb h13;try simp only [Nb] at h13
     simp only [↓rA,rB,buildOk,nt_is,simprocAttr,tbI70,Tryz.results97,gb,gr,g1,g5,g7,g8,g9,g11,g12,h5,h7,Int.ofNat_lt,hi,hgl,hc0,hic,w1,List.length_map,h13]
     refine fun y1=>takeRF_2 ?_
     simp only [↓rA,rB,buildOk,nt_is,simprocAttr,tbI70,Tryz.results97,gb,gr,g1,g5,g7,g8,g9,g11,g12,h5,h7,Int.ofNat_lt,hi,hgl,hc0,hic,w1,List.length_map,h13]
     refine⟨by omega,fun y2=>?_⟩
     refine⟨[(b7,.c (cIt (m,0))),(b5,.c (cIt p))],[⟨y2,6,65⟩],?_,List.Sublist.cons_cons _ (List.nil_sublist _),?_⟩
     ·simp only [↓rA,rB,buildOk,nt_is,simprocAttr,tbI70,Tryz.results97,gb]
      exact List.Sublist.cons _ (List.Sublist.refl _)
     ·simp only [↓rA,rB,buildOk,nt_is,simprocAttr,tbI70,Tryz.results97,gb,gr,g1,g5,g7,g8,g9,g11]
      exact⟨_,rfl,by rw [List.map_append];rfl⟩
   ·rw [hend] at g11
    simp only [↓rA,rB,buildOk,nt_is,simprocAttr,tbI70,Tryz.results97,gb,gr,g1,g5,g7,g8,g9,g11,g12,h5,h7,hc0,Int.ofNat_lt,Nat.lt_irrefl,List.length_map]
    exact⟨vIts _,[],[],Le.list _ _ _,List.nil_sublist _,List.nil_sublist _,rfl,rfl,rfl⟩
end Go.Proofs.YtjdggbanifineaaGreat
set_option linter.unusedSimpArgs false
set_option maxRecDepth 100000
set_option linter.defProp false
namespace Go.Ar
open Go.VL Go.Sg Go.Lo
abbrev cI (n:Int):V:=vint n
def IntsAt (L:List Int) (v:V) (bs:List (Nat × B)):Prop :=
 (L=[]∧v=nilS∧bs=[])∨∃ b c rest,(L.length≤c∧rest.length=c - L.length)∧v=.lit (.slice (some ⟨b,0,none⟩) L.length c)∧bs=[(b,.c (L.map cI++rest))]
def dq (n:Int):Nat→Int
 | 0=>n
 | i+1=>dq n i / 65536
def dgs (n:Int):Nat→List Int
 | 0=>[]
 | i+1=>dgs n i++[dq n i % 65536]
theorem dgs_len (n:Int):∀ i,(dgs n i).length=i
 | 0=>rfl
 | i+1=>by simp [dgs,dgs_len n i]
theorem dq_pos {n:Int} (h:0≤n∧n < 18446744073709551616):∀ i,0≤dq n i∧dq n i < 18446744073709551616
 | 0=>h
 | i+1=>by have:=dq_pos h i;simp only [dq];omega
def digs (n:Int):List Int:=dgs (n % 18446744073709551616) 4++dgs (n / 18446744073709551616 % 18446744073709551616) 4
theorem IntsAt.one (b c:Nat) (n:Int) (h:1≤c):IntsAt [n] (.lit (.slice (some ⟨b,0,none⟩) 1 c)) [(b,.c ([[cI n]].flatten++anys ((c - 1) * 1)))] :=
 .inr ⟨b,c,anys (c - 1),⟨h,by simp [anys]⟩,rfl,by simp⟩
theorem IntsAt.more (L:List Int) (b c:Nat) (n:Int) (h:L.length+1≤c):IntsAt (L++[n]) (.lit (.slice (some ⟨b,0,none⟩) (L.length+1) c)) [(b,.c (L.map cI++[[cI n]].flatten++anys ((c - (L.length+1)) * 1)))]:=by
 have hl:(L++[n]).length=L.length+1:=by simp
 exact .inr ⟨b,c,anys (c - (L.length+1)),⟨by rw [hl];exact h,by rw [hl];simp [anys]⟩,by rw [hl],by simp⟩
end Go.Ar
namespace Go.Proofs.YtjdggbanifineaaGreat
open Go.VL Go.Ar Go.Sg Go.Lo Go.Proofs.YtjdggbanifineaaGreat Go.Proofs.YtjdggbanifineaaGreat.Arr
def tbI00:=(aI (aI Ty.t3 Ty.t4) (aI Ty.t49 Ty.t51))
theorem of01_ok (n:Int) (hn:inW n):OkP Tryz.prog 114 [vint n] (.agg (cW n)):=by
 unfold inW at hn
 have e:IntKind.u64.wrap n=n % 18446744073709551616:=by rw [IntKind.wrap_u64]
 refine Ok.of_ex Ty.mixed Tryz.func114 rfl (by simp [Tryz.ntmps114]) (by kernel_rfl) fun F w0 I0=>?_
 simp only [↓rA,rB,buildOk,nt_is,simprocAttr,tbI00,Tryz.results114]
 refine fun b2 h2=>?_;replace h2:=newb h2;try simp only [Nb] at h2
 by_cases h:n < 0
 ·have e2:n / 18446744073709551616=-1:=by omega
  simp only [↓rA,rB,buildOk,nt_is,simprocAttr,tbI00,Tryz.results114,h2,h,e]
  exact ret_done (by unfold cW;rw [e2])
 ·have e2:n / 18446744073709551616=0:=by omega
  simp only [↓rA,rB,buildOk,nt_is,simprocAttr,tbI00,Tryz.results114,h2,h,e]
  exact ret_done (by unfold cW;rw [e2])
def tbI01:=(aI (aI Ty.t3 Ty.t4) (aI Ty.t49 (aI Ty.t51 Ty.t91)))
theorem digits_ok (n:Int) (hn:inWide n):Ok Tryz.prog 110 [.agg (cW n)] [] fun v bs rs=>rs=[]∧∃ b c rest,8≤c∧v=.lit (.slice (some ⟨b,0,none⟩) 8 c)∧rest.length=c - 8∧bs=[(b,.c ((digs n).map (fun x=>vint x)++rest))]:=by
 unfold inWide at hn
 have hlo:=dq_pos (n:=n % 18446744073709551616) (by omega)
 have hhi:=dq_pos (n:=n / 18446744073709551616 % 18446744073709551616) (by omega)
 have e:IntKind.u64.wrap (n / 18446744073709551616)=n / 18446744073709551616 % 18446744073709551616:=by rw [IntKind.wrap_u64]
 unfold digs
 generalize n / 18446744073709551616 % 18446744073709551616=hi at *
 refine Ok.of_ex Ty.mixed Tryz.func110 rfl (by simp [Tryz.ntmps110]) (by kernel_rfl) fun F w0 I0=>?_
 simp only [↓rA,rB,buildOk,nt_is,simprocAttr,tbI01,Tryz.results110]
 refine fun b1 h1=>?_;replace h1:=newb h1;try simp only [Nb] at h1
 simp only [↓rA,rB,buildOk,nt_is,simprocAttr,tbI01,Tryz.results110,h1,e]
 generalize n % 18446744073709551616=lo at *
 refine EX_forP Ty.mixed (by kernel_rfl) 4 (fun i S=>IntsAt (dgs lo i) (S.σ 3) S.boxes∧S.rows=[]∧S.σ 4=vu (dq lo i)∧S.σ 5=vu hi∧S.σ 6=vint i) ⟨[],_,_,_,List.nil_sublist _,List.Sublist.refl _,List.Perm.refl _,List.Perm.refl _,?_⟩ (fun i S hi4 ⟨hW,gr,g4,g5,g6⟩=>?_) (fun S ⟨hW,gr,g4,g5,g6⟩=>?_)
 ·simp only [↓rA,rB,buildOk,nt_is,simprocAttr,tbI01,Tryz.results110,h1]
  exact⟨.inl ⟨rfl,rfl,rfl⟩,rfl⟩
 ·have hli:=dgs_len lo i
  have hq:=hlo i
  have w1:=wrap_id (n:=(i:Int)+1) (by omega) (by omega)
  have hi4':(i:Int) < 4:=by omega
  have hst:dgs lo (i+1)=dgs lo i++[dq lo i % 65536]:=rfl
  have hsq:dq lo (i+1)=dq lo i / 65536:=rfl
  rw [hst,hsq]
  generalize dgs lo i=L at hW hli ⊢
  generalize dq lo i=x at g4 hq ⊢
  have r1:x.tmod 65536=x % 65536:=Int.tmod_eq_emod_of_nonneg hq.1
  have r2:=wrap_id (n:=x % 65536) (by omega) (by omega)
  have r4:IntKind.u64.wrap (x / 65536)=x / 65536:=by rw [IntKind.wrap_u64];omega
  have r3:x.tdiv 65536=x / 65536:=Int.tdiv_eq_ediv_of_nonneg hq.1
  rcases hW with⟨rfl,g3,gb⟩ | ⟨b,c,rest,⟨q1,q2⟩,g3,gb⟩
  ·simp only [↓rA,rB,buildOk,nt_is,simprocAttr,tbI01,Tryz.results110,gb,gr,g3,g4,g5,g6,hi4',r1,r2]
   refine fun y=>Or2.r ?_
   simp only [↓rA,rB,buildOk,nt_is,simprocAttr,tbI01,Tryz.results110,gb,gr,g3,g4,g5,g6,hi4',r1,r2]
   refine fun b2 c2 hb2 hc2=>?_
   replace hb2:=newb hb2;try simp only [Nb] at hb2
   simp only [↓rA,rB,buildOk,nt_is,simprocAttr,tbI01,Tryz.results110,gb,gr,g3,g4,g5,g6,hi4',r1,r2,r3,r4,hb2,w1]
   refine⟨_,[],_,_,List.Sublist.refl _,List.nil_sublist _,List.Perm.refl _,List.Perm.refl _,?_⟩
   simp only [↓rA,rB,buildOk,nt_is,simprocAttr,tbI01,Tryz.results110,gb,gr,g3,g4,g5,g6]
   exact⟨IntsAt.one _ _ _ hc2,rfl⟩
  ·have hl1:(L.map cI++rest).length=c * 1:=by rw [List.length_append,List.length_map,q2];omega
   have hf1:List.take (L.length * 1) (L.map cI++rest)=L.map cI:=List.take_left' (by rw [List.length_map,Nat.mul_one])
   simp only [↓rA,rB,buildOk,nt_is,simprocAttr,tbI01,Tryz.results110,gb,gr,g3,g4,g5,g6,hi4',r1,r2]
   refine fun y=>Or2.r ?_
   simp only [↓rA,rB,buildOk,nt_is,simprocAttr,tbI01,Tryz.results110,gb,gr,g3,g4,g5,g6,hi4',r1,r2,remB]
   refine⟨⟨hl1,q1,by omega⟩,fun b2 c2 hb2 hc2=>?_⟩
   replace hb2:=newb hb2;try simp only [Nb] at hb2
   simp only [↓rA,rB,buildOk,nt_is,simprocAttr,tbI01,Tryz.results110,gb,gr,g3,g4,g5,g6,hi4',r1,r2,r3,r4,hb2,w1,remB,hf1]
   refine⟨_,[],_,_,List.Sublist.refl _,List.nil_sublist _,List.Perm.refl _,List.Perm.refl _,?_⟩
   simp only [↓rA,rB,buildOk,nt_is,simprocAttr,tbI01,Tryz.results110,gb,gr,g3,g4,g5,g6]
   exact⟨IntsAt.more L _ _ _ hc2,rfl⟩
 ·have hd4:(dgs lo 4).length=4:=dgs_len lo 4
  have hx4:¬ ((4:Nat):Int) < 4:=by decide
  generalize dgs lo 4=D at hW hd4 ⊢
  simp only [↓rA,rB,buildOk,nt_is,simprocAttr,tbI01,Tryz.results110,gr,g4,g5,g6,hx4]
  refine EX_forP Ty.mixed (by kernel_rfl) 4 (fun i S=>IntsAt (D++dgs hi i) (S.σ 3) S.boxes∧S.rows=[]∧S.σ 5=vu (dq hi i)∧S.σ 7=vint i) ⟨_,_,_,_,List.Sublist.refl _,List.Sublist.refl _,List.Perm.refl _,List.Perm.refl _,?_⟩ (fun i S hi4 ⟨hW,gr,g5,g7⟩=>?_) (fun S ⟨hW,gr,g5,g7⟩=>?_)
  ·simp only [↓rA,rB,buildOk,nt_is,simprocAttr,tbI01,Tryz.results110,gr,g5]
   exact⟨by rw [show dgs hi 0=[] from rfl,List.append_nil];exact hW,rfl⟩
  ·have hli:=dgs_len hi i
   have hq:=hhi i
   have w1:=wrap_id (n:=(i:Int)+1) (by omega) (by omega)
   have hi4':(i:Int) < 4:=by omega
   have hst:D++dgs hi (i+1)=(D++dgs hi i)++[dq hi i % 65536]:=by rw [List.append_assoc];rfl
   have hsq:dq hi (i+1)=dq hi i / 65536:=rfl
   have hlL:(D++dgs hi i).length=4+i:=by rw [List.length_append,hd4,hli]
   rw [hst,hsq]
   generalize D++dgs hi i=L at hW hlL ⊢
   generalize dq hi i=x at g5 hq ⊢
   have r1:x.tmod 65536=x % 65536:=Int.tmod_eq_emod_of_nonneg hq.1
   have r2:=wrap_id (n:=x % 65536) (by omega) (by omega)
   have r4:IntKind.u64.wrap (x / 65536)=x / 65536:=by rw [IntKind.wrap_u64];omega
   have r3:x.tdiv 65536=x / 65536:=Int.tdiv_eq_ediv_of_nonneg hq.1
   rcases hW with⟨rfl,g3,gb⟩ | ⟨b,c,rest,⟨q1,q2⟩,g3,gb⟩
   ·exact absurd hlL (by simp;omega)
   ·have hl1:(L.map cI++rest).length=c * 1:=by rw [List.length_append,List.length_map,q2];omega
    have hf1:List.take (L.length * 1) (L.map cI++rest)=L.map cI:=List.take_left' (by rw [List.length_map,Nat.mul_one])
    simp only [↓rA,rB,buildOk,nt_is,simprocAttr,tbI01,Tryz.results110,gb,gr,g3,g5,g7,hi4',r1,r2]
    refine fun y=>Or2.r ?_
    simp only [↓rA,rB,buildOk,nt_is,simprocAttr,tbI01,Tryz.results110,gb,gr,g3,g5,g7,hi4',r1,r2,remB]
    refine⟨⟨hl1,q1,by omega⟩,fun b2 c2 hb2 hc2=>?_⟩
    replace hb2:=newb hb2;try simp only [Nb] at hb2
    simp only [↓rA,rB,buildOk,nt_is,simprocAttr,tbI01,Tryz.results110,gb,gr,g3,g5,g7,hi4',r1,r2,r3,r4,hb2,w1,remB,hf1]
    refine⟨_,[],_,_,List.Sublist.refl _,List.nil_sublist _,List.Perm.refl _,List.Perm.refl _,?_⟩
    simp only [↓rA,rB,buildOk,nt_is,simprocAttr,tbI01,Tryz.results110,gb,gr,g3,g5,g7]
    exact⟨IntsAt.more L _ _ _ hc2,rfl⟩
  ·have hlL:(D++dgs hi 4).length=8:=by rw [List.length_append,hd4,dgs_len]
   generalize D++dgs hi 4=L at hW hlL ⊢
   rcases hW with⟨rfl,g3,gb⟩ | ⟨b,c,rest,⟨q1,q2⟩,g3,gb⟩
   ·cases hlL
   ·simp only [↓rA,rB,buildOk,nt_is,simprocAttr,tbI01,Tryz.results110,gb,gr,g3,g5,g7,hx4]
    exact⟨_,[_],[],Le.refl _,List.Sublist.refl _,List.nil_sublist _,rfl,b,c,rest,by omega,by rw [hlL],by omega,rfl⟩
end Go.Proofs.YtjdggbanifineaaGreat
set_option linter.unusedSimpArgs false
set_option maxRecDepth 100000
set_option linter.defProp false
namespace Go.Ar
open Go.VL Go.Sg Go.Lo
def cm (d:List Int):Nat→Int
 | 0=>0
 | i+1=>(d.getD i 0+cm d i) / 65536
def co (d:List Int):Nat→List Int
 | 0=>[]
 | i+1=>co d i++[(d.getD i 0+cm d i) % 65536]
theorem co_len (d:List Int):∀ i,(co d i).length=i
 | 0=>rfl
 | i+1=>by simp [co,co_len d i]
theorem cm_bd {d:List Int} (h:∀ i,-1099511627776≤d.getD i 0∧d.getD i 0≤1099511627776):∀ i,-1099511627776≤cm d i∧cm d i≤1099511627776
 | 0=>⟨by simp only [cm];omega,by simp only [cm];omega⟩
 | i+1=>by have:=cm_bd h i;have:=h i;simp only [cm];omega
theorem trem (s:Int):(s.tmod 65536 < 0→s % 65536=s.tmod 65536+65536∧s / 65536=s.tdiv 65536 - 1)∧(¬ s.tmod 65536 < 0→s % 65536=s.tmod 65536∧s / 65536=s.tdiv 65536)∧-65536 < s.tmod 65536∧s.tmod 65536 < 65536:=by
 rcases Int.le_total 0 s with h | h
 ·have e1:=Int.tmod_eq_emod_of_nonneg (b:=65536) h
  have e2:=Int.tdiv_eq_ediv_of_nonneg (b:=65536) h
  omega
 ·obtain⟨t,rfl⟩:∃ t,s=-t:=⟨-s,by omega⟩
  have e1:=Int.tmod_eq_emod_of_nonneg (a:=t) (b:=65536) (by omega)
  have e2:=Int.tdiv_eq_ediv_of_nonneg (a:=t) (b:=65536) (by omega)
  rw [Int.neg_tmod,Int.neg_tdiv]
  omega
theorem int_cells (L:List Int) (i:Nat) (hi:i < L.length) (rest:List V):∃ A B:List V,A.length=i * 1∧L.map cI++rest=A++(cI (L.getD i 0)::B):=by
 refine⟨(L.take i).map cI,(L.drop (i+1)).map cI++rest,by rw [List.length_map,List.length_take];omega,?_⟩
 have:L.getD i 0=L[i]:=by simp [List.getD,hi]
 have h2:L.map cI=(L.take i).map cI++(cI L[i]::(L.drop (i+1)).map cI):=by
  rw [← List.map_cons (f:=cI),← List.map_append,← List.drop_eq_getElem_cons hi,List.take_append_drop]
 rw [this]
 exact(congrArg (·++rest) h2).trans (by rw [List.append_assoc];rfl)
def mkD (d:List Int) (top:Nat):Nat→Int
 | 0=>0
 | j+1=>mkD d top j * 65536+d.getD (top - j) 0
theorem mkD_bd {d:List Int} (h:∀ i,0≤d.getD i 0∧d.getD i 0 < 65536) (top:Nat):∀ j,0≤mkD d top j∧mkD d top j < 65536 ^ j
 | 0=>⟨by simp [mkD],by simp [mkD]⟩
 | j+1=>by
  have h1:=mkD_bd h top j
  have h2:=h (top - j)
  simp only [mkD,Int.pow_succ]
  generalize (65536:Int) ^ j=p at *
  omega
theorem getD_ints (d:List Int) (i:Nat) (h:i < d.length):(d.map fun x=>[vint x]).getD i []=[vint (d.getD i 0)]:=by
 simp [List.getD,h]
end Go.Ar
namespace Go.Proofs.YtjdggbanifineaaGreat
open Go.VL Go.Ar Go.Sg Go.Lo Go.Proofs.YtjdggbanifineaaGreat Go.Proofs.YtjdggbanifineaaGreat.Arr
def tbI10:=(aI Ty.t3 (aI Ty.t4 Ty.t91))
theorem carry_ok (d:List Int) (hd:d.length=8) (hb:∀ i,-1099511627776≤d.getD i 0∧d.getD i 0≤1099511627776) (b c:Nat) (rest:List V) (hc:8≤c):Ok Tryz.prog 112 [.lit (.slice (some ⟨b,0,none⟩) 8 c)] [(b,.c (d.map cI++rest))] fun v bs rs=>v=vints (co d 8)∧bs=[]∧rs=[]:=by
 refine Ok.of_ex Ty.mixed Tryz.func112 rfl (by simp [Tryz.ntmps112]) (by kernel_rfl) fun F w0 I0=>?_
 simp only [↓rA,rB,buildOk,nt_is,Int.reduceEq,Int.reduceLE,Int.reduceLT,Int.reduceToNat,Nat.reduceAdd,Nat.reduceEqDiff,Nat.reduceLT,Nat.reduceLeDiff,Nat.reduceMul,Nat.reduceSub,reduceCtorEq,tbI10,Tryz.results112]
 refine AWP.nilRow 3 1 3 (by simp only [↓rA,rB,buildOk,nt_is,Int.reduceEq,Int.reduceLE,Int.reduceLT,Int.reduceToNat,Nat.reduceAdd,Nat.reduceEqDiff,Nat.reduceLT,Nat.reduceLeDiff,Nat.reduceMul,Nat.reduceSub,reduceCtorEq,tbI10,Tryz.results112]) (by decide) ?_
 refine EX_forS Ty.mixed (by kernel_rfl) 8 (fun i S=>(∃ y,S.rows=[⟨y,1,3⟩]∧S.σ 3=.list (some y) 1 ((co d i).map fun x=>[vint x]))∧S.boxes=[(b,.c (d.map cI++rest))]∧S.σ 0=.lit (.slice (some ⟨b,0,none⟩) 8 c)∧S.σ 4=vint (cm d i)∧S.σ 5=vint i) ⟨_,_,List.Sublist.refl _,List.Sublist.refl _,?_⟩ (fun i S hi ⟨⟨y,gr,g3⟩,gb,g0,g4,g5⟩=>?_) (fun S ⟨⟨y,gr,g3⟩,gb,g0,g4,g5⟩=>?_)
 ·simp only [↓rA,rB,buildOk,nt_is,Int.reduceEq,Int.reduceLE,Int.reduceLT,Int.reduceToNat,Nat.reduceAdd,Nat.reduceEqDiff,Nat.reduceLT,Nat.reduceLeDiff,Nat.reduceMul,Nat.reduceSub,reduceCtorEq,tbI10,Tryz.results112]
  exact⟨⟨nilv,rfl,rfl⟩,rfl⟩
 ·obtain⟨X,Y,hX,e⟩:=int_cells d i (by omega) rest
  have hcm:=cm_bd hb i
  have hbi:=hb i
  have hst:co d (i+1)=co d i++[(d.getD i 0+cm d i) % 65536]:=rfl
  have hsq:cm d (i+1)=(d.getD i 0+cm d i) / 65536:=rfl
  have hln:=co_len d i
  have w1:=wrap_id (n:=(i:Int)+1) (by omega) (by omega)
  have hi8:(i:Int) < 8:=by omega
  have n8:((8:Nat):Int)=8:=rfl
  have w2:=wrap_id (n:=d.getD i 0+cm d i) (by omega) (by omega)
  have ht:=trem (d.getD i 0+cm d i)
  rw [hst,hsq,e]
  rw [e] at gb
  generalize d.getD i 0=z at *
  generalize cm d i=m at *
  have w3:=wrap_id (n:=(z+m).tdiv 65536) (by omega) (by omega)
  by_cases hn:(z+m).tmod 65536 < 0
  ·have w4:=wrap_id (n:=(z+m).tmod 65536+65536) (by omega) (by omega)
   have w5:=wrap_id (n:=(z+m).tdiv 65536 - 1) (by omega) (by omega)
   simp only [↓rA,rB,buildOk,nt_is,Int.reduceEq,Int.reduceLE,Int.reduceLT,Int.reduceToNat,Nat.reduceAdd,Nat.reduceEqDiff,Nat.reduceLT,Nat.reduceLeDiff,Nat.reduceMul,Nat.reduceSub,reduceCtorEq,tbI10,Tryz.results112,gb,gr,g3,g0,g4,g5,hi8,n8,w1,w2,w3,w4,w5,hn,List.drop_left' hX]
   obtain⟨h1,h2⟩:=ht.1 hn
   refine fun y1=>takeRF_2 ?_
   simp only [↓rA,rB,buildOk,nt_is,Int.reduceEq,Int.reduceLE,Int.reduceLT,Int.reduceToNat,Nat.reduceAdd,Nat.reduceEqDiff,Nat.reduceLT,Nat.reduceLeDiff,Nat.reduceMul,Nat.reduceSub,reduceCtorEq,tbI10,Tryz.results112,gb,gr,g3,g0,g4,g5,hi8,n8,w1,w2,w3,w4,w5,hn,List.length_map,hln]
   refine⟨by omega,fun y2=>?_⟩
   refine⟨[(b,.c (X++cI z::Y))],[⟨y2,1,3⟩],?_,List.Sublist.cons_cons _ (List.nil_sublist _),⟨y2,rfl,?_⟩,rfl,?_⟩
   ·simp only [↓rA,rB,buildOk,nt_is,Int.reduceEq,Int.reduceLE,Int.reduceLT,Int.reduceToNat,Nat.reduceAdd,Nat.reduceEqDiff,Nat.reduceLT,Nat.reduceLeDiff,Nat.reduceMul,Nat.reduceSub,reduceCtorEq,tbI10,Tryz.results112,gb]
    exact List.Sublist.refl _
   ·rw [List.map_append]
    simp only [↓rA,rB,buildOk,nt_is,Int.reduceEq,Int.reduceLE,Int.reduceLT,Int.reduceToNat,Nat.reduceAdd,Nat.reduceEqDiff,Nat.reduceLT,Nat.reduceLeDiff,Nat.reduceMul,Nat.reduceSub,reduceCtorEq,tbI10,Tryz.results112,g3,h1]
   ·simp only [↓rA,rB,buildOk,nt_is,Int.reduceEq,Int.reduceLE,Int.reduceLT,Int.reduceToNat,Nat.reduceAdd,Nat.reduceEqDiff,Nat.reduceLT,Nat.reduceLeDiff,Nat.reduceMul,Nat.reduceSub,reduceCtorEq,tbI10,Tryz.results112,g0,g4,h2]
    rfl
  ·simp only [↓rA,rB,buildOk,nt_is,Int.reduceEq,Int.reduceLE,Int.reduceLT,Int.reduceToNat,Nat.reduceAdd,Nat.reduceEqDiff,Nat.reduceLT,Nat.reduceLeDiff,Nat.reduceMul,Nat.reduceSub,reduceCtorEq,tbI10,Tryz.results112,gb,gr,g3,g0,g4,g5,hi8,n8,w1,w2,w3,hn,List.drop_left' hX]
   obtain⟨h1,h2⟩:=ht.2.1 hn
   refine fun y1=>takeRF_2 ?_
   simp only [↓rA,rB,buildOk,nt_is,Int.reduceEq,Int.reduceLE,Int.reduceLT,Int.reduceToNat,Nat.reduceAdd,Nat.reduceEqDiff,Nat.reduceLT,Nat.reduceLeDiff,Nat.reduceMul,Nat.reduceSub,reduceCtorEq,tbI10,Tryz.results112,gb,gr,g3,g0,g4,g5,hi8,n8,w1,w2,w3,hn,List.length_map,hln]
   refine⟨by omega,fun y2=>?_⟩
   refine⟨[(b,.c (X++cI z::Y))],[⟨y2,1,3⟩],?_,List.Sublist.cons_cons _ (List.nil_sublist _),⟨y2,rfl,?_⟩,rfl,?_⟩
   ·simp only [↓rA,rB,buildOk,nt_is,Int.reduceEq,Int.reduceLE,Int.reduceLT,Int.reduceToNat,Nat.reduceAdd,Nat.reduceEqDiff,Nat.reduceLT,Nat.reduceLeDiff,Nat.reduceMul,Nat.reduceSub,reduceCtorEq,tbI10,Tryz.results112,gb]
    exact List.Sublist.refl _
   ·rw [List.map_append]
    simp only [↓rA,rB,buildOk,nt_is,Int.reduceEq,Int.reduceLE,Int.reduceLT,Int.reduceToNat,Nat.reduceAdd,Nat.reduceEqDiff,Nat.reduceLT,Nat.reduceLeDiff,Nat.reduceMul,Nat.reduceSub,reduceCtorEq,tbI10,Tryz.results112,g3,h1]
   ·simp only [↓rA,rB,buildOk,nt_is,Int.reduceEq,Int.reduceLE,Int.reduceLT,Int.reduceToNat,Nat.reduceAdd,Nat.reduceEqDiff,Nat.reduceLT,Nat.reduceLeDiff,Nat.reduceMul,Nat.reduceSub,reduceCtorEq,tbI10,Tryz.results112,g0,g4,h2]
    rfl
 ·have hx8:¬ ((8:Nat):Int) < 8:=by decide
  simp only [↓rA,rB,buildOk,nt_is,Int.reduceEq,Int.reduceLE,Int.reduceLT,Int.reduceToNat,Nat.reduceAdd,Nat.reduceEqDiff,Nat.reduceLT,Nat.reduceLeDiff,Nat.reduceMul,Nat.reduceSub,reduceCtorEq,tbI10,Tryz.results112,gb,gr,g3,g0,g4,g5,hx8]
  exact⟨vints (co d 8),[],[],Le.list _ _ _,List.nil_sublist _,List.nil_sublist _,rfl,rfl,rfl⟩
def tbI11:=(aI (aI Ty.t3 Ty.t4) (aI Ty.t49 (aI Ty.t51 Ty.t91)))
theorem make_ok (d:List Int) (hd:d.length=8) (hb:∀ i,0≤d.getD i 0∧d.getD i 0 < 65536):OkP Tryz.prog 111 [vints d] (.agg (cW (w128 (mkD d 3 4+18446744073709551616 * mkD d 7 4)))):=by
 refine Ok.of_ex Ty.mixed Tryz.func111 rfl (by simp [Tryz.ntmps111]) (by kernel_rfl) fun F w0 I0=>?_
 simp only [↓rA,rB,buildOk,nt_is,Int.reduceEq,Int.reduceLE,Int.reduceLT,Int.reduceToNat,Nat.reduceAdd,Nat.reduceEqDiff,Nat.reduceLT,Nat.reduceLeDiff,Nat.reduceMul,Nat.reduceSub,reduceCtorEq,tbI11,Tryz.results111]
 refine fun b2 h2=>?_;replace h2:=newb h2;try simp only [Nb] at h2
 simp only [↓rA,rB,buildOk,nt_is,Int.reduceEq,Int.reduceLE,Int.reduceLT,Int.reduceToNat,Nat.reduceAdd,Nat.reduceEqDiff,Nat.reduceLT,Nat.reduceLeDiff,Nat.reduceMul,Nat.reduceSub,reduceCtorEq,tbI11,Tryz.results111,h2]
 refine EX_forS Ty.mixed (by kernel_rfl) 4 (fun j S=>S.boxes=[(b2,.c [vint 0,vu 0])]∧S.rows=[]∧S.σ 0=vints d∧S.σ 2=ptr b2∧S.σ 3=vu (mkD d 3 j)∧S.σ 4=vu (mkD d 7 j)∧S.σ 5=vint (3 - (j:Int))) ⟨_,_,List.Sublist.refl _,List.Sublist.refl _,?_⟩ (fun j S hj ⟨gb,gr,g0,g2,g3,g4,g5⟩=>?_) (fun S ⟨gb,gr,g0,g2,g3,g4,g5⟩=>?_)
 ·simp only [↓rA,rB,buildOk,nt_is,Int.reduceEq,Int.reduceLE,Int.reduceLT,Int.reduceToNat,Nat.reduceAdd,Nat.reduceEqDiff,Nat.reduceLT,Nat.reduceLeDiff,Nat.reduceMul,Nat.reduceSub,reduceCtorEq,tbI11,Tryz.results111]
  exact⟨rfl,rfl,rfl⟩
 ·have hst:mkD d 3 (j+1)=mkD d 3 j * 65536+d.getD (3 - j) 0:=rfl
  have hsq:mkD d 7 (j+1)=mkD d 7 j * 65536+d.getD (7 - j) 0:=rfl
  have b3:=mkD_bd hb 3 j
  have b7:=mkD_bd hb 7 j
  have hp:(65536:Int) ^ j * 65536≤18446744073709551616:=by
   have:j=0∨j=1∨j=2∨j=3:=by omega
   rcases this with rfl | rfl | rfl | rfl <;> decide
  have e3:=getD_ints d (3 - j) (by omega)
  have e7:=getD_ints d (7 - j) (by omega)
  have h3:=hb (3 - j)
  have h7:=hb (7 - j)
  have k3:(3:Int) - j=((3 - j:Nat):Int):=by omega
  have k7:((3 - j:Nat):Int)+4=((7 - j:Nat):Int):=by omega
  have k8:3 - ((j+1:Nat):Int)=((3 - j:Nat):Int) - 1:=by omega
  have l3:3 - j < d.length:=by omega
  have l7:7 - j < d.length:=by omega
  have hj0:0≤((3 - j:Nat):Int):=Int.natCast_nonneg _
  have w1:=wrap_id (n:=((3 - j:Nat):Int) - 1) (by omega) (by omega)
  have w2:IntKind.i64.wrap (((3 - j:Nat):Int)+4)=((7 - j:Nat):Int):=by rw [← k7];exact wrap_id (by omega) (by omega)
  rw [hst,hsq,k8]
  rw [k3] at g5
  generalize d.getD (3 - j) 0=x3 at *
  generalize d.getD (7 - j) 0=x7 at *
  generalize mkD d 3 j=m3 at *
  generalize mkD d 7 j=m7 at *
  generalize (65536:Int) ^ j=p at *
  have u1:IntKind.u64.wrap (m3 * 65536)=m3 * 65536:=by rw [IntKind.wrap_u64];omega
  have u2:IntKind.u64.wrap (m7 * 65536)=m7 * 65536:=by rw [IntKind.wrap_u64];omega
  have u3:IntKind.u64.wrap x3=x3:=by rw [IntKind.wrap_u64];omega
  have u4:IntKind.u64.wrap x7=x7:=by rw [IntKind.wrap_u64];omega
  have u5:IntKind.u64.wrap (m3 * 65536+x3)=m3 * 65536+x3:=by rw [IntKind.wrap_u64];omega
  have u6:IntKind.u64.wrap (m7 * 65536+x7)=m7 * 65536+x7:=by rw [IntKind.wrap_u64];omega
  simp only [↓rA,rB,buildOk,nt_is,Int.reduceEq,Int.reduceLE,Int.reduceLT,Int.reduceToNat,Nat.reduceAdd,Nat.reduceEqDiff,Nat.reduceLT,Nat.reduceLeDiff,Nat.reduceMul,Nat.reduceSub,reduceCtorEq,tbI11,Tryz.results111,gb,gr,g0,g2,g3,g4,g5,hj0,l3,l7,w1,w2,e3,e7,Int.ofNat_lt,List.length_map,u1,u2,u3,u4,u5,u6]
  refine⟨[(b2,.c [vint 0,vu 0])],[],?_,List.nil_sublist _,?_⟩
  ·simp only [↓rA,rB,buildOk,nt_is,Int.reduceEq,Int.reduceLE,Int.reduceLT,Int.reduceToNat,Nat.reduceAdd,Nat.reduceEqDiff,Nat.reduceLT,Nat.reduceLeDiff,Nat.reduceMul,Nat.reduceSub,reduceCtorEq,tbI11,Tryz.results111,gb]
   exact List.Sublist.refl _
  ·simp only [↓rA,rB,buildOk,nt_is,Int.reduceEq,Int.reduceLE,Int.reduceLT,Int.reduceToNat,Nat.reduceAdd,Nat.reduceEqDiff,Nat.reduceLT,Nat.reduceLeDiff,Nat.reduceMul,Nat.reduceSub,reduceCtorEq,tbI11,Tryz.results111,gb,gr,g0,g2,g3]
 ·have hx:¬ (0:Int)≤3 - ((4:Nat):Int):=by decide
  have b3:=mkD_bd hb 3 4
  have b7:=mkD_bd hb 7 4
  simp only [↓rA,rB,buildOk,nt_is,Int.reduceEq,Int.reduceLE,Int.reduceLT,Int.reduceToNat,Nat.reduceAdd,Nat.reduceEqDiff,Nat.reduceLT,Nat.reduceLeDiff,Nat.reduceMul,Nat.reduceSub,reduceCtorEq,tbI11,Tryz.results111,gb,gr,g0,g2,g3,g4,g5,hx]
  have p4:(65536:Int) ^ 4=18446744073709551616:=by decide
  rw [p4] at b3 b7
  have e1:w128 (mkD d 3 4+18446744073709551616 * mkD d 7 4) / 18446744073709551616=IntKind.i64.wrap (mkD d 7 4):=by unfold w128;rw [IntKind.wrap_i64];omega
  have e2:w128 (mkD d 3 4+18446744073709551616 * mkD d 7 4) % 18446744073709551616=mkD d 3 4:=by unfold w128;omega
  refine ret_done ?_
  unfold cW
  rw [e1,e2]
end Go.Proofs.YtjdggbanifineaaGreat
set_option linter.unusedSimpArgs false
set_option maxRecDepth 100000
set_option linter.defProp false
namespace Go.Ar
open Go.VL Go.Sg Go.Lo
def valD:List Int→Int
 | []=>0
 | x::l=>x+65536 * valD l
theorem digs_val (n:Int):valD (digs n)=n % 340282366920938463463374607431768211456:=by
 simp only [digs,dgs,dq,List.nil_append,List.cons_append,valD]
 omega
theorem digs_len (n:Int):(digs n).length=8:=by simp [digs,dgs_len]
theorem digs_bd (n:Int):∀ i,0≤(digs n).getD i 0∧(digs n).getD i 0 < 65536:=fun i=>by
 simp only [digs,dgs,dq,List.nil_append,List.cons_append]
 match i with
 | 0 | 1 | 2 | 3 | 4 | 5 | 6 | 7=>simp only [List.getD_cons_zero,List.getD_cons_succ];omega
 | i+8=>simp
theorem co_bd (d:List Int):∀ n i,0≤(co d n).getD i 0∧(co d n).getD i 0 < 65536
 | 0,i=>by simp [co]
 | n+1,i=>by
  have ih:=co_bd d n i
  simp only [co,List.getD,List.getElem?_append]
  split
  ·exact ih
  ·match i - (co d n).length with
   | 0=>simp;omega
   | k+1=>simp
theorem mk_co {d:List Int} (hd:d.length=8):w128 (mkD (co d 8) 3 4+18446744073709551616 * mkD (co d 8) 7 4)=w128 (valD d):=by
 match d,hd with
 | [a,b,c,d,e,f,g,h],_ =>
  simp only [co,cm,mkD,valD,List.nil_append,List.cons_append,List.getD_cons_zero,List.getD_cons_succ,Nat.reduceSub,Nat.sub_zero]
  unfold w128
  omega
def upd (l:List Int) (i:Nat) (t:Int):List Int:=l.set i (l.getD i 0+t)
theorem upd_len (l:List Int) (i:Nat) (t:Int):(upd l i t).length=l.length:=by simp [upd]
theorem upd_val:∀ {l:List Int} {i:Nat} {t:Int},i < l.length→valD (upd l i t)=valD l+t * 65536 ^ i
 | x::l,0,t,_=>by simp [upd,valD];omega
 | x::l,i+1,t,h=>by
  have ih:=upd_val (l:=l) (i:=i) (t:=t) (by simpa using h)
  simp only [upd,List.set_cons_succ,List.getD_cons_succ,valD,Int.pow_succ] at ih ⊢
  rw [ih]
  grind
theorem upd_bd {l:List Int} {i:Nat} {t M N:Int} (h:∀ j,0≤l.getD j 0∧l.getD j 0≤M) (ht:0≤t∧t≤N):∀ j,0≤(upd l i t).getD j 0∧(upd l i t).getD j 0≤M+N:=fun j=>by
 have hj:=h j
 have hi:=h i
 unfold upd
 simp only [List.getD,List.getElem?_set] at *
 split
 ·split
  ·simp;omega
  ·simp;omega
 ·omega
theorem set_ints (L:List Int) (i:Nat) (hi:i < L.length) (v:Int) (rest:List V):List.take (i * 1) (L.map cI++rest)++[vint v]++List.drop (i * 1+1) (L.map cI++rest)=(L.set i v).map cI++rest:=by
 rw [Nat.mul_one,List.take_append_of_le_length (by simp;omega),List.drop_append_of_le_length (by simp;omega),← List.map_take,← List.map_drop,List.set_eq_take_append_cons_drop,if_pos hi]
 simp
def adS (x y:List Int):Nat→List Int
 | 0=>x
 | i+1=>upd (adS x y i) i (y.getD i 0)
theorem adS_len (x y:List Int):∀ i,(adS x y i).length=x.length
 | 0=>rfl
 | i+1=>by rw [adS,upd_len,adS_len x y i]
theorem valD_take:∀ (y:List Int) (i:Nat),valD (y.take (i+1))=valD (y.take i)+y.getD i 0 * 65536 ^ i
 | [],i=>by simp [valD]
 | x::y,0=>by simp [valD]
 | x::y,i+1=>by
  have ih:=valD_take y i
  simp only [List.take_succ_cons,valD,List.getD_cons_succ,Int.pow_succ] at ih ⊢
  rw [ih]
  grind
theorem adS_val {x y:List Int} (hx:x.length=8):∀ i,i≤8→valD (adS x y i)=valD x+valD (y.take i)
 | 0,_=>by simp [adS,valD]
 | i+1,h=>by
  rw [adS,upd_val (by rw [adS_len];omega),adS_val hx i (by omega),valD_take]
  omega
theorem adS_bd {x y:List Int} (hx:∀ j,0≤x.getD j 0∧x.getD j 0 < 65536) (hy:∀ j,0≤y.getD j 0∧y.getD j 0 < 65536):∀ i j,0≤(adS x y i).getD j 0∧(adS x y i).getD j 0≤65536+i * 65536
 | 0,j=>by have:=hx j;simp only [adS];omega
 | i+1,j=>by
  have:=upd_bd (i:=i) (t:=y.getD i 0) (N:=65536) (adS_bd hx hy i) (by have:=hy i;omega) j
  simp only [adS]
  omega
end Go.Ar
namespace Go.Proofs.YtjdggbanifineaaGreat
open Go.VL Go.Ar Go.Sg Go.Lo Go.Proofs.YtjdggbanifineaaGreat Go.Proofs.YtjdggbanifineaaGreat.Arr
def tbI20:=(aI (aI (aI Ty.c110 Ty.c111) (aI Ty.c112 Ty.t3)) (aI (aI Ty.t4 Ty.t49) (aI Ty.t51 Ty.t91)))
theorem add01_ok (a b:Int) (ha:inWide a) (hb:inWide b):OkP Tryz.prog 92 [.agg (cW a),.agg (cW b)] (.agg (cW (w128 (a+b)))):=by
 refine Ok.of_ex Ty.mixed Tryz.func92 rfl (by simp [Tryz.ntmps92]) (by kernel_rfl) fun F w0 I0=>?_
 simp only [↓rA,rB,buildOk,nt_is,simprocAttr,tbI20,Tryz.results92]
 refine fun b2 h2=>?_;replace h2:=newb h2;try simp only [Nb] at h2
 simp only [↓rA,rB,buildOk,nt_is,simprocAttr,tbI20,Tryz.results92,h2]
 refine fun b3 h3=>?_;replace h3:=newb h3;try simp only [Nb] at h3
 simp only [↓rA,rB,buildOk,nt_is,simprocAttr,tbI20,Tryz.results92,h2,h3]
 refine fun b4 h4=>?_;replace h4:=newb h4;try simp only [Nb] at h4
 have hh:=And.intro h2 (And.intro h3 h4)
 simp only [↓rA,rB,buildOk,nt_is,simprocAttr,tbI20,Tryz.results92,hh]
 refine OkF_withN [] _ (List.Perm.refl _) (digits_ok a ha) ?_
 rintro v bs rs ⟨rfl,bx,cx,rx,qx,rfl,qx2,rfl⟩ hnd
 simp only [List.map_cons,List.map_nil,List.cons_append,List.nil_append,List.nodup_cons,List.mem_cons,List.not_mem_nil,or_false,not_or,not_false_eq_true,List.nodup_nil,and_true] at hnd
 obtain⟨hx4,hx3,hx2⟩:=hnd.1
 clear hnd
 have hs:=And.intro (And.intro hx4 (Ne.symm hx4)) (And.intro (And.intro hx3 (Ne.symm hx3)) (And.intro hx2 (Ne.symm hx2)))
 simp only [↓rA,rB,buildOk,nt_is,simprocAttr,tbI20,Tryz.results92,hh,hs]
 refine OkF_withN [] _ (List.Perm.refl _) (digits_ok b hb) ?_
 rintro v bs rs ⟨rfl,bY,cY,rY,qY,rfl,qY2,rfl⟩ hnd
 simp only [List.map_cons,List.map_nil,List.cons_append,List.nil_append,List.nodup_cons,List.mem_cons,List.not_mem_nil,or_false,not_or,not_false_eq_true,List.nodup_nil,and_true] at hnd
 obtain⟨hyx,hy4,hy3,hy2⟩:=hnd.1
 clear hnd
 have ht:=And.intro (And.intro hyx (Ne.symm hyx)) (And.intro (And.intro hy4 (Ne.symm hy4)) (And.intro (And.intro hy3 (Ne.symm hy3)) (And.intro hy2 (Ne.symm hy2))))
 simp only [↓rA,rB,buildOk,nt_is,simprocAttr,tbI20,Tryz.results92,hh,hs,ht]
 have dva:=digs_val a
 have dvb:=digs_val b
 have dla:=digs_len a
 have dlb:=digs_len b
 have dba:=digs_bd a
 have dbb:=digs_bd b
 generalize digs a=x at *
 generalize digs b=y at *
 refine EX_forS Ty.mixed (by kernel_rfl) 8 (fun i S=>S.boxes=[(bY,.c (y.map cI++rY)),(bx,.c ((adS x y i).map cI++rx)),(b4,.c [vint 0,vu 0])]∧S.rows=[]∧S.σ 4=ptr b4∧S.σ 5=.lit (.slice (some ⟨bx,0,none⟩) 8 cx)∧S.σ 6=.lit (.slice (some ⟨bY,0,none⟩) 8 cY)∧S.σ 7=vint i) ⟨[_,_,_],_,List.Sublist.cons_cons _ (List.Sublist.cons_cons _ (List.Sublist.cons_cons _ (List.nil_sublist _))),List.Sublist.refl _,?_⟩ (fun i S hi ⟨gb,gr,g4,g5,g6,g7⟩=>?_) (fun S ⟨gb,gr,g4,g5,g6,g7⟩=>?_)
 ·simp only [↓rA,rB,buildOk,nt_is,simprocAttr,tbI20,Tryz.results92]
  rfl
 ·have hadl:(adS x y i).length=8:=by rw [adS_len,dla]
  have hadb:=adS_bd dba dbb i i
  have hyb:=dbb i
  have hst:adS x y (i+1)=(adS x y i).set i ((adS x y i).getD i 0+y.getD i 0):=rfl
  have hse:=set_ints (adS x y i) i (by omega) ((adS x y i).getD i 0+y.getD i 0) rx
  obtain⟨X,X',hX,eX⟩:=int_cells (adS x y i) i (by omega) rx
  obtain⟨Y,Y',hY,eY⟩:=int_cells y i (by omega) rY
  have hi8:(i:Int) < 8:=by omega
  have n8:((8:Nat):Int)=8:=rfl
  have w1:=wrap_id (n:=(i:Int)+1) (by omega) (by omega)
  have w2:=wrap_id (n:=(adS x y i).getD i 0+y.getD i 0) (by omega) (by omega)
  have dX:List.drop (i * 1) ((adS x y i).map cI++rx)=cI ((adS x y i).getD i 0)::X':=by rw [eX,List.drop_left' hX]
  have dY:List.drop (i * 1) (y.map cI++rY)=cI (y.getD i 0)::Y':=by rw [eY,List.drop_left' hY]
  rw [hst]
  simp only [↓rA,rB,buildOk,nt_is,simprocAttr,tbI20,Tryz.results92,gb,gr,g4,g5,g6,g7,hh,hs,ht,hi8,n8,w1,w2,dX,dY]
  refine⟨by rw [List.length_append,List.length_map,hadl];omega,[_,_,_],[],List.Sublist.refl _,List.nil_sublist _,?_⟩
  rw [← hse]
  simp only [↓rA,rB,buildOk,nt_is,simprocAttr,tbI20,Tryz.results92,gb,gr,g4,g5,g6]
  try rfl
 ·have hx8:¬ ((8:Nat):Int) < 8:=by decide
  simp only [↓rA,rB,buildOk,nt_is,simprocAttr,tbI20,Tryz.results92,gb,gr,g4,g5,g6,g7,hh,hs,ht,hx8]
  have hcb:∀ j,-1099511627776≤(adS x y 8).getD j 0∧(adS x y 8).getD j 0≤1099511627776:=fun j=>by have:=adS_bd dba dbb 8 j;omega
  refine OkF_with [_] [_,_] (List.Perm.swap _ _ _) (carry_ok (adS x y 8) (by rw [adS_len,dla]) hcb bx cx rx qx) ?_
  rintro v bs rs ⟨rfl,rfl,rfl⟩
  simp only [↓rA,rB,buildOk,nt_is,simprocAttr,tbI20,Tryz.results92,gb,gr,g4,g5,g6,g7,hh,hs,ht,hx8]
  refine OkF_of _ (make_ok (co (adS x y 8) 8) (co_len _ 8) (co_bd _ 8)) ?_
  rw [mk_co (by rw [adS_len,dla]),adS_val dla 8 (by omega),List.take_of_length_le (by omega)]
  have hfin:w128 (valD x+valD y)=w128 (a+b):=by rw [dva,dvb];unfold w128;omega
  rw [hfin]
  simp only [↓rA,rB,buildOk,nt_is,simprocAttr,tbI20,Tryz.results92,gb,gr,g4,g5,g6,g7,hh,hs,ht,hx8]
  exact ret_done rfl
end Go.Proofs.YtjdggbanifineaaGreat
set_option linter.unusedSimpArgs false
set_option maxRecDepth 100000
set_option linter.defProp false
namespace Go.Ar
open Go.VL Go.Sg Go.Lo
def scI (x y:List Int) (i:Nat) (l:List Int):Nat→List Int
 | 0=>l
 | k+1=>upd (scI x y i l k) (i+k) (x.getD i 0 * y.getD k 0)
def scO (x y:List Int):Nat→List Int
 | 0=>[0,0,0,0,0,0,0,0]
 | i+1=>scI x y i (scO x y i) (8 - i)
theorem scI_len (x y:List Int) (i:Nat) (l:List Int):∀ k,(scI x y i l k).length=l.length
 | 0=>rfl
 | k+1=>by rw [scI,upd_len,scI_len x y i l k]
theorem scO_len (x y:List Int):∀ i,(scO x y i).length=8
 | 0=>rfl
 | i+1=>by rw [scO,scI_len,scO_len x y i]
theorem prod_bd {a b:Int} (ha:0≤a∧a < 65536) (hb:0≤b∧b < 65536):0≤a * b∧a * b≤4294967296:=by
 refine⟨Int.mul_nonneg ha.1 hb.1,?_⟩
 have:=Int.mul_le_mul (a:=a) (b:=b) (c:=65536) (d:=65536) (by omega) (by omega) hb.1 (by omega)
 omega
theorem scI_bd {x y:List Int} (hx:∀ j,0≤x.getD j 0∧x.getD j 0 < 65536) (hy:∀ j,0≤y.getD j 0∧y.getD j 0 < 65536) (i:Nat) {l:List Int} {M:Int} (h:∀ j,0≤l.getD j 0∧l.getD j 0≤M):∀ k j,0≤(scI x y i l k).getD j 0∧(scI x y i l k).getD j 0≤M+k * 4294967296
 | 0,j=>by have:=h j;simp only [scI];omega
 | k+1,j=>by
  have:=upd_bd (i:=i+k) (scI_bd hx hy i h k) (prod_bd (hx i) (hy k)) j
  simp only [scI]
  omega
theorem scO_bd {x y:List Int} (hx:∀ j,0≤x.getD j 0∧x.getD j 0 < 65536) (hy:∀ j,0≤y.getD j 0∧y.getD j 0 < 65536):∀ i j,0≤(scO x y i).getD j 0∧(scO x y i).getD j 0≤i * 34359738368
 | 0,j=>by
  match j with
  | 0 | 1 | 2 | 3 | 4 | 5 | 6 | 7=>simp [scO]
  | j+8=>simp [scO]
 | i+1,j=>by
  have:=scI_bd hx hy i (scO_bd hx hy i) (8 - i) j
  simp only [scO]
  omega
theorem scI_val {x y:List Int} {i:Nat} {l:List Int} (hl:l.length=8):∀ k,i+k≤8→valD (scI x y i l k)=valD l+x.getD i 0 * 65536 ^ i * valD (y.take k)
 | 0,_=>by simp [scI,valD]
 | k+1,h=>by
  rw [scI,upd_val (by rw [scI_len];omega),scI_val hl k (by omega),valD_take,Int.pow_add]
  grind
theorem valD_app:∀ (a b:List Int),valD (a++b)=valD a+65536 ^ a.length * valD b
 | [],b=>by simp [valD]
 | x::a,b=>by
  have:=valD_app a b
  simp only [List.cons_append,valD,List.length_cons,Int.pow_succ]
  rw [this]
  grind
theorem scO_val {x y:List Int} (hy:y.length=8):∀ i,i≤8→∃ t,valD (scO x y i)=valD (x.take i) * valD y - 340282366920938463463374607431768211456 * t
 | 0,_=>⟨0,by simp [scO,valD]⟩
 | i+1,h=>by
  obtain⟨t,ht⟩:=scO_val (x:=x) hy i (by omega)
  refine⟨t+x.getD i 0 * valD (y.drop (8 - i)),?_⟩
  rw [scO,scI_val (scO_len x y i) (8 - i) (by omega),ht,valD_take]
  have h1:valD y=valD (y.take (8 - i))+65536 ^ (8 - i) * valD (y.drop (8 - i)):=by
   conv=>lhs;rw [← List.take_append_drop (8 - i) y,valD_app,List.length_take,Nat.min_eq_left (by omega)]
  have h2:(65536:Int) ^ i * 65536 ^ (8 - i)=340282366920938463463374607431768211456:=by
   rw [← Int.pow_add,show i+(8 - i)=8 by omega];decide
  rw [h1,← h2]
  grind
end Go.Ar
namespace Go.Proofs.YtjdggbanifineaaGreat
open Go.VL Go.Ar Go.Sg Go.Lo Go.Proofs.YtjdggbanifineaaGreat Go.Proofs.YtjdggbanifineaaGreat.Arr
def tbI30:=(aI (aI (aI Ty.c110 Ty.c111) (aI Ty.c112 Ty.c114)) (aI (aI Ty.t3 Ty.t4) (aI Ty.t49 (aI Ty.t51 Ty.t91))))
set_option maxHeartbeats 1000000 in
theorem scale01_ok (a n:Int) (ha:inWide a) (hn:inW n):OkP Tryz.prog 113 [.agg (cW a),vint n] (.agg (cW (w128 (a * n)))):=by
 have hnw:inWide n:=by unfold inW at hn;unfold inWide;omega
 refine Ok.of_ex Ty.mixed Tryz.func113 rfl (by simp [Tryz.ntmps113]) (by kernel_rfl) fun F w0 I0=>?_
 simp only [↓rA,rB,buildOk,nt_is,simprocAttr,tbI30,Tryz.results113]
 refine fun b2 h2=>?_;replace h2:=newb h2;try simp only [Nb] at h2
 simp only [↓rA,rB,buildOk,nt_is,simprocAttr,tbI30,Tryz.results113,h2]
 refine fun b4 h4=>?_;replace h4:=newb h4;try simp only [Nb] at h4
 have hh:=And.intro h2 h4
 simp only [↓rA,rB,buildOk,nt_is,simprocAttr,tbI30,Tryz.results113,hh]
 refine OkF_withN [] _ (List.Perm.refl _) (digits_ok a ha) ?_
 rintro v bs rs ⟨rfl,bx,cx,rx,qx,rfl,qx2,rfl⟩ hnd
 simp only [List.map_cons,List.map_nil,List.cons_append,List.nil_append,List.nodup_cons,List.mem_cons,List.not_mem_nil,or_false,not_or,not_false_eq_true,List.nodup_nil,and_true] at hnd
 obtain⟨hx4,hx2⟩:=hnd.1
 clear hnd
 have hs:=And.intro (And.intro hx4 (Ne.symm hx4)) (And.intro hx2 (Ne.symm hx2))
 simp only [↓rA,rB,buildOk,nt_is,simprocAttr,tbI30,Tryz.results113,hh,hs]
 refine OkF_of _ (of01_ok n hn) ?_
 simp only [↓rA,rB,buildOk,nt_is,simprocAttr,tbI30,Tryz.results113,hh,hs]
 refine OkF_withN [] _ (List.Perm.refl _) (digits_ok n hnw) ?_
 rintro v bs rs ⟨rfl,bY,cY,rY,qY,rfl,qY2,rfl⟩ hnd
 simp only [List.map_cons,List.map_nil,List.cons_append,List.nil_append,List.nodup_cons,List.mem_cons,List.not_mem_nil,or_false,not_or,not_false_eq_true,List.nodup_nil,and_true] at hnd
 obtain⟨hyx,hy4,hy2⟩:=hnd.1
 clear hnd
 have ht:=And.intro (And.intro hyx (Ne.symm hyx)) (And.intro (And.intro hy4 (Ne.symm hy4)) (And.intro hy2 (Ne.symm hy2)))
 have dva:=digs_val a
 have dvb:=digs_val n
 have dla:=digs_len a
 have dlb:=digs_len n
 have dba:=digs_bd a
 have dbb:=digs_bd n
 generalize digs a=x at *
 generalize digs n=y at *
 simp only [↓rA,rB,buildOk,nt_is,simprocAttr,tbI30,Tryz.results113,hh,hs,ht]
 refine fun bo ho=>?_;replace ho:=newb ho;try simp only [Nb] at ho
 obtain⟨oy,ox,o4,o2⟩:=ho
 have hp:=And.intro oy (And.intro ox o4)
 simp only [↓rA,rB,buildOk,nt_is,simprocAttr,tbI30,Tryz.results113,hh,hs,ht,hp]
 refine EX_forS Ty.mixed (by kernel_rfl) 8 (fun i S=>S.boxes=[(bo,.c ((scO x y i).map cI)),(bY,.c (y.map cI++rY)),(bx,.c (x.map cI++rx)),(b4,.c [vint 0,vu 0])]∧S.rows=[]∧S.σ 4=ptr b4∧S.σ 5=.lit (.slice (some ⟨bx,0,none⟩) 8 cx)∧S.σ 6=.lit (.slice (some ⟨bY,0,none⟩) 8 cY)∧S.σ 7=.lit (.slice (some ⟨bo,0,none⟩) 8 8)∧S.σ 8=vint i) ⟨[_,_,_,_],_,List.Sublist.cons_cons _ (List.Sublist.cons_cons _ (List.Sublist.cons_cons _ (List.Sublist.cons_cons _ (List.nil_sublist _)))),List.Sublist.refl _,?_⟩ (fun i S hi ⟨gb,gr,g4,g5,g6,g7,g8⟩=>?_) (fun S ⟨gb,gr,g4,g5,g6,g7,g8⟩=>?_)
 ·simp only [↓rA,rB,buildOk,nt_is,simprocAttr,tbI30,Tryz.results113]
  rfl
 ·have hst:scO x y (i+1)=scI x y i (scO x y i) (8 - i):=rfl
  have hi8:(i:Int) < 8:=by omega
  have n8:((8:Nat):Int)=8:=rfl
  have w1:=wrap_id (n:=(i:Int)+1) (by omega) (by omega)
  have hol:=scO_len x y i
  have hob:=scO_bd dba dbb i
  rw [hst]
  generalize scO x y i=O at *
  simp only [↓rA,rB,buildOk,nt_is,simprocAttr,tbI30,Tryz.results113,gb,gr,g4,g5,g6,g7,g8,hh,hs,ht,hp,hi8]
  refine EX_forS Ty.mixed (by kernel_rfl) (8 - i) (fun k S=>S.boxes=[(bo,.c ((scI x y i O k).map cI)),(bY,.c (y.map cI++rY)),(bx,.c (x.map cI++rx)),(b4,.c [vint 0,vu 0])]∧S.rows=[]∧S.σ 4=ptr b4∧S.σ 5=.lit (.slice (some ⟨bx,0,none⟩) 8 cx)∧S.σ 6=.lit (.slice (some ⟨bY,0,none⟩) 8 cY)∧S.σ 7=.lit (.slice (some ⟨bo,0,none⟩) 8 8)∧S.σ 8=vint i∧S.σ 9=vint k) ⟨_,_,List.Sublist.refl _,List.Sublist.refl _,?_⟩ (fun k S hk ⟨gb,gr,g4,g5,g6,g7,g8,g9⟩=>?_) (fun S ⟨gb,gr,g4,g5,g6,g7,g8,g9⟩=>?_)
  ·simp only [↓rA,rB,buildOk,nt_is,simprocAttr,tbI30,Tryz.results113,gb,gr,g4,g5,g6,g7,g8]
   rfl
  ·have hil:(scI x y i O k).length=8:=by rw [scI_len,hol]
   have hib:=scI_bd dba dbb i hob k (i+k)
   have hxb:=dba i
   have hyb:=dbb k
   have hpb:=prod_bd hxb hyb
   have hst:scI x y i O (k+1)=(scI x y i O k).set (i+k) ((scI x y i O k).getD (i+k) 0+x.getD i 0 * y.getD k 0):=rfl
   have hse:=set_ints (scI x y i O k) (i+k) (by omega) ((scI x y i O k).getD (i+k) 0+x.getD i 0 * y.getD k 0) []
   obtain⟨X,X',hX,eX⟩:=int_cells x i (by omega) rx
   obtain⟨Y,Y',hY,eY⟩:=int_cells y k (by omega) rY
   obtain⟨Z,Z',hZ,eZ⟩:=int_cells (scI x y i O k) (i+k) (by omega) []
   have hk8:((i+k:Nat):Int) < 8:=by omega
   have hk8':(k:Int) < 8:=by omega
   have hik:(i:Int)+k=((i+k:Nat):Int):=by omega
   have w2:=wrap_id (n:=(k:Int)+1) (by omega) (by omega)
   have w3:IntKind.i64.wrap ((i:Int)+k)=((i+k:Nat):Int):=by rw [hik];exact wrap_id (by omega) (by omega)
   have dX:List.drop (i * 1) (x.map cI++rx)=cI (x.getD i 0)::X':=by rw [eX,List.drop_left' hX]
   have dY:List.drop (k * 1) (y.map cI++rY)=cI (y.getD k 0)::Y':=by rw [eY,List.drop_left' hY]
   rw [List.append_nil] at eZ
   rw [List.append_nil,List.append_nil] at hse
   have dZ:List.drop ((i+k) * 1) ((scI x y i O k).map cI)=cI ((scI x y i O k).getD (i+k) 0)::Z':=by rw [eZ,List.drop_left' hZ]
   have w4:=wrap_id (n:=x.getD i 0 * y.getD k 0) (by omega) (by omega)
   have w5:=wrap_id (n:=(scI x y i O k).getD (i+k) 0+x.getD i 0 * y.getD k 0) (by omega) (by omega)
   rw [hst]
   simp only [↓rA,rB,buildOk,nt_is,simprocAttr,tbI30,Tryz.results113,gb,gr,g4,g5,g6,g7,g8,g9,hh,hs,ht,hp,hi8,hk8,hk8',n8,w2,w3,w4,w5,dX,dY,dZ]
   refine⟨by rw [List.length_map,hil];omega,[_,_,_,_],[],List.Sublist.refl _,List.nil_sublist _,?_⟩
   rw [← hse]
   simp only [↓rA,rB,buildOk,nt_is,simprocAttr,tbI30,Tryz.results113,gb,gr,g4,g5,g6,g7,g8]
   try rfl
  ·have hx8:¬ ((i+(8 - i):Nat):Int) < 8:=by omega
   have w3:IntKind.i64.wrap ((i:Int)+(8 - i:Nat))=((i+(8 - i):Nat):Int):=by rw [wrap_id (by omega) (by omega)];omega
   simp only [↓rA,rB,buildOk,nt_is,simprocAttr,tbI30,Tryz.results113,gb,gr,g4,g5,g6,g7,g8,g9,hx8,w3,w1]
   refine⟨[(bo,.c ((scI x y i O (8 - i)).map cI)),(bY,.c (y.map cI++rY)),(bx,.c (x.map cI++rx)),(b4,.c [vint 0,vu 0])],[],?_,List.nil_sublist _,?_⟩
   ·simp only [↓rA,rB,buildOk,nt_is,simprocAttr,tbI30,Tryz.results113,gb]
    exact List.Sublist.refl _
   ·simp only [↓rA,rB,buildOk,nt_is,simprocAttr,tbI30,Tryz.results113,gb,gr,g4,g5,g6,g7]
    try rfl
 ·have hx8:¬ ((8:Nat):Int) < 8:=by decide
  simp only [↓rA,rB,buildOk,nt_is,simprocAttr,tbI30,Tryz.results113,gb,gr,g4,g5,g6,g7,g8,hh,hs,ht,hp,hx8]
  have hcb:∀ j,-1099511627776≤(scO x y 8).getD j 0∧(scO x y 8).getD j 0≤1099511627776:=fun j=>by have:=scO_bd dba dbb 8 j;omega
  have hca:=carry_ok (scO x y 8) (scO_len _ _ 8) hcb bo 8 [] (by omega)
  rw [List.append_nil] at hca
  refine OkF_with [_] [_,_,_] (List.Perm.refl _) hca ?_
  rintro v bs rs ⟨rfl,rfl,rfl⟩
  simp only [↓rA,rB,buildOk,nt_is,simprocAttr,tbI30,Tryz.results113,gb,gr,g4,g5,g6,g7,hh,hs,ht,hx8]
  refine OkF_of _ (make_ok (co (scO x y 8) 8) (co_len _ 8) (co_bd _ 8)) ?_
  obtain⟨t,htv⟩:=scO_val (x:=x) dlb 8 (by omega)
  have hfin:w128 (valD (scO x y 8))=w128 (a * n):=by
   rw [htv,List.take_of_length_le (by omega),dva,dvb]
   have ea:=Int.mul_ediv_add_emod a 340282366920938463463374607431768211456
   have en:=Int.mul_ediv_add_emod n 340282366920938463463374607431768211456
   generalize a / 340282366920938463463374607431768211456=qa at *
   generalize n / 340282366920938463463374607431768211456=qn at *
   generalize a % 340282366920938463463374607431768211456=ra at *
   generalize n % 340282366920938463463374607431768211456=rn at *
   have e:a * n=ra * rn+340282366920938463463374607431768211456 * (qa * rn+ra * qn+340282366920938463463374607431768211456 * (qa * qn)):=by rw [← ea,← en];grind
   rw [e]
   generalize ra * rn=p
   generalize qa * rn+ra * qn+340282366920938463463374607431768211456 * (qa * qn)=q
   unfold w128
   omega
  rw [mk_co (scO_len _ _ 8),hfin]
  simp only [↓rA,rB,buildOk,nt_is,simprocAttr,tbI30,Tryz.results113,gb,gr,g4,g5,g6,g7,hh,hs,ht,hx8]
  exact ret_done rfl
def tbI31:=(aI (aI Ty.c113 Ty.c114) (aI Ty.t3 (aI Ty.t49 Ty.t51)))
theorem mul01_ok (v n:Int) (hv:inW v) (hn:inW n):OkP Tryz.prog 93 [vint v,vint n] (.agg (cW (w128 (v * n)))):=by
 have hvw:inWide v:=by unfold inW at hv;unfold inWide;omega
 refine Ok.of_ex Ty.mixed Tryz.func93 rfl (by simp [Tryz.ntmps93]) (by kernel_rfl) fun F w0 I0=>?_
 simp only [↓rA,rB,buildOk,nt_is,simprocAttr,tbI31,Tryz.results93]
 refine fun b4 h4=>?_;replace h4:=newb h4;try simp only [Nb] at h4
 simp only [↓rA,rB,buildOk,nt_is,simprocAttr,tbI31,Tryz.results93,h4]
 refine OkF_of _ (of01_ok v hv) ?_
 simp only [↓rA,rB,buildOk,nt_is,simprocAttr,tbI31,Tryz.results93,h4]
 refine OkF_of _ (scale01_ok v n hvw hn) ?_
 simp only [↓rA,rB,buildOk,nt_is,simprocAttr,tbI31,Tryz.results93,h4]
 exact ret_done rfl
end Go.Proofs.YtjdggbanifineaaGreat
set_option linter.unusedSimpArgs false
set_option maxRecDepth 100000
set_option linter.defProp false
namespace Go.Ar
open Go.VL Go.Sg Go.Lo
theorem split_list {K G:Type} [DecidableEq K] (O:Sg.Ord K) (m:K):∀ l:List (K × G),(l.Pairwise fun a b=>O.lt a.1 b.1=true)→∃ A R,l=A++R∧(∀ p ∈ A,O.lt p.1 m=true)∧((∃ a R',R=(m,a)::R'∧∀ p ∈ R',O.lt m p.1=true)∨∀ p ∈ R,O.lt m p.1=true)
 | [],_=>⟨[],[],rfl,fun _ h=>absurd h List.not_mem_nil,.inr fun _ h=>absurd h List.not_mem_nil⟩
 | p::l,h=>by
  obtain⟨h1,h2⟩:=List.pairwise_cons.1 h
  cases hx:O.lt p.1 m
  ·cases hy:O.lt m p.1
   ·have e:=O.tot hx hy
    exact⟨[],p::l,rfl,fun _ h=>absurd h List.not_mem_nil,.inl ⟨p.2,l,by rw [← e],fun q hq=>by rw [← e];exact h1 q hq⟩⟩
   ·refine⟨[],p::l,rfl,fun _ h=>absurd h List.not_mem_nil,.inr fun q hq=>?_⟩
    rcases List.mem_cons.1 hq with rfl | hq
    ·exact hy
    ·exact O.tr hy (h1 q hq)
  ·obtain⟨A,R,e,hA,hR⟩:=split_list O m l h2
   refine⟨p::A,R,by rw [e];rfl,fun q hq=>?_,hR⟩
   rcases List.mem_cons.1 hq with rfl | hq
   ·exact hx
   ·exact hA q hq
theorem gtMk {a m:Mk}:0 < cmpMk a m↔ordM.lt m a=true:=by
 show _↔decide (cmpMk m a < 0)=true
 rw [decide_eq_true_eq,pre_cmpMk.anti a m]
 omega
theorem ltMk_not {a m:Mk} (h:ordM.lt a m=true):¬ a=m∧¬ 0 < cmpMk a m:=⟨ordM.ne h,fun h'=>by have:=gtMk.1 h';rw [ordM.asym h] at this;cases this⟩
theorem split_ex {l:Its} (hc:Canon ordM addW l) (m:Mk):∃ c hit,Split l m c hit:=by
 obtain⟨A,R,rfl,hA,hR⟩:=split_list ordM m l hc.sorted
 have hA':∀ i (h:i < A.length),¬ A[i].1=m∧¬ 0 < cmpMk A[i].1 m:=fun i h=>ltMk_not (hA _ (List.getElem_mem h))
 rcases hR with⟨a,R',rfl,hR⟩ | hR
 ·have hR':∀ i (h:i < R'.length),¬ R'[i].1=m∧0 < cmpMk R'[i].1 m:=fun i h=>⟨fun e=>ordM.ne (hR _ (List.getElem_mem h)) e.symm,gtMk.2 (hR _ (List.getElem_mem h))⟩
  have hgc:(A++(m,a)::R').getD A.length ((zid,⟨0,0,⟨#[]⟩⟩),0)=(m,a):=by simp [List.getD]
  have cls:∀ i (h:i < (A++(m,a)::R').length),(i < A.length∧¬ (A++(m,a)::R')[i].1=m∧¬ 0 < cmpMk (A++(m,a)::R')[i].1 m)∨(i=A.length∧(A++(m,a)::R')[i].1=m∧¬ 0 < cmpMk (A++(m,a)::R')[i].1 m)∨(A.length < i∧¬ (A++(m,a)::R')[i].1=m∧0 < cmpMk (A++(m,a)::R')[i].1 m):=fun i h=>by
   rcases Nat.lt_trichotomy i A.length with h1 | h1 | h1
   ·left
    rw [List.getElem_append_left h1]
    exact⟨h1,hA' i h1⟩
   ·right;left
    subst h1
    rw [List.getElem_append_right (Nat.le_refl _)]
    simp only [Nat.sub_self,List.getElem_cons_zero]
    exact⟨trivial,trivial,by rw [pre_cmpMk.refl];decide⟩
   ·right;right
    obtain⟨k,rfl⟩:∃ k,i=A.length+k+1:=⟨i - A.length - 1,by omega⟩
    rw [List.getElem_append_right (by omega)]
    have e:A.length+k+1 - A.length=k+1:=by omega
    simp only [e,List.getElem_cons_succ]
    exact⟨h1,hR' k (by simp at h;omega)⟩
  refine⟨A.length,true,by simp,fun _=>by simp,fun i h=>?_,fun i h=>?_,fun n hn=>?_⟩
  ·rcases cls i h with⟨h1,h2,_⟩ | ⟨h1,h2,_⟩ | ⟨h1,h2,_⟩
   ·exact⟨fun e=>absurd e h2,fun e=>by omega⟩
   ·exact⟨fun _=>⟨rfl,h1⟩,fun _=>h2⟩
   ·exact⟨fun e=>absurd e h2,fun e=>by omega⟩
  ·rw [if_pos rfl]
   rcases cls i h with⟨h1,_,h2⟩ | ⟨h1,_,h2⟩ | ⟨h1,_,h2⟩
   ·exact⟨fun e=>absurd e h2,fun e=>by omega⟩
   ·exact⟨fun e=>absurd e h2,fun e=>by omega⟩
   ·exact⟨fun _=>h1,fun _=>h2⟩
  ·rw [if_pos rfl,if_pos rfl,put_ahead hA,put_hit,hgc,List.take_left' rfl]
   have ed:(A++(m,a)::R').drop (A.length+1)=R':=by simp
   rw [ed]
   have ea:addW.add a n=IntKind.i64.wrap (a+n):=rfl
   have ez:addW.z=(0:Int):=rfl
   rw [ea,ez]
   split <;> simp
 ·have cls:∀ i (h:i < (A++R).length),¬ (A++R)[i].1=m∧(0 < cmpMk (A++R)[i].1 m↔A.length≤i):=fun i h=>by
   rcases Nat.lt_or_ge i A.length with h1 | h1
   ·rw [List.getElem_append_left h1]
    exact⟨(hA' i h1).1,fun e=>absurd e (hA' i h1).2,fun e=>by omega⟩
   ·rw [List.getElem_append_right h1]
    have hm:=hR _ (List.getElem_mem (l:=R) (n:=i - A.length) (by simp at h;omega))
    exact⟨fun e=>ordM.ne hm e.symm,fun _=>h1,fun _=>gtMk.2 hm⟩
  refine⟨A.length,false,by simp,(fun h=>by cases h),(fun i h=>⟨fun e=>absurd e (cls i h).1,fun e=>by cases e.1⟩),fun i h=>?_,fun n hn=>?_⟩
  ·exact(cls i h).2
  ·simp only [Bool.false_eq_true,if_false]
   rw [put_ahead hA,put_miss (show ¬ n=addW.z from hn) hR,List.take_left' rfl,List.drop_left' rfl]
   simp
end Go.Ar
namespace Go.Proofs.YtjdggbanifineaaGreat
open Go.VL Go.Ar Go.Sg Go.Lo Go.Proofs.YtjdggbanifineaaGreat Go.Proofs.YtjdggbanifineaaGreat.Arr
theorem put17c_ok (op:Str) (l:Its) (hc:Canon ordM addW l) (hz:fam op=4→∀ p ∈ l,p.1.1=zid) (p:Mk × Int) (hl:l.length≤100000) (hn:¬ p.2=0):OkP Tryz.prog 97 [vstr op,vIts l,.agg (cIt p)] (vIts (put ordM addW (mkF op p.1) p.2 l)):=by
 obtain⟨c,hit,h⟩:=split_ex hc (mkF op p.1)
 exact put17_ok op l hz p hl c hit h hn
def tbI80:=(aI (aI (aI (aI Ty.c46 Ty.c91) (aI Ty.c92 (aI Ty.c93 Ty.c94))) (aI (aI Ty.c95 Ty.c96) (aI Ty.c97 (aI Ty.t117 Ty.t26)))) (aI (aI (aI Ty.t28 Ty.t3) (aI Ty.t4 (aI Ty.t49 Ty.t51))) (aI (aI Ty.t52 Ty.t53) (aI Ty.t55 (aI Ty.t65 Ty.t9)))))
set_option maxHeartbeats 1000000 in
theorem add17_ok (op:Str) (s:Stt) (p:Mk × Int) (hs:FamS (fam op) s) (hv:inW p.1.2.n) (hn:inW p.2) (h1:s.2.2.1.length≤90000) (h2:s.2.2.2.length≤100000):OkP Tryz.prog 72 [vstr op,.agg (cSt s),.agg (cIt p)] (.agg (cSt (addF (fam op) s p.1.2 p.1.1 p.2))):=by
 have hkn:=known17_ok op
 have hsu:=summing17_ok op
 have hva:=valued17_ok op
 have hor:=ordered17_ok op
 have h3:=fam3 op
 have hle:=fam_le op
 have hput:=fun hn0=>put17c_ok op s.2.2.1 hs.ok.2.2.1 hs.zids p (by omega) hn0
 have hadd:=fun hn0=>add16_ok s.2.2.2 hs.ok.2.2.2 p.1.2.n p.2 hv hn0 (by omega)
 unfold mkF at hput
 generalize fam op=f at *
 refine Ok.of_ex Ty.mixed Tryz.func72 rfl (by simp [Tryz.ntmps72]) (by kernel_rfl) fun F w0 I0=>?_
 simp only [↓rA,rB,buildOk,nt_is,simprocAttr,tbI80,Tryz.results72]
 refine fun b4 hb4=>?_;replace hb4:=newb hb4;try simp only [Nb] at hb4
 simp only [↓rA,rB,buildOk,nt_is,simprocAttr,tbI80,Tryz.results72,hb4]
 refine fun b5 hb5=>?_;replace hb5:=newb hb5;try simp only [Nb] at hb5
 simp only [↓rA,rB,buildOk,nt_is,simprocAttr,tbI80,Tryz.results72,hb4,hb5]
 refine fun b6 hb6=>?_;replace hb6:=newb hb6;try simp only [Nb] at hb6
 have hh:=And.intro hb4 (And.intro hb5 hb6)
 simp only [↓rA,rB,buildOk,nt_is,simprocAttr,tbI80,Tryz.results72,hh]
 refine OkF_of _ hkn ?_
 by_cases hf:f=0
 ·subst hf
  have e:addF 0 s p.1.2 p.1.1 p.2=s:=if_pos (.inl rfl)
  rw [e]
  simp only [↓rA,rB,buildOk,nt_is,simprocAttr,tbI80,Tryz.results72,hh]
  exact ret_done rfl
 by_cases hn0:p.2=0
 ·have e:addF f s p.1.2 p.1.1 p.2=s:=if_pos (.inr hn0)
  rw [e]
  simp only [↓rA,rB,buildOk,nt_is,simprocAttr,tbI80,Tryz.results72,hh,hf,hn0]
  exact ret_done rfl
 have e:addF f s p.1.2 p.1.1 p.2=addM f s p.1.2 p.1.1 p.2:=if_neg fun h=>h.elim hf hn0
 rw [e]
 clear e
 replace hput:=hput hn0
 replace hadd:=hadd hn0
 simp only [↓rA,rB,buildOk,nt_is,simprocAttr,tbI80,Tryz.results72,hh,hf,hn0]
 refine fun b7 hb7=>?_;replace hb7:=newb hb7;try simp only [Nb] at hb7
 have hh2:=And.intro hh hb7
 simp only [↓rA,rB,buildOk,nt_is,simprocAttr,tbI80,Tryz.results72,hh2,hf,hn0]
 refine OkF_of _ hsu ?_
 obtain rfl | rfl | rfl | rfl | rfl:f=1∨f=2∨f=3∨f=4∨f=5:=by omega
 ·have hq:¬ op=sQuant:=fun h=>by have:=h3.2 h;omega
  simp only [↓rA,rB,buildOk,nt_is,simprocAttr,tbI80,Tryz.results72,hh2,hq]
  refine OkF_of _ hva ?_
  simp only [↓rA,rB,buildOk,nt_is,simprocAttr,tbI80,Tryz.results72,hh2,hq]
  refine OkF_of _ hor ?_
  simp only [↓rA,rB,buildOk,nt_is,simprocAttr,tbI80,Tryz.results72,hh2,hq]
  exact ret_le (LeSt (Le.nil 6) (Le.nil 2))
 ·have hq:¬ op=sQuant:=fun h=>by have:=h3.2 h;omega
  simp only [↓rA,rB,buildOk,nt_is,simprocAttr,tbI80,Tryz.results72,hh2,hq]
  refine CallV_of _ (mul01_ok p.1.2.n p.2 hv hn).v ?_
  simp only [↓rA,rB,buildOk,nt_is,simprocAttr,tbI80,Tryz.results72,hh2,hq]
  refine CallV_of _ (add01_ok s.2.1 (w128 (p.1.2.n * p.2)) hs.ok.2.1 (w128_in _)).v ?_
  simp only [↓rA,rB,buildOk,nt_is,simprocAttr,tbI80,Tryz.results72,hh2,hq]
  refine OkF_of _ hva ?_
  simp only [↓rA,rB,buildOk,nt_is,simprocAttr,tbI80,Tryz.results72,hh2,hq]
  refine OkF_of _ hor ?_
  simp only [↓rA,rB,buildOk,nt_is,simprocAttr,tbI80,Tryz.results72,hh2,hq]
  exact ret_le (LeSt (Le.nil 6) (Le.nil 2))
 ·have hq:op=sQuant:=h3.1 rfl
  replace hq:=eq_true hq
  simp only [↓rA,rB,buildOk,nt_is,simprocAttr,tbI80,Tryz.results72,hh2,hq]
  refine OkF_of _ hadd ?_
  simp only [↓rA,rB,buildOk,nt_is,simprocAttr,tbI80,Tryz.results72,hh2,hq]
  refine OkF_of _ hva ?_
  simp only [↓rA,rB,buildOk,nt_is,simprocAttr,tbI80,Tryz.results72,hh2,hq]
  refine OkF_of _ hor ?_
  simp only [↓rA,rB,buildOk,nt_is,simprocAttr,tbI80,Tryz.results72,hh2,hq]
  exact ret_le (LeSt (Le.nil 6) (Le.refl _))
 ·have hq:¬ op=sQuant:=fun h=>by have:=h3.2 h;omega
  simp only [↓rA,rB,buildOk,nt_is,simprocAttr,tbI80,Tryz.results72,hh2,hq]
  refine OkF_of _ hva ?_
  simp only [↓rA,rB,buildOk,nt_is,simprocAttr,tbI80,Tryz.results72,hh2,hq]
  refine OkF_of _ hput ?_
  simp only [↓rA,rB,buildOk,nt_is,simprocAttr,tbI80,Tryz.results72,hh2,hq]
  exact ret_le (LeSt (Le.refl _) (Le.nil 2))
 ·have hq:¬ op=sQuant:=fun h=>by have:=h3.2 h;omega
  simp only [↓rA,rB,buildOk,nt_is,simprocAttr,tbI80,Tryz.results72,hh2,hq]
  refine OkF_of _ hva ?_
  simp only [↓rA,rB,buildOk,nt_is,simprocAttr,tbI80,Tryz.results72,hh2,hq]
  refine OkF_of _ hor ?_
  simp only [↓rA,rB,buildOk,nt_is,simprocAttr,tbI80,Tryz.results72,hh2,hq]
  refine OkF_of _ hput ?_
  simp only [↓rA,rB,buildOk,nt_is,simprocAttr,tbI80,Tryz.results72,hh2,hq]
  exact ret_le (LeSt (Le.refl _) (Le.nil 2))
end Go.Proofs.YtjdggbanifineaaGreat
