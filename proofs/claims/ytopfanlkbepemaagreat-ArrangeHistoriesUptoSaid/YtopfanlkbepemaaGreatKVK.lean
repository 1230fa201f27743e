/- Merged out of my text VK. -/
import Derived.Test.YtopfanlkbepemaaGreatKV14
namespace Go.VL
open Go.RowKit
theorem ats_of_box {w:World} {I:Cells} {b:Nat}:∀ {cs:List V} {xs:List Value} {o:Nat},(∀ j x,xs[j]? = some x→w.cell? ⟨b,o+j,none⟩=some x∧I b (o+j)∧one x)→V.reps w I cs xs→V.ats w I cs b o
 | [],_,_,_,_=>by simp only [V.ats]
 | c::cs,x::xs,o,h,hr=>by
  simp only [V.reps] at hr
  simp only [V.ats]
  obtain⟨h1,h2,h3⟩:=h 0 x rfl
  refine⟨⟨x,h1,h2,h3,hr.1⟩,ats_of_box (xs:=xs) (fun j y hy=>?_) hr.2⟩
  have:=h (j+1) y (by simpa using hy)
  rwa [show o+(j+1)=o+1+j by omega] at this
 | _::_,[],_,_,hr=>by simp [V.reps] at hr
theorem lies_of_ats {w:World} {I:Cells} {b k:Nat}:∀ {es:List (List V)} {o:Nat},(∀ e ∈ es,e.length=k)→V.ats w I es.flatten b o→V.lies w I k es b o
 | [],_,_,_=>by simp only [V.lies]
 | e::es,o,hk,h=>by
  simp only [List.flatten_cons] at h
  have:=ats_append.1 h
  simp only [V.lies]
  have he:=hk e List.mem_cons_self
  rw [he] at this
  exact⟨this.1,he,lies_of_ats (fun e' he'=>hk e' (List.mem_cons_of_mem _ he')) this.2⟩
def plusB (I:Cells) (b n:Nat):Cells:=fun c o=>I c o∨(c=b∧o < n)
theorem Stays.plus (w:World) (I:Cells) (b n:Nat):Stays w I w (plusB I b n):=.of (fun _ _ h=>⟨.inl h,rfl⟩) fun _ _=>rfl
theorem box_frozen {w:World} {I:Cells} {b:Nat} {cs:List V} (h:BoxAt w I b (.c cs)):V.ats w (plusB I b cs.length) cs b 0:=by
 obtain⟨arr,e,h1,h2,h3,h4⟩:=h
 refine ats_of_box (xs:=arr.toList) (fun j x hx=>?_) (V.reps_mono (Stays.plus w I b cs.length) _ _ h3)
 have hl:=reps_length h3
 have hj:j < arr.toList.length:=(List.getElem?_eq_some_iff.1 hx).1
 refine⟨by simp [World.cell?, h1];simpa using hx,.inr ⟨rfl,by omega⟩,h2 x (List.mem_of_getElem? hx)⟩
theorem Heap.frozen {w:World} {I:Cells} {b n:Nat} {cs:List V} {bs:List (Nat × B)} {rs:List Row} (h:Heap w I ((b,.c cs)::bs) rs):Heap w (plusB I b n) bs rs:=by
 have hnd:=h.nodup
 simp only [blks,List.map_cons,List.cons_append,List.nodup_cons] at hnd
 have hlt:=h.lt b (by simp [blks])
 refine(⟨fun p hp=>h.bx p (List.mem_cons_of_mem _ hp),h.rw,hnd.2,h.inn,h.glob⟩:Heap w I bs rs).step (Stays.plus w I b n) (fun _ _=>rfl) (fun c hc o hi=>?_) fun c o hi=>?_
 ·rcases hi with hi | ⟨rfl,_⟩
  ·exact hi
  ·exact absurd hc hnd.1
 ·rcases hi with hi | ⟨rfl,_⟩
  ·exact h.inn c o hi
  ·exact hlt
theorem slice_frozen {w:World} {I:Cells} {b n c k:Nat} {cs:List V} {es:List (List V)} (h:BoxAt w I b (.c cs)) (hes:cs.take (n * k)=es.flatten) (hk:∀ e ∈ es,e.length=k) (hn:es.length=n) (hc:n≤c) :
  V.rep w (plusB I b cs.length) (.list (some (.slice (some ⟨b,0,none⟩) n c)) k es) (.slice (some ⟨b,0,none⟩) n c):=by
 have ha:=ats_take (box_frozen h) (n * k)
 rw [hes] at ha
 simp only [V.rep]
 refine⟨fun y e=>(Option.some.inj e),some ⟨b,0,none⟩,c,by rw [hn],by omega,?_⟩
 cases es with
 | nil=>exact .inl rfl
 | cons e es=>exact .inr ⟨b,0,rfl,lies_of_ats hk ha⟩
mutual
inductive Fz (y:Value) (v0:V):V→V→Prop
 | same (v:V):Fz y v0 v v
 | here:Fz y v0 (.lit y) v0
 | agg {l l':List V} (h:FzL y v0 l l'):Fz y v0 (.agg l) (.agg l')
 | tup {l l':List V} (h:FzL y v0 l l'):Fz y v0 (.tup l) (.tup l')
inductive FzL (y:Value) (v0:V):List V→List V→Prop
 | nil:FzL y v0 [] []
 | cons {v v':V} {l l':List V} (h:Fz y v0 v v') (r:FzL y v0 l l'):FzL y v0 (v::l) (v'::l')
end
mutual
theorem Fz.rep {y:Value} {v0:V} {w:World} {I I':Cells} (hs:Stays w I w I') (h0:V.rep w I' v0 y):∀ {v v':V} {x:Value},Fz y v0 v v'→V.rep w I v x→V.rep w I' v' x
 | _,_,x,.same v,h=>V.rep_mono hs v x h
 | _,_,x,.here,h=>by simp only [V.rep] at h;subst h;exact h0
 | _,_,x,.agg hl,h=>by
  simp only [V.rep] at h ⊢
  obtain⟨xs,e,hr⟩:=h
  exact⟨xs,e,FzL.reps hs h0 hl hr⟩
 | _,_,x,.tup hl,h=>by
  simp only [V.rep] at h ⊢
  obtain⟨xs,e,hr⟩:=h
  exact⟨xs,e,FzL.reps hs h0 hl hr⟩
theorem FzL.reps {y:Value} {v0:V} {w:World} {I I':Cells} (hs:Stays w I w I') (h0:V.rep w I' v0 y):∀ {l l':List V} {xs:List Value},FzL y v0 l l'→V.reps w I l xs→V.reps w I' l' xs
 | _,_,[],.nil,_=>by simp only [V.reps]
 | _,_,x::xs,.cons h r,hr=>by
  simp only [V.reps] at hr ⊢
  exact⟨Fz.rep hs h0 h hr.1,FzL.reps hs h0 r hr.2⟩
 | _,_,_::_,.nil,hr=>by simp [V.reps] at hr
 | _,_,[],.cons _ _,hr=>by simp [V.reps] at hr
end
theorem FzL.refl {y:Value} {v0:V}:∀ l:List V,FzL y v0 l l
 | []=>.nil
 | v::l=>.cons (.same v) (FzL.refl l)
structure Frozen (b n c k:Nat) (cs:List V) (es:List (List V)):Prop where
 take:cs.take (n * k)=es.flatten
 each:∀ e ∈ es,e.length=k
 len:es.length=n
 cap:n≤c
theorem Ok.freeze {P:Program} {f:FuncId} {args:List V} {bs0:List (Nat × B)} {Q Q':V→List (Nat × B)→List Row→Prop} (h:Ok P f args bs0 Q)
  (hq:∀ v bs rs,Q v bs rs→Q' v bs rs∨∃ b n c k cs es bs' v',bs.Perm ((b,.c cs)::bs')∧Frozen b n c k cs es∧Fz (.slice (some ⟨b,0,none⟩) n c) (.list (some (.slice (some ⟨b,0,none⟩) n c)) k es) v v'∧Q' v' bs' rs):Ok P f args bs0 Q':=by
 intro w I xs hr hH
 refine(h w I xs hr hH).mono fun e w' ⟨x,v,bs',rs',I',he,hv,hk,hh,hn,hQ⟩=>?_
 rcases hq v bs' rs' hQ with hQ' | ⟨b,n,c,k,cs,es,bs2,v',hp,hf,hz,hQ'⟩
 ·exact⟨x,v,bs',rs',I',he,hv,hk,hh,hn,hQ'⟩
 ·have hh':=hh.perm hp
  have hbx:=hh'.bx _ List.mem_cons_self
  have hs:=slice_frozen hbx hf.take hf.each hf.len hf.cap
  have hst:=Stays.plus w' I' b cs.length
  have hbm:b ∈ blks bs' rs':=by
   simp only [blks,List.mem_append]
   exact .inl (List.mem_map.2 ⟨_,hp.mem_iff.2 List.mem_cons_self,rfl⟩)
  refine⟨x,v',bs2,rs',plusB I' b cs.length,he,Fz.rep hst hs hz hv,⟨hk.os,hk.tape,hk.output,hk.size,hk.block,hk.stays.trans hst,fun c o hF hi=>?_,hk.drawn⟩,hh'.frozen,fun c hc=>?_,hQ'⟩
  ·rcases hi with hi | ⟨rfl,_⟩
   ·exact hk.old c o hF hi
   ·exact absurd hF (hn _ hbm)
  ·refine hn c ?_
   simp only [blks,List.mem_append] at hc ⊢
   refine hc.imp (fun hc=>?_) id
   obtain⟨p,hp',rfl⟩:=List.mem_map.1 hc
   exact List.mem_map.2 ⟨p,hp.mem_iff.2 (List.mem_cons_of_mem _ hp'),rfl⟩
theorem Ok.toRow {P:Program} {f:FuncId} {args:List V} {bs0:List (Nat × B)} {Q Q':V→List (Nat × B)→List Row→Prop} (h:Ok P f args bs0 Q)
  (hq:∀ v bs rs,Q v bs rs→∃ b n k e es bs',bs.Perm ((b,.c (es.flatten))::bs')∧(∀ e ∈ es,e.length=k)∧es.length=n∧0 < k∧n≤maxLen∧v=.lit (.slice (some ⟨b,0,none⟩) n n)∧Q' (.list (some (.slice (some ⟨b,0,none⟩) n n)) k es) bs' (⟨.slice (some ⟨b,0,none⟩) n n,k,e⟩::rs)):Ok P f args bs0 Q':=by
 intro w I xs hr hH
 refine(h w I xs hr hH).mono fun e w' ⟨x,v,bs',rs',I',he,hv,hk,hh,hn,hQ⟩=>?_
 obtain⟨b,n,k,te,es,bs2,hp,hek,hel,hk0,hmx,hveq,hQ'⟩:=hq v bs' rs' hQ
 have hh':=hh.perm hp
 have hbx:BoxAt w' I' b (.c es.flatten):=hh'.bx _ List.mem_cons_self
 have hfl:=flatten_len hek
 have hs:=slice_frozen (n:=n) (c:=n) hbx (List.take_of_length_le (by rw [hfl,hel];exact Nat.le_refl _)) hek hel (Nat.le_refl _)
 have hst:=Stays.plus w' I' b es.flatten.length
 have hbm:b ∈ blks bs' rs':=by
  simp only [blks,List.mem_append]
  exact .inl (List.mem_map.2 ⟨_,hp.mem_iff.2 List.mem_cons_self,rfl⟩)
 rw [hveq] at hv
 simp only [V.rep] at hv
 have hfr:=hh'.frozen (n:=es.flatten.length)
 obtain⟨arr,t1,q1,q2,q3,q4⟩:=hbx
 have hsz:arr.size=n * k:=by have:=reps_length q3;rw [hfl,hel] at this;simpa using this
 have hnd:=hh'.nodup
 refine⟨x,_,bs2,_,plusB I' b es.flatten.length,he,by rw [hv];exact hs,⟨hk.os,hk.tape,hk.output,hk.size,hk.block,hk.stays.trans hst,fun c o hF hi=>?_,hk.drawn⟩,⟨hfr.bx,fun r hr'=>?_,?_,hfr.inn,hfr.glob⟩,fun c hc=>?_,hQ'⟩
 ·rcases hi with hi | ⟨rfl,_⟩
  ·exact hk.old c o hF hi
  ·exact absurd hF (hn _ hbm)
 ·rcases List.mem_cons.1 hr' with rfl | hr'
  ·refine⟨hk0,⟨t1,arr.toList,by simp [slen,hsz],.inr ⟨b,n,arr,rfl,Nat.zero_le _,q1,Nat.le_refl _,hmx,hsz,List.take_of_length_le (by simp [slen,hsz])⟩⟩,fun g hg o ho hi=>?_⟩
   simp only [Value.ownBlock,Option.some.injEq] at hg
   subst hg
   rcases hi with hi | ⟨_,hi⟩
   ·exact q4 o hi
   ·rw [hfl,hel] at hi
    simp only [slen] at ho
    omega
  ·exact hfr.rw r hr'
 ·simp only [blks,List.map_cons,List.cons_append,List.filterMap_cons,Row.blk,Value.ownBlock] at hnd ⊢
  exact(List.perm_middle).nodup_iff.2 hnd
 ·refine hn c ?_
  simp only [blks,List.mem_append,List.filterMap_cons,Row.blk,Value.ownBlock,List.mem_cons] at hc ⊢
  rcases hc with hc | rfl | hc
  ·obtain⟨p,hp',rfl⟩:=List.mem_map.1 hc
   exact .inl (List.mem_map.2 ⟨p,hp.mem_iff.2 (List.mem_cons_of_mem _ hp'),rfl⟩)
  ·exact .inl (List.mem_map.2 ⟨_,hp.mem_iff.2 List.mem_cons_self,rfl⟩)
  ·exact .inr hc
theorem Ok.consume {P:Program} {f:FuncId} {args args':List V} {bs0:List (Nat × B)} {Q:V→List (Nat × B)→List Row→Prop} {b n c k:Nat} {cs:List V} {es:List (List V)}
  (hf:Frozen b n c k cs es) (hz:FzL (.slice (some ⟨b,0,none⟩) n c) (.list (some (.slice (some ⟨b,0,none⟩) n c)) k es) args args') (h:Ok P f args' bs0 Q):Ok P f args ((b,.c cs)::bs0) Q:=by
 intro w I xs hr hH
 have hbx:=hH.bx _ List.mem_cons_self
 have hs:=slice_frozen hbx hf.take hf.each hf.len hf.cap
 have hst:=Stays.plus w I b cs.length
 have hnd:=hH.nodup
 simp only [blks,List.map_cons,List.cons_append,List.nodup_cons] at hnd
 refine(h w (plusB I b cs.length) xs (FzL.reps hst hs hz hr) hH.frozen).mono fun e w' ⟨x,v,bs',rs',I',he,hv,hk,hh,hn,hQ⟩=>?_
 refine⟨x,v,bs',rs',I',he,hv,⟨hk.os,hk.tape,hk.output,hk.size,fun c hc=>hk.block c ⟨hc.1,fun hm=>hc.2 (by simp [hm])⟩,hst.trans hk.stays,fun c o hF hi=>?_,hk.drawn⟩,hh,fun c hc hF=>hn c hc ⟨hF.1,fun hm=>hF.2 (by simp [hm])⟩,hQ⟩
 have:=hk.old c o ⟨hF.1,fun hm=>hF.2 (by simp [hm])⟩ hi
 rcases this with h1 | ⟨rfl,_⟩
 ·exact h1
 ·exact absurd (by simp) hF.2
end Go.VL
