/- Merged out of my text VK. -/
import Derived.Test.YtohdpcjaoiebkaaGreatDoorKV14
set_option linter.unusedSimpArgs false
set_option linter.unusedVariables false
namespace Go.VL
open Go.RowKit
theorem Jl {w:World} {I:Cells} {b:Nat}:∀ {cs:List V} {xs:List Value} {o:Nat},(∀ j x,xs[j]? = some x→w.cell? ⟨b,o+j,none⟩=some x∧I b (o+j)∧one x)→V.reps w I cs xs→V.ats w I cs b o
 | [],_,_,_,_=>by simp only [V.ats]
 | c::cs,x::xs,o,h,hr=>by
  simp only [V.reps] at hr
  simp only [V.ats]
  obtain⟨h1,h2,h3⟩:=h 0 x rfl
  refine⟨⟨x,h1,h2,h3,hr.1⟩,Jl (xs:=xs) (fun j y hy=>?_) hr.2⟩
  have:=h (j+1) y (by simpa using hy)
  rwa [show o+(j+1)=o+1+j by omega] at this
 | _::_,[],_,_,hr=>by simp [V.reps] at hr
theorem X6 {w:World} {I:Cells} {b k:Nat}:∀ {es:List (List V)} {o:Nat},(∀ e ∈ es,e.length=k)→V.ats w I es.flatten b o→V.lies w I k es b o
 | [],_,_,_=>by simp only [V.lies]
 | e::es,o,hk,h=>by
  simp only [List.flatten_cons] at h
  have:=j3.1 h
  simp only [V.lies]
  have he:=hk e List.mem_cons_self
  rw [he] at this
  exact⟨this.1,he,X6 (fun e' he'=>hk e' (List.mem_cons_of_mem _ he')) this.2⟩
def YU (I:Cells) (b n:Nat):Cells:=fun c o=>I c o∨(c=b∧o < n)
theorem qM.plus (w:World) (I:Cells) (b n:Nat):qM w I w (YU I b n):=.of (fun _ _ h=>⟨.inl h,rfl⟩) fun _ _=>rfl
theorem qgz {w:World} {I:Cells} {b:Nat} {cs:List V} (h:xi w I b (.c cs)):V.ats w (YU I b cs.length) cs b 0:=by
 obtain⟨arr,e,h1,h2,h3,h4⟩:=h
 refine Jl (xs:=arr.toList) (fun j x hx=>?_) (V.reps_mono (qM.plus w I b cs.length) _ _ h3)
 have hl:=qC h3
 have hj:j < arr.toList.length:=(List.getElem?_eq_some_iff.1 hx).1
 refine⟨by simp [World.cell?, h1];simpa using hx,.inr ⟨rfl,by omega⟩,h2 x (List.mem_of_getElem? hx)⟩
theorem kq.frozen {w:World} {I:Cells} {b n:Nat} {cs:List V} {bs:List (Nat × B)} {rs:List Row} (h:kq w I ((b,.c cs)::bs) rs):kq w (YU I b n) bs rs:=by
 have hnd:=h.nodup
 simp only [qA,List.map_cons,List.cons_append,List.nodup_cons] at hnd
 have hlt:=h.lt b (by simp [qA])
 refine(⟨fun p hp=>h.bx p (List.mem_cons_of_mem _ hp),h.rw,hnd.2,h.inn,h.glob⟩:kq w I bs rs).step (qM.plus w I b n) (fun _ _=>rfl) (fun c hc o hi=>?_) fun c o hi=>?_
 ·rcases hi with hi | ⟨rfl,_⟩
  ·exact hi
  ·exact absurd hc hnd.1
 ·rcases hi with hi | ⟨rfl,_⟩
  ·exact h.inn c o hi
  ·exact hlt
theorem Zt {w:World} {I:Cells} {b n c k:Nat} {cs:List V} {es:List (List V)} (h:xi w I b (.c cs)) (hes:cs.take (n * k)=es.flatten) (hk:∀ e ∈ es,e.length=k) (hn:es.length=n) (hc:n≤c) :
  V.rep w (YU I b cs.length) (.list (some (.slice (some ⟨b,0,none⟩) n c)) k es) (.slice (some ⟨b,0,none⟩) n c):=by
 have ha:=qst (qgz h) (n * k)
 rw [hes] at ha
 simp only [V.rep]
 refine⟨fun y e=>(Option.some.inj e),some ⟨b,0,none⟩,c,by rw [hn],by omega,?_⟩
 cases es with
 | nil=>exact .inl rfl
 | cons e es=>exact .inr ⟨b,0,rfl,X6 hk ha⟩
mutual
inductive Fz (y:Value) (v0:V):V→V→Prop
 | same (v:V):Fz y v0 v v
 | here:Fz y v0 (.lit y) v0
 | agg {l l':List V} (h:FzL y v0 l l'):Fz y v0 (.agg l) (.agg l')
 | tup {l l':List V} (h:FzL y v0 l l'):Fz y v0 (.tup l) (.tup l')
inductive FzL (y:Value) (v0:V):List V→List V→Prop
 | nil:FzL y v0 [] []
 | cons {v v':V} {l l':List V} (h:Fz y v0 v v') (r:FzL y v0 l l'):FzL y v0 (v::l) (v'::l')
end
mutual
theorem Fz.rep {y:Value} {v0:V} {w:World} {I I':Cells} (hs:qM w I w I') (h0:V.rep w I' v0 y):∀ {v v':V} {x:Value},Fz y v0 v v'→V.rep w I v x→V.rep w I' v' x
 | _,_,x,.same v,h=>V.rep_mono hs v x h
 | _,_,x,.here,h=>by simp only [V.rep] at h;subst h;exact h0
 | _,_,x,.agg hl,h=>by
  simp only [V.rep] at h ⊢
  obtain⟨xs,e,hr⟩:=h
  exact⟨xs,e,FzL.reps hs h0 hl hr⟩
 | _,_,x,.tup hl,h=>by
  simp only [V.rep] at h ⊢
  obtain⟨xs,e,hr⟩:=h
  exact⟨xs,e,FzL.reps hs h0 hl hr⟩
theorem FzL.reps {y:Value} {v0:V} {w:World} {I I':Cells} (hs:qM w I w I') (h0:V.rep w I' v0 y):∀ {l l':List V} {xs:List Value},FzL y v0 l l'→V.reps w I l xs→V.reps w I' l' xs
 | _,_,[],.nil,_=>by simp only [V.reps]
 | _,_,x::xs,.cons h r,hr=>by
  simp only [V.reps] at hr ⊢
  exact⟨Fz.rep hs h0 h hr.1,FzL.reps hs h0 r hr.2⟩
 | _,_,_::_,.nil,hr=>by simp [V.reps] at hr
 | _,_,[],.cons _ _,hr=>by simp [V.reps] at hr
end
theorem FzL.refl {y:Value} {v0:V}:∀ l:List V,FzL y v0 l l
 | []=>.nil
 | v::l=>.cons (.same v) (FzL.refl l)
structure qhj (b n c k:Nat) (cs:List V) (es:List (List V)):Prop where
 take:cs.take (n * k)=es.flatten
 each:∀ e ∈ es,e.length=k
 len:es.length=n
 cap:n≤c
theorem Ok.freeze {P:Program} {f:FuncId} {args:List V} {bs0:List (Nat × B)} {Q Q':V→List (Nat × B)→List Row→Prop} (h:Ok P f args bs0 Q)
  (hq:∀ v bs rs,Q v bs rs→Q' v bs rs∨∃ b n c k cs es bs' v',bs.Perm ((b,.c cs)::bs')∧qhj b n c k cs es∧Fz (.slice (some ⟨b,0,none⟩) n c) (.list (some (.slice (some ⟨b,0,none⟩) n c)) k es) v v'∧Q' v' bs' rs):Ok P f args bs0 Q':=by
 intro w I xs hr hH
 refine(h w I xs hr hH).mono fun e w' ⟨x,v,bs',rs',I',he,hv,hk,hh,hn,hQ⟩=>?_
 rcases hq v bs' rs' hQ with hQ' | ⟨b,n,c,k,cs,es,bs2,v',hp,hf,hz,hQ'⟩
 ·exact⟨x,v,bs',rs',I',he,hv,hk,hh,hn,hQ'⟩
 ·have hh':=hh.perm hp
  have hbx:=hh'.bx _ List.mem_cons_self
  have hs:=Zt hbx hf.take hf.each hf.len hf.cap
  have hst:=qM.plus w' I' b cs.length
  have hbm:b ∈ qA bs' rs':=by
   simp only [qA,List.mem_append]
   exact .inl (List.mem_map.2 ⟨_,hp.mem_iff.2 List.mem_cons_self,rfl⟩)
  refine⟨x,v',bs2,rs',YU I' b cs.length,he,Fz.rep hst hs hz hv,⟨hk.os,hk.tape,hk.output,hk.size,hk.block,hk.stays.trans hst,fun c o hF hi=>?_,hk.drawn⟩,hh'.frozen,fun c hc=>?_,hQ'⟩
  ·rcases hi with hi | ⟨rfl,_⟩
   ·exact hk.old c o hF hi
   ·exact absurd hF (hn _ hbm)
  ·refine hn c ?_
   simp only [qA,List.mem_append] at hc ⊢
   refine hc.imp (fun hc=>?_) id
   obtain⟨p,hp',rfl⟩:=List.mem_map.1 hc
   exact List.mem_map.2 ⟨p,hp.mem_iff.2 (List.mem_cons_of_mem _ hp'),rfl⟩
theorem Ok.consume {P:Program} {f:FuncId} {args args':List V} {bs0:List (Nat × B)} {Q:V→List (Nat × B)→List Row→Prop} {b n c k:Nat} {cs:List V} {es:List (List V)}
  (hf:qhj b n c k cs es) (hz:FzL (.slice (some ⟨b,0,none⟩) n c) (.list (some (.slice (some ⟨b,0,none⟩) n c)) k es) args args') (h:Ok P f args' bs0 Q):Ok P f args ((b,.c cs)::bs0) Q:=by
 intro w I xs hr hH
 have hbx:=hH.bx _ List.mem_cons_self
 have hs:=Zt hbx hf.take hf.each hf.len hf.cap
 have hst:=qM.plus w I b cs.length
 have hnd:=hH.nodup
 simp only [qA,List.map_cons,List.cons_append,List.nodup_cons] at hnd
 refine(h w (YU I b cs.length) xs (FzL.reps hst hs hz hr) hH.frozen).mono fun e w' ⟨x,v,bs',rs',I',he,hv,hk,hh,hn,hQ⟩=>?_
 refine⟨x,v,bs',rs',I',he,hv,⟨hk.os,hk.tape,hk.output,hk.size,fun c hc=>hk.block c ⟨hc.1,fun hm=>hc.2 (by simp [hm])⟩,hst.trans hk.stays,fun c o hF hi=>?_,hk.drawn⟩,hh,fun c hc hF=>hn c hc ⟨hF.1,fun hm=>hF.2 (by simp [hm])⟩,hQ⟩
 have:=hk.old c o ⟨hF.1,fun hm=>hF.2 (by simp [hm])⟩ hi
 rcases this with h1 | ⟨rfl,_⟩
 ·exact h1
 ·exact absurd (by simp) hF.2
end Go.VL
