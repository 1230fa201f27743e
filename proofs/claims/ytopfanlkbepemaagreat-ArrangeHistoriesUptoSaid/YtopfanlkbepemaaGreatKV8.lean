/- Merged out of my text V8. -/
import Derived.Test.YtopfanlkbepemaaGreatKV7
namespace Go.VL
open Go.RowKit
def Bd (x:Option V) (d n:Nat) (xv:Option Value):Prop:=(x=none∧xv=none∧n=d)∨∃ kk j,x=some (.lit (.int kk j))∧xv=some (.int kk j)∧0≤j∧n=j.toNat
theorem bnd_spec {x:Option V} {d:Nat} {K:Nat→Prop} (h:bnd x d K):∃ n,K n∧∀ (w:World) (I:Cells) (xv:Option Value),(∀ v,x=some v→∃ y,xv=some y∧V.rep w I v y)→(x=none→xv=none)→Bd x d n xv:=by
 unfold bnd at h
 split at h
 ·exact⟨d,h,fun w I xv _ h2=>.inl ⟨rfl,h2 rfl,rfl⟩⟩
 ·rename_i kk j
  refine⟨j.toNat,h.2,fun w I xv h1 _=>.inr ⟨kk,j,rfl,?_,h.1,rfl⟩⟩
  obtain⟨y,hy,hr⟩:=h1 _ rfl
  simp only [V.rep] at hr
  rw [hy,hr]
 ·exact h.elim
theorem opt_rep {σ:Nat→V} {l:List Tmp} {a:Act} {w:World} {I:Cells} (h:Reads σ l a w I) (x:Option Operand) (hx:∀ y,x=some y→∀ t,y=.tmp t→t ∈ l) :
  (∀ v,x.map (ev σ)=some v→∃ y,x.map a.eval=some y∧V.rep w I v y)∧(x.map (ev σ)=none→x.map a.eval=none):=by
 cases x with
 | none=>simp
 | some y =>
  simp only [Option.map_some,Option.some.injEq,forall_eq',reduceCtorEq,false_implies,and_true]
  exact⟨_,rfl,ev_rep h (hx y rfl)⟩
theorem run_bound_le {P:Program} {w:World} {kk:IntKind} {j:Int} {y:Nat} {code:BoundsCode} (h0:0≤j) (h:j.toNat≤y):(Instr.sliceBound (.int kk j) y code).run P w=.ok j.toNat w :=
 run_sliceBound w kk j y code h0 (by omega)
theorem run_bounds {P:Program} {w:World} {isS:Bool} {len cap l h:Nat} {lo hi mx:Option V} {lov hiv mxv:Option Value} (hc:len≤cap) (hlo:Bd lo 0 l lov) (hhi:Bd hi len h hiv) (h1:l≤h) (h2:h≤len)
  (hm:(mx=none∧mxv=none)∨∃ m,Bd mx 0 m mxv∧mx ≠ none∧hi ≠ none∧h≤m∧m≤len) :
  ∃ m,(Instr.sliceBounds isS len cap lov hiv mxv).run P w=.ok (l,h,m) w∧h≤m:=by
 rcases hm with⟨rfl,rfl⟩ | ⟨m,hm,hmx,hhn,g1,g2⟩
 ·refine⟨cap,?_,by omega⟩
  rcases hhi with⟨_,rfl,rfl⟩ | ⟨kk,j,_,rfl,h0,rfl⟩
  ·rcases hlo with⟨_,rfl,rfl⟩ | ⟨k2,i,_,rfl,h3,rfl⟩
   ·simp [Instr.sliceBounds]
   ·simp [Instr.sliceBounds,run_bound_le h3 h1]
  ·have hj:j.toNat≤cap:=by omega
   rcases hlo with⟨_,rfl,rfl⟩ | ⟨k2,i,_,rfl,h3,rfl⟩
   ·simp [Instr.sliceBounds,run_bound_le h0 hj]
   ·simp [Instr.sliceBounds,run_bound_le h0 hj,run_bound_le h3 h1]
 ·rcases hm with⟨rfl,_⟩ | ⟨km,jm,rfl,rfl,hm0,rfl⟩
  ·exact absurd rfl hmx
  ·rcases hhi with⟨rfl,_⟩ | ⟨kk,j,rfl,rfl,h0,rfl⟩
   ·exact absurd rfl hhn
   ·refine⟨jm.toNat,?_,g1⟩
    have hjm:jm.toNat≤cap:=by omega
    rcases hlo with⟨_,rfl,rfl⟩ | ⟨k2,i,_,rfl,h3,rfl⟩
    ·simp [Instr.sliceBounds,run_bound_le hm0 hjm,run_bound_le h0 g1]
    ·simp [Instr.sliceBounds,run_bound_le hm0 hjm,run_bound_le h0 g1,run_bound_le h3 h1]
section
variable {C:Ctx} {S:St} {o:Oper} {k:V→Prop}
theorem run_bounds2 {P:Program} {w:World} {isS:Bool} {len cap l h m:Nat} {lo hi mx:Option V} {lov hiv mxv:Option Value} (hlo:Bd lo 0 l lov) (hhi:Bd hi len h hiv) (hmx:Bd mx cap m mxv) (h1:l≤h) (h2:h≤m) (h3:m≤cap)
  (h4:mx.isSome=true→hi.isSome=true):(Instr.sliceBounds isS len cap lov hiv mxv).run P w=.ok (l,h,m) w:=by
 rcases hmx with⟨rfl,rfl,rfl⟩ | ⟨km,jm,rfl,rfl,hm0,rfl⟩
 ·rcases hhi with⟨rfl,rfl,rfl⟩ | ⟨kk,j,rfl,rfl,h0,rfl⟩
  ·rcases hlo with⟨rfl,rfl,rfl⟩ | ⟨k2,i,rfl,rfl,h5,rfl⟩
   ·simp [Instr.sliceBounds]
   ·simp [Instr.sliceBounds,run_bound_le h5 h1]
  ·rcases hlo with⟨rfl,rfl,rfl⟩ | ⟨k2,i,rfl,rfl,h5,rfl⟩
   ·simp [Instr.sliceBounds,run_bound_le h0 h2]
   ·simp [Instr.sliceBounds,run_bound_le h0 h2,run_bound_le h5 h1]
 ·rcases hhi with⟨rfl,rfl,rfl⟩ | ⟨kk,j,rfl,rfl,h0,rfl⟩
  ·simp at h4
  ·rcases hlo with⟨rfl,rfl,rfl⟩ | ⟨k2,i,rfl,rfl,h5,rfl⟩
   ·simp [Instr.sliceBounds,run_bound_le hm0 h3,run_bound_le h0 h2]
   ·simp [Instr.sliceBounds,run_bound_le hm0 h3,run_bound_le h0 h2,run_bound_le h5 h1]
theorem det_slice {t:TypeId} {x:Operand} {lo hi mx:Option Operand} (ho:o.op=.slice t x lo hi mx) (h:sliceK C.P t (ev S.σ x) (lo.map (ev S.σ)) (hi.map (ev S.σ)) (mx.map (ev S.σ)) k):∃ v,DetOp C S o v∧k v:=by
 have mlo:∀ y,lo=some y→∀ t,y=.tmp t→t ∈ Oper.tm o:=fun y hy=>mem_tm (by simp [ho,Op.operands,hy])
 have mhi:∀ y,hi=some y→∀ t,y=.tmp t→t ∈ Oper.tm o:=fun y hy=>mem_tm (by simp [ho,Op.operands,hy])
 have mmx:∀ y,mx=some y→∀ t,y=.tmp t→t ∈ Oper.tm o:=fun y hy=>mem_tm (by simp [ho,Op.operands,hy])
 unfold sliceK at h
 split at h
 ·rename_i s hd hx
  obtain⟨hmx,h⟩:=h
  obtain⟨hn,h,bh⟩:=bnd_spec h
  obtain⟨ln,⟨h1,h2,hk⟩,bl⟩:=bnd_spec h
  refine⟨_,fun ac w I hR hW=>?_,hk⟩
  have r:=ev_of hR (x:=x) (by simp [ho,Op.operands])
  rw [hx] at r
  simp only [V.rep] at r
  have L:=bl w I _ (opt_rep hR lo mlo).1 (opt_rep hR lo mlo).2
  have H:=bh w I _ (opt_rep hR hi mhi).1 (opt_rep hR hi mhi).2
  have M:mx.map ac.eval=none:=(opt_rep hR mx mmx).2 hmx
  obtain⟨m,hrun,_⟩:=run_bounds (P:=C.P) (w:=w) (isS:=false) (Nat.le_refl s.size) L H h1 h2 (.inl ⟨rfl,rfl⟩)
  simp only [execOp,ho,r,M,Instr.sliceAt,Instr.slice]
  simp only [Sem.run_bind,run_underlying hd,Result.andThen_ok,Option.isSome_none,Bool.false_eq_true,if_false,Sem.run_pure,hrun]
  exact Yld.same hW (by simp only [V.rep])
 ·rename_i e v hd
  split at h
  ·rename_i n hn
   rcases onS_spec h with h | ⟨b,off,ln0,c0,hv,h⟩
   rotate_left
   ·obtain⟨m,h,bm⟩:=bnd_spec h
    obtain⟨hh,h,bh⟩:=bnd_spec h
    obtain⟨ln,⟨h1,h2,h3,h4,hk⟩,bl⟩:=bnd_spec h
    refine⟨_,fun ac w I hR hW=>?_,hk⟩
    have r:=ev_of hR (x:=x) (by simp [ho,Op.operands])
    rw [hv] at r
    simp only [V.rep] at r
    have L:=bl w I _ (opt_rep hR lo mlo).1 (opt_rep hR lo mlo).2
    have H:=bh w I _ (opt_rep hR hi mhi).1 (opt_rep hR hi mhi).2
    have M:=bm w I _ (opt_rep hR mx mmx).1 (opt_rep hR mx mmx).2
    have hrun:=run_bounds2 (P:=C.P) (w:=w) (isS:=true) L H M h1 h2 h3 h4
    simp only [execOp,ho,r,Instr.sliceAt,Instr.slice]
    simp only [Sem.run_bind,run_underlying hd,Result.andThen_ok,Sem.run_pure,hrun,run_tsz hn]
    refine Yld.same hW ?_
    simp only [V.rep]
    by_cases hml:m=ln
    ·simp [hml]
    ·simp [hml,Addr.add_lit]
   obtain⟨es,h,hes⟩:=onL_spec h
   obtain⟨hh,h,bh⟩:=bnd_spec h
   obtain⟨ln,⟨h1,h2,h3,hk⟩,bl⟩:=bnd_spec h
   refine⟨_,fun ac w I hR hW=>?_,hk⟩
   obtain⟨ad,cp,ex,hc,hl⟩:=hes w I _ (ev_of hR (x:=x) (by simp [ho,Op.operands]))
   have L:=bl w I _ (opt_rep hR lo mlo).1 (opt_rep hR lo mlo).2
   have H:=bh w I _ (opt_rep hR hi mhi).1 (opt_rep hR hi mhi).2
   have M:(mx.map (ev S.σ)=none∧mx.map ac.eval=none)∨∃ m,Bd (mx.map (ev S.σ)) 0 m (mx.map ac.eval)∧mx.map (ev S.σ) ≠ none∧hi.map (ev S.σ) ≠ none∧hh≤m∧m≤es.length:=by
    cases hm:mx.map (ev S.σ) with
    | none=>exact .inl ⟨rfl,(opt_rep hR mx mmx).2 hm⟩
    | some u =>
     obtain⟨g1,g2⟩:=h3 u hm
     obtain⟨m,⟨g3,g4⟩,bm⟩:=bnd_spec g2
     have B:=bm w I _ (opt_rep hR mx mmx).1 (opt_rep hR mx mmx).2
     rw [hm] at B
     exact .inr ⟨m,B,by simp,fun e=>by simp [e] at g1,g3,g4⟩
   obtain⟨m,hrun,hm⟩:=run_bounds (P:=C.P) (w:=w) (isS:=true) hc L H h1 h2 M
   simp only [execOp,ho,ex,Instr.sliceAt,Instr.slice]
   simp only [Sem.run_bind,run_underlying hd,Result.andThen_ok,Sem.run_pure,hrun,run_tsz hn]
   refine Yld.same hW ?_
   have hlen:((es.drop ln).take (hh - ln)).length=hh - ln:=by simp;omega
   simp only [V.rep]
   refine⟨(fun y hy=>nomatch hy),if m=ln then ad else ad.map (·.add (ln * n)),m - ln,by rw [hlen],by rw [hlen];omega,?_⟩
   by_cases hz:hh=ln
   ·left;subst hz;simp
   ·right
    rcases hl with rfl | ⟨b,off,rfl,hl⟩
    ·simp at h2;omega
    ·refine⟨b,off+ln * n,by rw [if_neg (by omega)];simp [Addr.add_lit],lies_take (lies_drop hl ln (by omega)) _⟩
  ·exact h.elim
 ·exact h.elim
theorem detF_spec (h:detF C.P S o k):∃ v,DetOp C S o v∧k v:=by
 unfold detF at h
 split at h
 ·rename_i x ho;exact det_move (.inl ho) h
 ·rename_i x ho;exact det_move (.inr ho) h
 ·rename_i c a b ho
  split at h
  ·rename_i t hc;exact det_pick ho hc h
  ·exact h.elim
 ·rename_i ho;exact det_load ho h
 ·rename_i ho;exact det_fieldAddr ho h
 ·rename_i ho;exact det_field ho h
 ·rename_i ho;exact det_idxAddr ho h
 ·rename_i ho;exact det_idx ho h
 ·rename_i ho;exact binK_spec ho h
 ·rename_i ho
  split at h
  ·rename_i hx;obtain⟨v,hv,hk⟩:=h;exact det_un ho hx hv hk
  ·exact h.elim
 ·rename_i ho;exact det_conv ho h
 ·rename_i ho
  split at h
  ·rename_i hx
   split at h
   ·rename_i hv;exact det_extract ho hx hv h
   ·exact h.elim
  ·exact h.elim
 ·rename_i ho;exact det_slice ho h
 ·rename_i ho;exact det_build ho h.1 h.2
 ·rename_i ho;obtain⟨l,m,h1,h2,h3⟩:=h;exact det_makeFunc ho h1 h2 h3
 ·rename_i ho;exact det_nil ho h
 ·rename_i c ho
  split at h
  ·rename_i hc
   split at h
   ·rename_i ha ht;exact det_len ho hc ha ht h
   ·exact h.elim
  ·rename_i hc
   split at h
   ·rename_i ha ht;exact det_cap ho hc ha ht h
   ·exact h.elim
  ·rename_i hc
   split at h
   ·rename_i ha;exact det_maxmin ho true hc ha h
   ·exact h.elim
  ·rename_i hc
   split at h
   ·rename_i ha;exact det_maxmin ho false hc ha h
   ·exact h.elim
  ·rename_i hc;exact det_call ho hc h
  ·exact h.elim
 ·exact h.elim
end
end Go.VL
