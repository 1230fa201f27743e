/- Merged out of my texts IA IB IC ID HY HB. -/
import Derived.Test.YtjdggbanifineaaGreatKe
import Derived.Test.YtjdggbanifineaaGreatKb
import Derived.Test.YtjdggbanifineaaGreatKVG
import Derived.Test.YtjdggbanifineaaGreatRows
import Derived.ProofKit
import Derived.Shelf.Vars
import Derived.Lay
import Derived.Deep.DeepHandedRow
import Derived.Deep.DeepWitnessRowRef
set_option linter.unusedSimpArgs false
set_option maxRecDepth 100000
set_option linter.defProp false
namespace Go.Ar
open Go.VL Go.Sg Go.Lo
theorem first_at {l:List Cl} (hs:l.Pairwise fun a b=>a.1 < b.1) (e:Int):∃ c,c≤l.length∧∀ j,(h:j < l.length)→(j < c↔l[j].1 < e):=by
 obtain⟨A,R,rfl,hA,hR⟩:=split_list ordI e l (hs.imp fun h=>ltO.2 h)
 have hR':∀ p ∈ R,¬ p.1 < e:=fun p hp=>by
  rcases hR with⟨a,R',rfl,h⟩ | h
  ·rcases List.mem_cons.1 hp with rfl | hp
   ·exact Int.lt_irrefl _
   ·have:=ltO.1 (h p hp);omega
  ·have:=ltO.1 (h p hp);omega
 refine⟨A.length,by simp,fun j h=>?_⟩
 rcases Nat.lt_or_ge j A.length with h1 | h1
 ·rw [List.getElem_append_left h1]
  exact⟨fun _=>ltO.1 (hA _ (List.getElem_mem h1)),fun _=>h1⟩
 ·rw [List.getElem_append_right h1]
  exact⟨fun h=>by omega,fun h=>absurd h (hR' _ (List.getElem_mem _))⟩
end Go.Ar
namespace Go.Proofs.YtjdggbanifineaaGreat
open Go.VL Go.Ar Go.Sg Go.Lo Go.Proofs.YtjdggbanifineaaGreat Go.Proofs.YtjdggbanifineaaGreat.Arr
def tbIA0:=(aI (aI (aI (aI Ty.c30 Ty.c72) (aI Ty.t117 Ty.t26)) (aI (aI Ty.t28 Ty.t3) (aI Ty.t30 Ty.t31))) (aI (aI (aI Ty.t4 Ty.t49) (aI Ty.t51 Ty.t52)) (aI (aI Ty.t53 Ty.t55) (aI Ty.t57 (aI Ty.t65 Ty.t9)))))
set_option maxHeartbeats 1000000 in
theorem add21_ok (op:Str) (l:List Cl) (p:Pk) (n:Nat) (h0:¬ fam op=0) (hg:GoodC (fam op) n l) (hn:n≤80000) (hp:inW p.2∧inW p.1.val.n):OkP Tryz.prog 47 [vstr op,vCls l,.agg (cPk p)] (vCls (stepM (fam op) l p)):=by
 obtain⟨c,hc,hs⟩:=first_at hg.sorted p.1.event
 have hll:=hg.bd.1
 refine Ok.of_ex Ty.mixed Tryz.func47 rfl (by simp [Tryz.ntmps47]) (by kernel_rfl) fun F w0 I0=>?_
 simp only [↓rA,rB,buildOk,nt_is,simprocAttr,tbIA0,Tryz.results47]
 refine fun b5 h5=>?_;replace h5:=newb h5;try simp only [Nb] at h5
 simp only [↓rA,rB,buildOk,nt_is,simprocAttr,tbIA0,Tryz.results47,h5]
 refine EX_for Ty.mixed (by kernel_rfl) c (fun i S=>S.boxes=[(b5,.c (cPk p))]∧S.rows=[]∧S.σ 0=vstr op∧S.σ 1=vCls l∧S.σ 5=ptr b5∧S.σ 7=vint i) ⟨0,?_⟩ (fun i S hi ⟨gb,gr,g0,g1,g5,g7⟩=>?_) (fun S ⟨gb,gr,g0,g1,g5,g7⟩=>?_)
 ·simp only [↓rA,rB,buildOk,nt_is,simprocAttr,tbIA0,Tryz.results47]
 ·have hil:i < l.length:=by omega
  have hgl:(l.map cCl).getD i []=cCl l[i]:=getD_map _ _ _ hil
  have hlt:=(hs i hil).1 hi
  have w1:=wrap_succ hi (by omega)
  simp only [↓rA,rB,buildOk,nt_is,simprocAttr,tbIA0,Tryz.results47,gb,gr,g0,g1,g5,g7,h5,Int.ofNat_lt,hil,hgl,hlt,w1,List.length_map]
  exact⟨0,rfl⟩
 ·by_cases hcl:c < l.length
  ·have hgl:(l.map cCl).getD c []=cCl l[c]:=getD_map _ _ _ hcl
   have hge:¬ l[c].1 < p.1.event:=fun h=>absurd ((hs c hcl).2 h) (Nat.lt_irrefl c)
   have hfs:=hg.fam l[c] (List.getElem_mem hcl)
   have hbd:=hg.bd.2 l[c] (List.getElem_mem hcl)
   have w1:=wrap_id (n:=(c:Int)+1) (by omega) (by omega)
   have n1:((c:Int)+1).toNat=c+1:=by omega
   by_cases he:l[c].1=p.1.event
   ·have hst:=step_hit h0 hg.fam hp.1 hc hs hcl he
    simp only [↓rA,rB,buildOk,nt_is,simprocAttr,tbIA0,Tryz.results47,gb,gr,g0,g1,g5,g7,h5,Int.ofNat_lt,hcl,hgl,hge,he,Int.lt_irrefl,w1,List.length_map]
    refine fun b8 h8=>?_;replace h8:=newb h8;try simp only [Nb] at h8
    simp only [↓rA,rB,buildOk,nt_is,simprocAttr,tbIA0,Tryz.results47,gb,gr,g0,g1,g5,g7,h5,h8,Int.ofNat_lt,hcl,hgl,hge,he,Int.lt_irrefl,w1,List.length_map]
    refine OkF_of _ (add17_ok op l[c].2 ((p.1.id,p.1.val),p.2) hfs hp.2 hp.1 (by omega) (by omega)) ?_
    simp only [↓rA,rB,buildOk,nt_is,simprocAttr,tbIA0,Tryz.results47,gb,gr,g0,g1,g5,g7,h5,h8,Int.ofNat_lt,hcl,hgl,hge,he,Int.lt_irrefl,w1,List.length_map]
    generalize hA:addF (fam op) l[c].2 p.1.val p.1.id p.2=A at *
    refine Or2.l ?_
    simp only [↓rA,rB,buildOk,nt_is,simprocAttr,tbIA0,Tryz.results47,gb,gr,g0,g1,g5,g7,h5,h8,Int.ofNat_lt,hcl,hgl,hge,he,w1,List.length_map]
    refine fun y1=>⟨by omega,by rw [List.length_take,List.length_map];omega,fun y2=>?_⟩
    refine OkF_of _ (same0_ok A) ?_
    by_cases hz:A=zSt
    ·rw [if_pos hz] at hst
     simp only [↓rA,rB,buildOk,nt_is,simprocAttr,tbIA0,Tryz.results47,gb,gr,g0,g1,g5,g7,h5,h8,Int.ofNat_lt,hcl,hgl,hge,he,Int.lt_irrefl,w1,n1,List.length_map,List.length_take,List.length_drop,hz]
     refine⟨by omega,by omega,by omega,fun y3=>⟨_,[],[],Le.list _ _ _,List.nil_sublist _,List.nil_sublist _,?_,rfl,rfl⟩⟩
     rw [hst]
     exact congrArg (V.list none 6) (by rw [List.map_append,List.map_take,List.map_drop])
    ·rw [if_neg hz] at hst
     simp only [↓rA,rB,buildOk,nt_is,simprocAttr,tbIA0,Tryz.results47,gb,gr,g0,g1,g5,g7,h5,h8,Int.ofNat_lt,hcl,hgl,hge,he,Int.lt_irrefl,w1,n1,List.length_map,List.length_take,List.length_drop,hz]
     refine fun y3=>takeRF_2 ?_
     simp only [↓rA,rB,buildOk,nt_is,simprocAttr,tbIA0,Tryz.results47,gb,gr,g0,g1,g5,g7,h5,h8,Int.ofNat_lt,hcl,hgl,hge,he,Int.lt_irrefl,w1,List.length_map,List.length_take,List.length_drop,n1,hz]
     refine⟨by omega,fun y4=>?_⟩
     refine⟨by omega,by omega,takeRF_1 ?_⟩
     simp only [↓rA,rB,buildOk,nt_is,simprocAttr,tbIA0,Tryz.results47,gb,gr,g0,g1,g5,g7,h5,h8,Int.ofNat_lt,hcl,hgl,hge,he,Int.lt_irrefl,w1,n1,List.length_map,List.length_take,List.length_drop,List.length_append,hz]
     refine⟨by show (_+1+_) * _≤_;omega,fun y5=>⟨_,[],[],Le.list _ _ _,List.nil_sublist _,List.nil_sublist _,?_,rfl,rfl⟩⟩
     rw [hst]
     exact congrArg (V.list none 6) (by rw [List.map_append,List.map_cons,List.map_take,List.map_drop,List.append_assoc];rfl)
   ·have hst:=step_miss h0 hg.can hp.1 hc hs (.inr ⟨hcl,he⟩)
    simp only [↓rA,rB,buildOk,nt_is,simprocAttr,tbIA0,Tryz.results47,gb,gr,g0,g1,g5,g7,h5,Int.ofNat_lt,hcl,hgl,hge,he,Int.lt_irrefl,w1,List.length_map]
    refine fun b8 h8=>?_;replace h8:=newb h8;try simp only [Nb] at h8
    simp only [↓rA,rB,buildOk,nt_is,simprocAttr,tbIA0,Tryz.results47,gb,gr,g0,g1,g5,g7,h5,h8,Int.ofNat_lt,hcl,hgl,hge,he,Int.lt_irrefl,w1,List.length_map]
    refine OkF_le (.cons (Le.refl _) (.cons (LeSt (Le.nil 6) (Le.nil 2)) (.cons (Le.refl _) .nil))) _ (add17_ok op zSt ((p.1.id,p.1.val),p.2) (FamS.zero _) hp.2 hp.1 (Nat.zero_le _) (Nat.zero_le _)) ?_
    simp only [↓rA,rB,buildOk,nt_is,simprocAttr,tbIA0,Tryz.results47,gb,gr,g0,g1,g5,g7,h5,h8,Int.ofNat_lt,hcl,hgl,hge,he,w1,List.length_map]
    generalize hA:addF (fam op) zSt p.1.val p.1.id p.2=A at *
    refine Or2.l ?_
    simp only [↓rA,rB,buildOk,nt_is,simprocAttr,tbIA0,Tryz.results47,gb,gr,g0,g1,g5,g7,h5,h8,Int.ofNat_lt,hcl,hgl,hge,he,Int.lt_irrefl,w1,List.length_map,List.length_take,List.length_drop,n1]
    refine fun y1=>⟨by omega,by omega,fun y2=>?_⟩
    refine OkF_of _ (same0_ok A) ?_
    by_cases hz:A=zSt
    ·rw [if_pos hz] at hst
     simp only [↓rA,rB,buildOk,nt_is,simprocAttr,tbIA0,Tryz.results47,gb,gr,g0,g1,g5,g7,h5,h8,Int.ofNat_lt,hcl,hgl,hge,he,Int.lt_irrefl,w1,List.length_map,List.length_take,List.length_drop,n1,hz]
     refine⟨by omega,by omega,fun y3=>⟨_,[],[],Le.list _ _ _,List.nil_sublist _,List.nil_sublist _,?_,rfl,rfl⟩⟩
     rw [hst]
     exact congrArg (V.list none 6) (List.take_append_drop c _)
    ·rw [if_neg hz] at hst
     simp only [↓rA,rB,buildOk,nt_is,simprocAttr,tbIA0,Tryz.results47,gb,gr,g0,g1,g5,g7,h5,h8,Int.ofNat_lt,hcl,hgl,hge,he,Int.lt_irrefl,w1,List.length_map,List.length_take,List.length_drop,n1,hz]
     refine fun y3=>takeRF_2 ?_
     simp only [↓rA,rB,buildOk,nt_is,simprocAttr,tbIA0,Tryz.results47,gb,gr,g0,g1,g5,g7,h5,h8,Int.ofNat_lt,hcl,hgl,hge,he,Int.lt_irrefl,w1,n1,List.length_map,List.length_take,List.length_drop,List.length_append,hz]
     refine⟨by omega,fun y4=>?_⟩
     refine⟨by omega,takeRF_1 ?_⟩
     simp only [↓rA,rB,buildOk,nt_is,simprocAttr,tbIA0,Tryz.results47,gb,gr,g0,g1,g5,g7,h5,h8,Int.ofNat_lt,hcl,hgl,hge,he,Int.lt_irrefl,w1,n1,List.length_map,List.length_take,List.length_drop,List.length_append,hz]
     refine⟨by show (_+1+_) * _≤_;omega,fun y5=>⟨_,[],[],Le.list _ _ _,List.nil_sublist _,List.nil_sublist _,?_,rfl,rfl⟩⟩
     rw [hst]
     exact congrArg (V.list none 6) (by rw [List.map_append,List.map_cons,List.map_take,List.map_drop,List.append_assoc];rfl)
  ·have hce:c=l.length:=by omega
   have hst:=step_miss h0 hg.can hp.1 hc hs (.inl hce)
   simp only [↓rA,rB,buildOk,nt_is,simprocAttr,tbIA0,Tryz.results47,gb,gr,g0,g1,g5,g7,h5,Int.ofNat_lt,hcl,List.length_map]
   refine fun b8 h8=>?_;replace h8:=newb h8;try simp only [Nb] at h8
   simp only [↓rA,rB,buildOk,nt_is,simprocAttr,tbIA0,Tryz.results47,gb,gr,g0,g1,g5,g7,h5,h8,Int.ofNat_lt,hcl,List.length_map]
   refine OkF_le (.cons (Le.refl _) (.cons (LeSt (Le.nil 6) (Le.nil 2)) (.cons (Le.refl _) .nil))) _ (add17_ok op zSt ((p.1.id,p.1.val),p.2) (FamS.zero _) hp.2 hp.1 (Nat.zero_le _) (Nat.zero_le _)) ?_
   simp only [↓rA,rB,buildOk,nt_is,simprocAttr,tbIA0,Tryz.results47,gb,gr,g0,g1,g5,g7,h5,h8,Int.ofNat_lt,hcl,List.length_map]
   generalize hA:addF (fam op) zSt p.1.val p.1.id p.2=A at *
   refine Or2.l ?_
   simp only [↓rA,rB,buildOk,nt_is,simprocAttr,tbIA0,Tryz.results47,gb,gr,g0,g1,g5,g7,h5,h8,Int.ofNat_lt,hcl,List.length_map,List.length_take,List.length_drop]
   refine fun y1=>⟨by omega,by omega,fun y2=>?_⟩
   refine OkF_of _ (same0_ok A) ?_
   by_cases hz:A=zSt
   ·rw [if_pos hz] at hst
    simp only [↓rA,rB,buildOk,nt_is,simprocAttr,tbIA0,Tryz.results47,gb,gr,g0,g1,g5,g7,h5,h8,Int.ofNat_lt,hcl,List.length_map,List.length_take,List.length_drop,hz]
    refine⟨by omega,by omega,fun y3=>⟨_,[],[],Le.list _ _ _,List.nil_sublist _,List.nil_sublist _,?_,rfl,rfl⟩⟩
    rw [hst]
    exact congrArg (V.list none 6) (List.take_append_drop c _)
   ·rw [if_neg hz] at hst
    simp only [↓rA,rB,buildOk,nt_is,simprocAttr,tbIA0,Tryz.results47,gb,gr,g0,g1,g5,g7,h5,h8,Int.ofNat_lt,hcl,List.length_map,List.length_take,List.length_drop,hz]
    refine fun y3=>takeRF_2 ?_
    simp only [↓rA,rB,buildOk,nt_is,simprocAttr,tbIA0,Tryz.results47,gb,gr,g0,g1,g5,g7,h5,h8,Int.ofNat_lt,hcl,List.length_map,List.length_take,List.length_drop,List.length_append,hz]
    refine⟨by omega,fun y4=>?_⟩
    refine⟨by omega,takeRF_1 ?_⟩
    simp only [↓rA,rB,buildOk,nt_is,simprocAttr,tbIA0,Tryz.results47,gb,gr,g0,g1,g5,g7,h5,h8,Int.ofNat_lt,hcl,List.length_map,List.length_take,List.length_drop,List.length_append,hz]
    refine⟨by show (_+1+_) * _≤_;omega,fun y5=>⟨_,[],[],Le.list _ _ _,List.nil_sublist _,List.nil_sublist _,?_,rfl,rfl⟩⟩
    rw [hst]
    exact congrArg (V.list none 6) (by rw [List.map_append,List.map_cons,List.map_take,List.map_drop,List.append_assoc];rfl)
end Go.Proofs.YtjdggbanifineaaGreat
set_option linter.unusedSimpArgs false
set_option maxRecDepth 100000
set_option linter.defProp false
namespace Go.Proofs.YtjdggbanifineaaGreat
open Go.VL Go.Ar Go.Sg Go.Lo Go.Proofs.YtjdggbanifineaaGreat Go.Proofs.YtjdggbanifineaaGreat.Arr
def tbIB0:=(aI (aI (aI (aI Ty.c46 Ty.c47) (aI Ty.t117 Ty.t22)) (aI (aI Ty.t26 Ty.t28) (aI Ty.t3 (aI Ty.t30 Ty.t31)))) (aI (aI (aI Ty.t4 Ty.t49) (aI Ty.t51 Ty.t52)) (aI (aI Ty.t53 Ty.t55) (aI Ty.t57 (aI Ty.t65 Ty.t9)))))
theorem update21_ok (op:Str) (l:List Cl) (ps:List Pk) (n:Nat) (own:Option Value) (h0:¬ fam op=0) (hg:GoodC (fam op) n l) (hn:n+ps.length≤80000) (hp:∀ p ∈ ps,inW p.2∧inW p.1.val.n):OkP Tryz.prog 16 [vstr op,vCls l,.list own 9 (ps.map cPk)] (vCls (updM (fam op) l ps)):=by
 refine Ok.of_ex Ty.mixed Tryz.func16 rfl (by simp [Tryz.ntmps16]) (by kernel_rfl) fun F w0 I0=>?_
 simp only [↓rA,rB,buildOk,nt_is,simprocAttr,tbIB0,Tryz.results16]
 refine OkF_of _ (known17_ok op) ?_
 simp only [↓rA,rB,buildOk,nt_is,simprocAttr,tbIB0,Tryz.results16,h0]
 refine EX_for Ty.mixed (by kernel_rfl) ps.length (fun i S=>S.boxes=[]∧S.rows=[]∧S.σ 0=vstr op∧S.σ 1=vCls (updM (fam op) l (ps.take i))∧S.σ 2=.list own 9 (ps.map cPk)∧S.σ 7=vint i) ⟨0,?_⟩ (fun i S hi ⟨gb,gr,g0,g1,g2,g7⟩=>?_) (fun S ⟨gb,gr,g0,g1,g2,g7⟩=>?_)
 ·simp only [↓rA,rB,buildOk,nt_is,simprocAttr,tbIB0,Tryz.results16]
  rfl
 ·have hgl:(ps.map cPk).getD i []=cPk ps[i]:=getD_map _ _ _ hi
  have w1:=wrap_succ hi (by omega)
  have hgi:=GoodC.upd h0 (ps:=ps.take i) hg fun p h=>(hp p (List.mem_of_mem_take h)).1
  rw [List.length_take,Nat.min_eq_left (by omega)] at hgi
  simp only [↓rA,rB,buildOk,nt_is,simprocAttr,tbIB0,Tryz.results16,gb,gr,g0,g1,g2,g7,Int.ofNat_lt,hi,hgl,w1,List.length_map]
  refine OkF_of _ (add21_ok op _ ps[i] _ h0 hgi (by omega) (hp _ (List.getElem_mem hi))) ?_
  rw [← updM_take _ _ _ _ hi]
  simp only [↓rA,rB,buildOk,nt_is,simprocAttr,tbIB0,Tryz.results16,gb,gr,g0,g1,g2,g7,Int.ofNat_lt,hi,hgl,w1,List.length_map]
  exact⟨0,trivial⟩
 ·rw [List.take_length] at g1
  simp only [↓rA,rB,buildOk,nt_is,simprocAttr,tbIB0,Tryz.results16,gb,gr,g0,g1,g2,g7,Int.ofNat_lt,Nat.lt_irrefl,List.length_map]
  exact ret_done rfl
def tbIB1:=(aI (aI (aI (aI Ty.c46 Ty.c47) (aI Ty.t117 Ty.t22)) (aI (aI Ty.t26 Ty.t28) (aI Ty.t3 (aI Ty.t30 Ty.t31)))) (aI (aI (aI Ty.t4 Ty.t49) (aI Ty.t51 Ty.t52)) (aI (aI Ty.t53 Ty.t55) (aI Ty.t57 (aI Ty.t65 Ty.t9)))))
theorem update210_ok (op:Str) (v w:V) (h0:fam op=0):OkP Tryz.prog 16 [vstr op,v,w] v:=by
 refine Ok.of_ex Ty.mixed Tryz.func16 rfl (by simp [Tryz.ntmps16]) (by kernel_rfl) fun F w0 I0=>?_
 simp only [↓rA,rB,buildOk,nt_is,simprocAttr,tbIB1,Tryz.results16]
 refine OkF_of _ (known17_ok op) ?_
 simp only [↓rA,rB,buildOk,nt_is,simprocAttr,tbIB1,Tryz.results16,h0]
 exact ret_done rfl
def tbIB2:=(aI (aI (aI (aI Ty.c16 Ty.t117) (aI Ty.t22 Ty.t26)) (aI (aI Ty.t28 Ty.t3) (aI Ty.t30 Ty.t31))) (aI (aI (aI Ty.t4 Ty.t49) (aI Ty.t51 Ty.t52)) (aI (aI Ty.t53 Ty.t55) (aI Ty.t57 (aI Ty.t65 Ty.t9)))))
theorem cells21_ok (op:Str) (ps:List Pk) (key:Str) (tick:Int) (hp:∀ p ∈ ps,inW p.2∧inW p.1.val.n) (hl:ps.length≤60):OkP Tryz.prog 12 [vstr op,vPks ps,vstr key,vint tick] (vCls (if fam op=0 then [] else cellsM (fam op) ps key tick)):=by
 refine Ok.of_ex Ty.mixed Tryz.func12 rfl (by simp [Tryz.ntmps12]) (by kernel_rfl) fun F w0 I0=>?_
 simp only [↓rA,rB,buildOk,nt_is,simprocAttr,tbIB2,Tryz.results12]
 refine AWP.nilRow 9 9 30 (by simp only [↓rA,rB,buildOk,nt_is,simprocAttr,tbIB2,Tryz.results12]) (by decide) ?_
 refine EX_forS Ty.mixed (by kernel_rfl) ps.length (fun i S=>(∃ y,S.rows=[⟨y,9,30⟩]∧S.σ 9=.list (some y) 9 (((ps.take i).filter (selB key tick)).map cPk))∧S.boxes=[]∧S.σ 0=vstr op∧S.σ 1=vPks ps∧S.σ 2=vstr key∧S.σ 3=vint tick∧S.σ 10=vint i) ⟨_,_,List.Sublist.refl _,List.Sublist.refl _,?_⟩ (fun i S hi ⟨⟨y,gr,g9⟩,gb,g0,g1,g2,g3,g10⟩=>?_) (fun S ⟨⟨y,gr,g9⟩,gb,g0,g1,g2,g3,g10⟩=>?_)
 ·simp only [↓rA,rB,buildOk,nt_is,simprocAttr,tbIB2,Tryz.results12]
  exact⟨nilv,rfl,rfl⟩
 ·have hst:=few_take key tick ps i hi
  have w1:=wrap_succ hi (by omega)
  have hgl:(ps.map cPk).getD i []=cPk ps[i]:=getD_map _ _ _ hi
  have hl2:((ps.take i).filter (selB key tick)).length≤60:=Nat.le_trans (List.length_filter_le _ _) (by rw [List.length_take];omega)
  have keep:selB key tick ps[i]=false→(∃ y',S.rows=[⟨y',9,30⟩]∧S.σ 9=.list (some y') 9 (((ps.take (i+1)).filter (selB key tick)).map cPk)):=fun hs=>by
   rw [hst,if_neg (by rw [hs];decide),List.append_nil]
   exact⟨y,gr,g9⟩
  by_cases h1:ps[i].1.key=key
  ·by_cases h2:ps[i].1.tick≤tick
   ·have hs:selB key tick ps[i]=true:=by simp [selB,h1,h2]
    rw [hst,if_pos hs]
    simp only [↓rA,rB,buildOk,nt_is,simprocAttr,tbIB2,Tryz.results12,gb,gr,g0,g1,g2,g3,g9,g10,Int.ofNat_lt,hi,hgl,h1,h2,w1,List.length_map]
    refine fun y1=>takeRF_2 ?_
    simp only [↓rA,rB,buildOk,nt_is,simprocAttr,tbIB2,Tryz.results12,gb,gr,g0,g1,g2,g3,g9,g10,Int.ofNat_lt,hi,hgl,h1,h2,w1,List.length_map]
    refine⟨by omega,fun y2=>?_⟩
    refine⟨[],[⟨y2,9,30⟩],List.nil_sublist _,List.Sublist.cons_cons _ (List.nil_sublist _),?_⟩
    simp only [↓rA,rB,buildOk,nt_is,simprocAttr,tbIB2,Tryz.results12,gb,g0,g1,g2,g3,g9]
    subst h1
    exact⟨_,rfl,by rw [List.map_append];rfl⟩
   ·have hs:selB key tick ps[i]=false:=by simp [selB,h1,h2]
    simp only [↓rA,rB,buildOk,nt_is,simprocAttr,tbIB2,Tryz.results12,gb,gr,g0,g1,g2,g3,g9,g10,Int.ofNat_lt,hi,hgl,h1,h2,w1,List.length_map]
    refine⟨[],[⟨y,9,30⟩],List.nil_sublist _,?_,?_⟩
    ·simp only [↓rA,rB,buildOk,nt_is,simprocAttr,tbIB2,Tryz.results12,gr]
     exact List.Sublist.refl _
    ·rw [hst,if_neg (by rw [hs];decide),List.append_nil]
     simp only [↓rA,rB,buildOk,nt_is,simprocAttr,tbIB2,Tryz.results12,gb,g0,g1,g2,g3,g9]
     exact⟨_,rfl,rfl⟩
  ·have hs:selB key tick ps[i]=false:=by simp [selB,h1]
   simp only [↓rA,rB,buildOk,nt_is,simprocAttr,tbIB2,Tryz.results12,gb,gr,g0,g1,g2,g3,g9,g10,Int.ofNat_lt,hi,hgl,h1,w1,List.length_map]
   refine⟨[],[⟨y,9,30⟩],List.nil_sublist _,?_,?_⟩
   ·simp only [↓rA,rB,buildOk,nt_is,simprocAttr,tbIB2,Tryz.results12,gr]
    exact List.Sublist.refl _
   ·rw [hst,if_neg (by rw [hs];decide),List.append_nil]
    simp only [↓rA,rB,buildOk,nt_is,simprocAttr,tbIB2,Tryz.results12,gb,g0,g1,g2,g3,g9]
    exact⟨_,rfl,rfl⟩
 ·rw [List.take_length] at g9
  simp only [↓rA,rB,buildOk,nt_is,simprocAttr,tbIB2,Tryz.results12,gb,gr,g0,g1,g2,g3,g9,g10,Int.ofNat_lt,Nat.lt_irrefl,List.length_map]
  by_cases h0:fam op=0
  ·rw [if_pos h0]
   refine OkF_of _ (update210_ok op nilS _ h0) ?_
   simp only [↓rA,rB,buildOk,nt_is,simprocAttr,tbIB2,Tryz.results12,gb,gr,g0,g1,g2,g3,g9]
   exact ret_le (Le.nil 6)
  ·rw [if_neg h0]
   refine OkF_le (.cons (Le.refl _) (.cons (Le.nil 6) (LeL.refl _))) _ (update21_ok op [] (ps.filter (selB key tick)) 0 (some y) h0 (GoodC.nil _ 0) (by have:=List.length_filter_le (selB key tick) ps;omega) (fun p h=>hp p (List.mem_filter.1 h).1)) ?_
   simp only [↓rA,rB,buildOk,nt_is,simprocAttr,tbIB2,Tryz.results12,gb,gr,g0,g1,g2,g3,g9]
   exact ret_done rfl
def tbIB3:=(aI (aI (aI (aI Ty.c19 Ty.c20) (aI Ty.c21 (aI Ty.c9 Ty.t117))) (aI (aI Ty.t22 Ty.t26) (aI Ty.t28 (aI Ty.t3 Ty.t30)))) (aI (aI (aI Ty.t31 Ty.t47) (aI Ty.t49 (aI Ty.t51 Ty.t52))) (aI (aI Ty.t53 Ty.t55) (aI Ty.t57 (aI Ty.t65 Ty.t9)))))
theorem cells0_ok (op:Str) (ps:List Pk) (key:Str) (tick:Int) (h0:fam op=0) (hl:ps.length≤10000):OkP Tryz.prog 8 [vstr op,vPks ps,vstr key,vint tick] (vCls []):=by
 have hu:OkP Tryz.prog 9 [vstr op,vCls [],vPks (ps.filter (selB key tick))] (vCls []):=update0_ok op _ _ h0
 refine Ok.of_ex Ty.mixed Tryz.func8 rfl (by simp [Tryz.ntmps8]) (by kernel_rfl) fun F w0 I0=>?_
 simp only [↓rA,rB,buildOk,nt_is,simprocAttr,tbIB3,Tryz.results8]
 refine fun b6 h6=>?_;replace h6:=newb h6;try simp only [Nb] at h6
 simp only [↓rA,rB,buildOk,nt_is,simprocAttr,tbIB3,Tryz.results8,h6]
 refine fun b7 h7=>?_;replace h7:=newb h7;try simp only [Nb] at h7
 simp only [↓rA,rB,buildOk,nt_is,simprocAttr,tbIB3,Tryz.results8,h6,h7]
 refine OkF_withN [] [_,_] (List.Perm.refl _) (cloneP_ok ps (by omega)) ?_
 rintro v bs rs ⟨rfl,⟨rfl,rfl,rfl⟩ | ⟨b,c,hlc,rfl,rfl⟩⟩ hN
 ·simp only [↓rA,rB,buildOk,nt_is,simprocAttr,tbIB3,Tryz.results8,h6,h7]
  refine OkF_of _ (deletePNil_ok _) ?_
  simp only [↓rA,rB,buildOk,nt_is,simprocAttr,tbIB3,Tryz.results8,h6,h7]
  refine OkF_le (.cons (Le.refl _) (.cons (Le.nil 6) (.cons (Le.nil 9) .nil))) _ hu ?_
  simp only [↓rA,rB,buildOk,nt_is,simprocAttr,tbIB3,Tryz.results8]
  exact ret_done rfl
 ·simp only [List.cons_append,List.nil_append,List.map_cons,List.map_nil,List.nodup_cons,List.mem_cons,List.not_mem_nil,or_false,not_or,List.nodup_nil,not_false_eq_true,and_true] at hN
  simp only [↓rA,rB,buildOk,nt_is,simprocAttr,tbIB3,Tryz.results8,h6,h7]
  refine OkF_with [_,_,_] [] (pmr _ _ _) (deleteP_ok ps key tick b6 b7 b c (by simp only [Dum,and_true] at h7;exact h7) ⟨hN.1.2,fun e=>hN.1.2 e.symm⟩ ⟨hN.1.1,fun e=>hN.1.1 e.symm⟩ _ (by omega) hlc) ?_
  rintro v bs rs ⟨rfl,r',rfl,rfl⟩
  simp only [↓rA,rB,buildOk,nt_is,simprocAttr,tbIB3,Tryz.results8]
  have hcap:(ps.filter (selB key tick)).length≤c:=Nat.le_trans (List.length_filter_le _ _) hlc
  generalize ps.filter (selB key tick)=fl at hu hcap ⊢
  refine OkF_with [_] [] (List.Perm.refl _) (Ok.consume (n:=fl.length) (c:=c) (k:=9) (es:=fl.map cPk) ⟨List.take_left' (cells_lenP fl),fun e he=>by obtain⟨x,_,rfl⟩:=List.mem_map.1 he;rfl,by simp,hcap⟩ (.cons (.same _) (.cons (.same _) (.cons .here .nil))) (Ok.le (.cons (Le.refl _) (.cons (Le.nil 6) (.cons (Le.list _ _ _) .nil))) hu)) ?_
  rintro v bs rs ⟨rfl,rfl,rfl⟩
  simp only [↓rA,rB,buildOk,nt_is,simprocAttr,tbIB3,Tryz.results8]
  exact ret_done rfl
end Go.Proofs.YtjdggbanifineaaGreat
set_option linter.unusedSimpArgs false
set_option maxRecDepth 100000
set_option linter.defProp false
namespace Go.Ar
open Go.VL Go.Sg Go.Lo
def insZ (k:PK) (n:Int):List Pk→List Pk
 | []=>[(k,n)]
 | p::r=>if ordP.lt p.1 k=true then p::insZ k n r else if p.1=k then (k,addW.add p.2 n)::r else (k,n)::p::r
abbrev nzP (p:Pk):Bool:=decide (¬ p.2=0)
abbrev SrtP (l:List Pk):Prop:=l.Pairwise fun a b=>ordP.lt a.1 b.1=true
theorem insZ_key (k:PK) (n:Int):∀ (l:List Pk) (q:Pk),q ∈ insZ k n l→q.1=k∨∃ p ∈ l,p.1=q.1
 | [],q,h=>.inl (by rw [List.mem_singleton.1 h])
 | p::l,q,h=>by
  have ih:=insZ_key k n l q
  unfold insZ at h
  split at h
  ·rcases List.mem_cons.1 h with rfl | h
   ·exact .inr ⟨_,List.mem_cons_self,rfl⟩
   ·rcases ih h with h | ⟨r,hr,e⟩
    ·exact .inl h
    ·exact .inr ⟨r,List.mem_cons_of_mem _ hr,e⟩
  ·split at h
   ·rcases List.mem_cons.1 h with rfl | h
    ·exact .inl rfl
    ·exact .inr ⟨q,List.mem_cons_of_mem _ h,rfl⟩
   ·rcases List.mem_cons.1 h with rfl | h
    ·exact .inl rfl
    ·exact .inr ⟨q,h,rfl⟩
theorem insZ_srt {k:PK} {n:Int}:∀ {l:List Pk},SrtP l→SrtP (insZ k n l)
 | [],_=>List.pairwise_singleton _ _
 | p::l,h=>by
  obtain⟨h1,h2⟩:=List.pairwise_cons.1 h
  unfold insZ
  split
  ·rename_i hlt
   refine List.pairwise_cons.2 ⟨fun q hq=>?_,insZ_srt h2⟩
   rcases insZ_key k n l q hq with e | ⟨r,hr,e⟩
   ·rw [e];exact hlt
   ·rw [← e];exact h1 r hr
  ·rename_i hlt
   split
   ·rename_i he
    exact List.pairwise_cons.2 ⟨fun q hq=>by rw [← he];exact h1 q hq,h2⟩
   ·rename_i hne
    have hk:ordP.lt k p.1=true:=by
     cases hx:ordP.lt k p.1
     ·exact absurd (ordP.tot (by simpa using hlt) hx) hne
     ·rfl
    refine List.pairwise_cons.2 ⟨fun q hq=>?_,h⟩
    rcases List.mem_cons.1 hq with rfl | hq
    ·exact hk
    ·exact ordP.tr hk (h1 q hq)
theorem insZ_put {k:PK} {n:Int} (hn:inW n):∀ {l:List Pk},SrtP l→(insZ k n l).filter nzP=put ordP addW k n (l.filter nzP)
 | [],_=>by
  unfold insZ
  by_cases h:n=0
  ·simp [h,put,show addW.z=(0:Int) from rfl]
  ·simp [h,put,show addW.z=(0:Int) from rfl]
 | p::l,h=>by
  obtain⟨h1,h2⟩:=List.pairwise_cons.1 h
  have ih:=insZ_put (k:=k) hn h2
  have hz:addW.z=(0:Int):=rfl
  have gt:∀ x,(∀ q ∈ l,ordP.lt x q.1=true)→∀ q ∈ l.filter nzP,ordP.lt x q.1=true:=fun x hx q hq=>hx q (List.mem_filter.1 hq).1
  unfold insZ
  split
  ·rename_i hlt
   by_cases hp:p.2=0
   ·rw [List.filter_cons_of_neg (by simp [hp]),List.filter_cons_of_neg (by simp [hp]),ih]
   ·rw [List.filter_cons_of_pos (by simp [hp]),List.filter_cons_of_pos (by simp [hp]),ih]
    conv=>rhs;unfold put
    rw [if_pos hlt]
  ·rename_i hlt
   split
   ·rename_i he
    have hg:∀ q ∈ l.filter nzP,ordP.lt k q.1=true:=gt k fun q hq=>by rw [← he];exact h1 q hq
    by_cases hp:p.2=0
    ·have ea:addW.add p.2 n=n:=by rw [hp];exact addW.zadd hn
     rw [List.filter_cons_of_neg (a:=p) (by simp [hp]),ea]
     by_cases h0:n=0
     ·subst h0
      rw [List.filter_cons_of_neg (by simp)]
      exact(put_zeroS hg).symm
     ·rw [List.filter_cons_of_pos (by simp [h0]),put_miss (show ¬ n=addW.z from h0) hg]
    ·rw [List.filter_cons_of_pos (a:=p) (by simp [hp])]
     have ep:p=(k,p.2):=by rw [← he]
     rw [show put ordP addW k n (p::l.filter nzP)=put ordP addW k n ((k,p.2)::l.filter nzP) by rw [← ep],put_hit,hz]
     by_cases h0:addW.add p.2 n=0
     ·rw [if_pos h0,List.filter_cons_of_neg (by simp [h0])]
     ·rw [if_neg h0,List.filter_cons_of_pos (by simp [h0])]
   ·rename_i hne
    have hk:ordP.lt k p.1=true:=by
     cases hx:ordP.lt k p.1
     ·exact absurd (ordP.tot (by simpa using hlt) hx) hne
     ·rfl
    have hg:∀ q ∈ (p::l).filter nzP,ordP.lt k q.1=true:=fun q hq=>by
     rcases List.mem_cons.1 (List.mem_filter.1 hq).1 with rfl | hq
     ·exact hk
     ·exact ordP.tr hk (h1 q hq)
    by_cases h0:n=0
    ·subst h0
     rw [List.filter_cons_of_neg (by simp)]
     exact(put_zeroS hg).symm
    ·rw [List.filter_cons_of_pos (a:=(k,n)) (by simp [h0]),put_miss (show ¬ n=addW.z from h0) hg]
def insZs (l m:List Pk):List Pk:=m.foldl (fun l p=>insZ p.1 p.2 l) l
theorem insZs_cons:∀ (m l:List Pk),SrtP l→(∀ p ∈ m,inW p.2)→(insZs l m).filter nzP=puts ordP addW (l.filter nzP) m
 | [],_,_,_=>rfl
 | p::m,l,hs,hm=>by
  have:=insZs_cons m (insZ p.1 p.2 l) (insZ_srt hs) fun q hq=>hm q (List.mem_cons_of_mem _ hq)
  rw [insZ_put (hm p List.mem_cons_self) hs] at this
  exact this
theorem insZs_srt:∀ (m l:List Pk),SrtP l→SrtP (insZs l m)
 | [],_,h=>h
 | p::m,l,h=>insZs_srt m (insZ p.1 p.2 l) (insZ_srt h)
theorem insZ_len (k:PK) (n:Int):∀ l:List Pk,(insZ k n l).length≤l.length+1
 | []=>by simp [insZ]
 | p::l=>by
  have ih:=insZ_len k n l
  unfold insZ
  split
  ·simp only [List.length_cons];omega
  ·split <;> simp only [List.length_cons] <;> omega
end Go.Ar
namespace Go.Proofs.YtjdggbanifineaaGreat
open Go.VL Go.Ar Go.Sg Go.Lo Go.Proofs.YtjdggbanifineaaGreat Go.Proofs.YtjdggbanifineaaGreat.Arr
def tbIC0:=(aI (aI (aI Ty.c70 Ty.c71) (aI Ty.t26 Ty.t28)) (aI (aI Ty.t3 Ty.t30) (aI Ty.t4 Ty.t9)))
theorem cmp21_ok (a b:Pk):OkP Tryz.prog 45 [.agg (cPk a),.agg (cPk b)] (vint (cmpPK a.1 b.1)):=by
 have hm:cmpPK a.1 b.1=if cmpS a.1.key b.1.key=0 then (if cmpI a.1.event b.1.event=0 then (if cmpID a.1.id b.1.id=0 then (if cmpVal a.1.val b.1.val=0 then cmpI a.1.tick b.1.tick else cmpVal a.1.val b.1.val) else cmpID a.1.id b.1.id) else cmpI a.1.event b.1.event) else cmpS a.1.key b.1.key:=by
  unfold cmpPK;rw [orL_cons,orL_cons,orL_cons,orL2]
 rw [hm]
 refine Ok.of_ex Ty.mixed Tryz.func45 rfl (by simp [Tryz.ntmps45]) (by kernel_rfl) fun F w0 I0=>?_
 simp only [↓rA,rB,buildOk,nt_is,simprocAttr,tbIC0,Tryz.results45]
 refine fun b1 h1=>?_;replace h1:=newb h1;try simp only [Nb] at h1
 simp only [↓rA,rB,buildOk,nt_is,simprocAttr,tbIC0,Tryz.results45,h1]
 refine fun b2 h2=>?_;replace h2:=newb h2;try simp only [Nb] at h2
 simp only [↓rA,rB,buildOk,nt_is,simprocAttr,tbIC0,Tryz.results45,h1,h2]
 by_cases hk:a.1.key=b.1.key
 ·have hs:cmpS a.1.key b.1.key=0:=by rw [hk];exact cmpS_refl _
  rw [if_pos hs]
  replace hk:=eq_true hk
  by_cases he:a.1.event=b.1.event
  ·have hz:cmpI a.1.event b.1.event=0:=by rw [he];simp [cmpI]
   rw [if_pos hz]
   simp only [↓rA,rB,buildOk,nt_is,simprocAttr,tbIC0,Tryz.results45,h1,h2,hk,he]
   refine OkF_of _ (cmpID13_ok a.1.id b.1.id) ?_
   by_cases hi:cmpID a.1.id b.1.id=0
   ·rw [if_pos hi]
    simp only [↓rA,rB,buildOk,nt_is,simprocAttr,tbIC0,Tryz.results45,h1,h2,hi]
    refine OkF_of _ (cmpVal05_ok a.1.val b.1.val) ?_
    by_cases hv:cmpVal a.1.val b.1.val=0
    ·rw [if_pos hv]
     by_cases ht:a.1.tick=b.1.tick
     ·have hz:cmpI a.1.tick b.1.tick=0:=by rw [ht];simp [cmpI]
      simp only [↓rA,rB,buildOk,nt_is,simprocAttr,tbIC0,Tryz.results45,h1,h2,hv,ht]
      exact ret_done (by simp [cmpI])
     ·by_cases hl:a.1.tick < b.1.tick
      ·have hz:cmpI a.1.tick b.1.tick=-1:=by simp [cmpI,hl]
       simp only [↓rA,rB,buildOk,nt_is,simprocAttr,tbIC0,Tryz.results45,h1,h2,hv,ht,hl]
       exact ret_done (by rw [hz])
      ·have hz:cmpI a.1.tick b.1.tick=1:=by simp only [cmpI];rw [if_neg hl,if_pos (by omega)]
       simp only [↓rA,rB,buildOk,nt_is,simprocAttr,tbIC0,Tryz.results45,h1,h2,hv,ht,hl]
       exact ret_done (by rw [hz])
    ·rw [if_neg hv]
     simp only [↓rA,rB,buildOk,nt_is,simprocAttr,tbIC0,Tryz.results45,h1,h2,hv]
     exact ret_done rfl
   ·rw [if_neg hi]
    simp only [↓rA,rB,buildOk,nt_is,simprocAttr,tbIC0,Tryz.results45,h1,h2,hi]
    exact ret_done rfl
  ·by_cases hl:a.1.event < b.1.event
   ·have hz:cmpI a.1.event b.1.event=-1:=by simp [cmpI,hl]
    rw [if_neg (by rw [hz];decide),hz]
    simp only [↓rA,rB,buildOk,nt_is,simprocAttr,tbIC0,Tryz.results45,h1,h2,hk,he,hl]
    exact ret_done rfl
   ·have hz:cmpI a.1.event b.1.event=1:=by simp only [cmpI];rw [if_neg hl,if_pos (by omega)]
    rw [if_neg (by rw [hz];decide),hz]
    simp only [↓rA,rB,buildOk,nt_is,simprocAttr,tbIC0,Tryz.results45,h1,h2,hk,he,hl]
    exact ret_done rfl
 ·cases hl:Op.bytesLess a.1.key.data.toList b.1.key.data.toList
  ·have hz:=cmpS_gt hl hk
   rw [if_neg (by rw [hz];decide),hz]
   simp only [↓rA,rB,buildOk,nt_is,simprocAttr,tbIC0,Tryz.results45,h1,h2,hk,hl]
   exact ret_done rfl
  ·have hz:=cmpS_lt hl
   rw [if_neg (by rw [hz];decide),hz]
   simp only [↓rA,rB,buildOk,nt_is,simprocAttr,tbIC0,Tryz.results45,h1,h2,hk,hl]
   exact ret_done rfl
end Go.Proofs.YtjdggbanifineaaGreat
set_option linter.unusedSimpArgs false
set_option maxRecDepth 100000
set_option linter.defProp false
namespace Go.Ar
open Go.VL Go.Sg Go.Lo
theorem insZ_ahead {k:PK} {n:Int}:∀ {l m:List Pk},(∀ p ∈ l,ordP.lt p.1 k=true)→insZ k n (l++m)=l++insZ k n m
 | [],_,_=>rfl
 | p::l,m,h=>by
  have ih:=insZ_ahead (k:=k) (n:=n) (l:=l) (m:=m) fun q hq=>h q (List.mem_cons_of_mem _ hq)
  show insZ k n (p::(l++m))=p::(l++insZ k n m)
  rw [← ih]
  show (if ordP.lt p.1 k=true then p::insZ k n (l++m) else _)=_
  rw [if_pos (h p List.mem_cons_self)]
theorem insZ_hit {k:PK} {n a:Int} {m:List Pk}:insZ k n ((k,a)::m)=(k,addW.add a n)::m:=by
 unfold insZ
 rw [if_neg (by rw [ordP.irr];decide),if_pos rfl]
theorem insZ_miss {k:PK} {n:Int} {m:List Pk} (h:∀ p ∈ m,ordP.lt k p.1=true):insZ k n m=(k,n)::m:=by
 cases m with
 | nil=>rfl
 | cons p m =>
  have h1:=h p List.mem_cons_self
  unfold insZ
  rw [if_neg (by rw [ordP.asym h1];decide),if_neg (fun e=>ordP.ne h1 e.symm)]
structure SplitP (K:List Pk) (p:Pk) (c:Nat) (hit:Bool):Prop where
 le:c≤K.length
 lt:∀ i,(h:i < K.length)→(i < c↔cmpPK K[i].1 p.1 < 0)
 at0:∀ h:c < K.length,hit=true↔cmpPK K[c].1 p.1=0
 hlt:hit=true→c < K.length
 put:∀ h:hit=true,insZ p.1 p.2 K=K.take c++(p.1,IntKind.i64.wrap ((K.getD c p).2+p.2))::K.drop (c+1)
 key:∀ h:hit=true,∀ h':c < K.length,K[c].1=p.1
 new:hit=false→insZ p.1 p.2 K=K.take c++p::K.drop c
theorem ltPK {a b:PK}:ordP.lt a b=true↔cmpPK a b < 0:=by
 show decide (cmpPK a b < 0)=true↔_
 rw [decide_eq_true_eq]
theorem splitP_ex {K:List Pk} (hs:SrtP K) (p:Pk):∃ c hit,SplitP K p c hit:=by
 obtain⟨A,R,rfl,hA,hR⟩:=split_list ordP p.1 K hs
 have gtn:∀ {q:PK},ordP.lt p.1 q=true→0 < cmpPK q p.1:=fun {q} h=>by
  have:=ltPK.1 h
  rw [pre_cmpPK.anti p.1 q]
  omega
 rcases hR with⟨a,R',rfl,hR⟩ | hR
 ·refine⟨A.length,true,by simp,fun i h=>?_,fun h=>?_,fun _=>by simp,fun _=>?_,fun _ h=>?_,fun h=>by cases h⟩
  ·rcases Nat.lt_or_ge i A.length with h1 | h1
   ·rw [List.getElem_append_left h1]
    exact⟨fun _=>ltPK.1 (hA _ (List.getElem_mem h1)),fun _=>h1⟩
   ·rw [List.getElem_append_right h1]
    refine⟨fun h=>by omega,fun h2=>?_⟩
    rcases Nat.eq_or_lt_of_le h1 with e | e
    ·subst e
     simp only [Nat.sub_self,List.getElem_cons_zero] at h2
     rw [pre_cmpPK.refl] at h2
     omega
    ·obtain⟨k,rfl⟩:∃ k,i=A.length+k+1:=⟨i - A.length - 1,by omega⟩
     have e2:A.length+k+1 - A.length=k+1:=by omega
     simp only [e2,List.getElem_cons_succ] at h2
     have:=gtn (hR _ (List.getElem_mem (l:=R') (n:=k) (by simp at h;omega)))
     omega
  ·rw [List.getElem_append_right (Nat.le_refl _)]
   simp only [Nat.sub_self,List.getElem_cons_zero]
   exact⟨fun _=>pre_cmpPK.refl _,fun _=>trivial⟩
  ·rw [insZ_ahead hA,insZ_hit,List.take_left' rfl]
   have ed:(A++(p.1,a)::R').drop (A.length+1)=R':=by simp
   have eg:(A++(p.1,a)::R').getD A.length p=(p.1,a):=by simp [List.getD]
   rw [ed,eg]
   rfl
  ·rw [List.getElem_append_right (Nat.le_refl _)]
   simp
 ·refine⟨A.length,false,by simp,fun i h=>?_,fun h=>?_,(fun h=>by cases h),(fun h=>by cases h),(fun h=>by cases h),fun _=>?_⟩
  ·rcases Nat.lt_or_ge i A.length with h1 | h1
   ·rw [List.getElem_append_left h1]
    exact⟨fun _=>ltPK.1 (hA _ (List.getElem_mem h1)),fun _=>h1⟩
   ·rw [List.getElem_append_right h1]
    have:=gtn (hR _ (List.getElem_mem (l:=R) (n:=i - A.length) (by simp at h;omega)))
    exact⟨fun h=>by omega,fun h=>by omega⟩
  ·rw [List.getElem_append_right (Nat.le_refl _)]
   have:=gtn (hR _ (List.getElem_mem (l:=R) (n:=A.length - A.length) (by simp at h;omega)))
   exact⟨fun h=>(by cases h),fun h=>by omega⟩
  ·rw [insZ_ahead hA,insZ_miss hR,List.take_left' rfl,List.drop_left' rfl]
theorem pick_cut (K:List Pk) (c:Nat) (h:c < K.length) (rest:List V):(K.map cPk).flatten++rest=((K.take c).map cPk).flatten++(cPk K[c]++(((K.drop (c+1)).map cPk).flatten++rest)):=by
 conv=>lhs;rw [← List.take_append_drop c K,List.drop_eq_getElem_cons h]
 simp only [List.map_append,List.map_cons,List.flatten_append,List.flatten_cons,List.append_assoc]
theorem storeN (X Y:List V) (q:Pk) (w:Int) (c:Nat) (hX:X.length=c * 9):List.take (c * 9+8) (X++(cPk q++Y))++[vint w]++List.drop (c * 9+8+1) (X++(cPk q++Y))=X++(cPk (q.1,w)++Y):=by
 have e1:List.take (c * 9+8) (X++(cPk q++Y))=X++(cPk q++Y).take 8:=by rw [List.take_append,List.take_of_length_le (by omega),show c * 9+8 - X.length=8 by omega]
 have e2:List.drop (c * 9+8+1) (X++(cPk q++Y))=(cPk q++Y).drop 9:=by rw [List.drop_append,List.drop_of_length_le (by omega),List.nil_append,show c * 9+8+1 - X.length=9 by omega]
 rw [e1,e2]
 simp
def PkAt (K:List Pk) (v:V) (bs:List (Nat × B)):Prop :=
 (K=[]∧v=nilS∧bs=[])∨∃ b c rest,(K.length≤c∧rest.length=(c - K.length) * 9)∧v=.lit (.slice (some ⟨b,0,none⟩) K.length c)∧bs=[(b,.c ((K.map cPk).flatten++rest))]
theorem pk_ins {K:List Pk} {c:Nat} {rest:List V} (h:c≤K.length) (p:Pk) (A2 A3 A4:List V):List.take ((c+1) * 9) (List.take (c * 9) (List.take (c * 9) ((K.map cPk).flatten++rest)++A2)++[cPk p].flatten++A3)++List.take ((K.length - c) * 9) (List.drop (c * 9) ((K.map cPk).flatten++rest))++A4=((K.take c++p::K.drop c).map cPk).flatten++A4:=by
 have hX:(((K.take c).map cPk).flatten).length=c * 9:=by rw [cells_lenP,List.length_take,Nat.min_eq_left h]
 have hZ:(((K.drop c).map cPk).flatten).length=(K.length - c) * 9:=by rw [cells_lenP,List.length_drop]
 have hF:(K.map cPk).flatten++rest=((K.take c).map cPk).flatten++(((K.drop c).map cPk).flatten++rest):=by
  conv=>lhs;rw [← List.take_append_drop c K]
  simp only [List.map_append,List.flatten_append,List.append_assoc]
 have hp:(((K.take c).map cPk).flatten++[cPk p].flatten).length=(c+1) * 9:=by rw [List.length_append,hX];show _+9=_;omega
 rw [hF,List.take_left' hX,List.take_left' hX,List.take_left' hp,List.drop_left' hX,List.take_left' hZ]
 simp
theorem insZs_take (ps:List Pk) (i:Nat) (h:i < ps.length):insZs [] (ps.take (i+1))=insZ ps[i].1 ps[i].2 (insZs [] (ps.take i)):=by
 unfold insZs
 rw [List.take_succ_eq_append_getElem h,List.foldl_append]
 rfl
theorem insZs_len:∀ (m l:List Pk),(insZs l m).length≤l.length+m.length
 | [],l=>by simp [insZs]
 | p::m,l=>by
  have h1:=insZs_len m (insZ p.1 p.2 l)
  have h2:=insZ_len p.1 p.2 l
  simp only [List.length_cons]
  show (insZs (insZ p.1 p.2 l) m).length≤_
  omega
end Go.Ar
namespace Go.Proofs.YtjdggbanifineaaGreat
open Go.VL Go.Ar Go.Sg Go.Lo Go.Proofs.YtjdggbanifineaaGreat Go.Proofs.YtjdggbanifineaaGreat.Arr
def tbID0:=(aI (aI (aI Ty.c45 Ty.t22) (aI Ty.t26 Ty.t28)) (aI (aI Ty.t3 Ty.t30) (aI Ty.t4 Ty.t9)))
set_option maxHeartbeats 2000000 in
theorem cons21_ok (ps:List Pk) (hl:ps.length≤60) (hin:∀ p ∈ ps,inW p.2):OkP Tryz.prog 15 [vPks ps] (vPks (consP ps)):=by
 have hcons:(insZs [] ps).filter nzP=consP ps:=insZs_cons ps [] List.Pairwise.nil hin
 refine Ok.of_ex Ty.mixed Tryz.func15 rfl (by simp [Tryz.ntmps15]) (by kernel_rfl) fun F w0 I0=>?_
 simp only [↓rA,rB,buildOk,nt_is,simprocAttr,tbID0,Tryz.results15]
 refine EX_forP Ty.mixed (by kernel_rfl) ps.length (fun i S=>PkAt (insZs [] (ps.take i)) (S.σ 3) S.boxes∧S.rows=[]∧S.σ 0=vPks ps∧S.σ 4=vint i) ⟨_,_,_,_,List.Sublist.refl _,List.Sublist.refl _,List.Perm.refl _,List.Perm.refl _,?_⟩ (fun i S hi ⟨hW,gr,g0,g4⟩=>?_) (fun S ⟨hW,gr,g0,g4⟩=>?_)
 ·simp only [↓rA,rB,buildOk,nt_is,simprocAttr,tbID0,Tryz.results15]
  exact .inl ⟨rfl,rfl,rfl⟩
 ·have hst:=insZs_take ps i hi
  have hsr:=insZs_srt (ps.take i) [] List.Pairwise.nil
  have hln:=insZs_len (ps.take i) []
  rw [List.length_take,List.length_nil] at hln
  have hgl:(ps.map cPk).getD i []=cPk ps[i]:=getD_map _ _ _ hi
  have w1:=wrap_succ hi (by omega)
  obtain⟨c,hit,hsp⟩:=splitP_ex hsr ps[i]
  obtain⟨s1,s2,s3,s4,s5,s6,s7⟩:=hsp
  rw [hst]
  generalize insZs [] (ps.take i)=K at *
  rcases hW with⟨rfl,g3,gb⟩ | ⟨b,cc,rest,⟨q1,q2⟩,g3,gb⟩
  ·simp only [List.length_nil] at s1 s4
   simp only [↓rA,rB,buildOk,nt_is,simprocAttr,tbID0,Tryz.results15,gb,gr,g0,g3,g4,Int.ofNat_lt,hi,List.length_map]
   refine EX_for Ty.mixed (by kernel_rfl) 0 (fun j S=>S.boxes=[]∧S.rows=[]∧S.σ 0=vPks ps∧S.σ 3=nilS∧S.σ 4=vint i∧S.σ 5=vint j) ⟨0,?_⟩ (fun j S hj=>absurd hj (Nat.not_lt_zero j)) (fun S ⟨gb,gr,g0,g3,g4,g5⟩=>?_)
   ·simp only [↓rA,rB,buildOk,nt_is,simprocAttr,tbID0,Tryz.results15,gb,gr,g0,g3,g4]
    try rfl
   ·have n0:((0:Nat):Int)=0:=rfl
    simp only [↓rA,rB,buildOk,nt_is,simprocAttr,tbID0,Tryz.results15,gb,gr,g0,g3,g4,g5,n0,Int.ofNat_lt,hi,hgl,List.length_map]
    refine Or2.r ?_
    simp only [↓rA,rB,buildOk,nt_is,simprocAttr,tbID0,Tryz.results15,gb,gr,g0,g3,g4,g5,n0,Int.ofNat_lt,hi,hgl,List.length_map]
    refine fun bn hb=>?_;replace hb:=newb hb;try simp only [Nb] at hb
    simp only [↓rA,rB,buildOk,nt_is,simprocAttr,tbID0,Tryz.results15,gb,gr,g0,g3,g4,g5,n0,Int.ofNat_lt,hi,hgl,hb,List.length_map]
    refine Or2.r ?_
    simp only [↓rA,rB,buildOk,nt_is,simprocAttr,tbID0,Tryz.results15,gb,gr,g0,g3,g4,g5,n0,Int.ofNat_lt,hi,hgl,hb,List.length_map]
    refine⟨by simp,fun b2 c2 hb2 hc2=>?_⟩
    replace hb2:=newb hb2;try simp only [Nb] at hb2
    simp only [↓rA,rB,buildOk,nt_is,simprocAttr,tbID0,Tryz.results15,gb,gr,g0,g3,g4,g5,n0,Int.ofNat_lt,hi,hgl,hb2,w1,List.length_map]
    refine fun y=>Or2.r ?_
    simp only [↓rA,rB,buildOk,nt_is,simprocAttr,tbID0,Tryz.results15,gb,gr,g0,g3,g4,g5,n0,Int.ofNat_lt,hi,hgl,hb2,w1,remB,List.length_map]
    refine⟨by simp [anys],fun b3 c3 hb3 hc3=>?_⟩
    replace hb3:=newb hb3;try simp only [Nb] at hb3
    simp only [↓rA,rB,buildOk,nt_is,simprocAttr,tbID0,Tryz.results15,gb,gr,g0,g3,g4,g5,n0,Int.ofNat_lt,hi,hgl,hb3,w1,remB,List.length_map]
    refine Or2.r ?_
    simp only [↓rA,rB,buildOk,nt_is,simprocAttr,tbID0,Tryz.results15,gb,gr,g0,g3,g4,g5,n0,Int.ofNat_lt,hi,hgl,hb3,w1,remB,List.drop_nil,List.length_map]
    refine⟨⟨by simp [anys];omega,hc3⟩,fun b4 c4 hb4 hc4=>?_⟩
    replace hb4:=newb hb4;try simp only [Nb] at hb4
    simp only [↓rA,rB,buildOk,nt_is,simprocAttr,tbID0,Tryz.results15,gb,gr,g0,g3,g4,g5,n0,Int.ofNat_lt,hi,hgl,hb4,w1,remB,List.drop_nil,List.length_map]
    refine⟨_,[],_,_,List.Sublist.refl _,List.nil_sublist _,List.Perm.refl _,List.Perm.refl _,?_⟩
    simp only [↓rA,rB,buildOk,nt_is,simprocAttr,tbID0,Tryz.results15,gb,gr,g0,g3,g4]
    exact .inr ⟨b4,c4,anys ((c4 - 1) * 9),⟨by show 1≤c4;omega,by simp [anys,insZ]⟩,rfl,by simp [insZ]⟩
  ·simp only [↓rA,rB,buildOk,nt_is,simprocAttr,tbID0,Tryz.results15,gb,gr,g0,g3,g4,Int.ofNat_lt,hi,List.length_map]
   refine EX_for Ty.mixed (by kernel_rfl) c (fun j S=>S.boxes=[(b,.c ((K.map cPk).flatten++rest))]∧S.rows=[]∧S.σ 0=vPks ps∧S.σ 3=.lit (.slice (some ⟨b,0,none⟩) K.length cc)∧S.σ 4=vint i∧S.σ 5=vint j) ⟨0,?_⟩ (fun j S hj ⟨gb,gr,g0,g3,g4,g5⟩=>?_) (fun S ⟨gb,gr,g0,g3,g4,g5⟩=>?_)
   ·simp only [↓rA,rB,buildOk,nt_is,simprocAttr,tbID0,Tryz.results15,gb,gr,g0,g3,g4]
    try rfl
   ·have hjl:j < K.length:=by omega
    obtain⟨X,Y,hX,eX⟩:=pick_cells K j hjl rest
    have dX:List.drop (j * 9) ((K.map cPk).flatten++rest)=cPk K[j]++Y:=by rw [eX,List.drop_left' hX]
    have hlt:=(s2 j hjl).1 hj
    have w2:=wrap_succ hjl (by omega)
    have hcmp:=cmp21_ok K[j] ps[i]
    simp only [↓rA,rB,buildOk,nt_is,simprocAttr,tbID0,Tryz.results15,gb,gr,g0,g3,g4,g5,Int.ofNat_lt,hi,hjl,hgl,dX,List.length_map]
    refine CallV_of _ hcmp.v ?_
    simp only [↓rA,rB,buildOk,nt_is,simprocAttr,tbID0,Tryz.results15,gb,gr,g0,g3,g4,g5,Int.ofNat_lt,hi,hjl,hgl,dX,hlt,w2,List.length_map]
    exact⟨0,rfl⟩
   ·by_cases hcl:c < K.length
    ·obtain⟨X,Y,hX,eX⟩:=pick_cells K c hcl rest
     have dX:List.drop (c * 9) ((K.map cPk).flatten++rest)=cPk K[c]++Y:=by rw [eX,List.drop_left' hX]
     have hge:=mt (s2 c hcl).2 (Nat.lt_irrefl c)
     have hcmp:=cmp21_ok K[c] ps[i]
     simp only [↓rA,rB,buildOk,nt_is,simprocAttr,tbID0,Tryz.results15,gb,gr,g0,g3,g4,g5,Int.ofNat_lt,hi,hcl,hgl,dX,List.length_map]
     refine CallV_of _ hcmp.v ?_
     simp only [↓rA,rB,buildOk,nt_is,simprocAttr,tbID0,Tryz.results15,gb,gr,g0,g3,g4,g5,Int.ofNat_lt,hi,hcl,hgl,dX,hge,List.length_map]
     refine CallV_of _ hcmp.v ?_
     cases hit
     ·have hz:=mt (s3 hcl).2 (by decide)
      simp only [↓rA,rB,buildOk,nt_is,simprocAttr,tbID0,Tryz.results15,gb,gr,g0,g3,g4,g5,Int.ofNat_lt,hi,hcl,hgl,dX,hz,List.length_map]
      refine Or2.r ?_
      simp only [↓rA,rB,buildOk,nt_is,simprocAttr,tbID0,Tryz.results15,gb,gr,g0,g3,g4,g5,Int.ofNat_lt,hi,hcl,hgl,dX,List.length_map]
      refine fun bn hb=>?_;replace hb:=newb hb;try simp only [Nb] at hb
      simp only [↓rA,rB,buildOk,nt_is,simprocAttr,tbID0,Tryz.results15,gb,gr,g0,g3,g4,g5,Int.ofNat_lt,hi,hcl,hgl,dX,hb,List.length_map]
      refine⟨by omega,Or2.r ?_⟩
      simp only [↓rA,rB,buildOk,nt_is,simprocAttr,tbID0,Tryz.results15,gb,gr,g0,g3,g4,g5,Int.ofNat_lt,hi,hcl,hgl,dX,hb,remB,List.length_map]
      refine⟨by rw [ite_self,List.length_append,cells_lenP,q2];omega,⟨by simp,by omega⟩,fun b2 c2 hb2 hc2=>?_⟩
      replace hb2:=newb hb2;try simp only [Nb] at hb2
      simp only [↓rA,rB,buildOk,nt_is,simprocAttr,tbID0,Tryz.results15,gb,gr,g0,g3,g4,g5,Int.ofNat_lt,hi,hcl,hgl,hb,hb2,w1,ite_self,List.length_map]
      refine fun y=>Or2.r ?_
      simp only [↓rA,rB,buildOk,nt_is,simprocAttr,tbID0,Tryz.results15,gb,gr,g0,g3,g4,g5,Int.ofNat_lt,hi,hcl,hgl,hb,hb2,w1,remB,ite_self,List.length_map]
      have hfm:(List.take (c * 9) ((K.map cPk).flatten++rest)).length=c * 9:=by rw [List.length_take,List.length_append,cells_lenP,q2];omega
      refine⟨⟨by rw [List.length_append,hfm];simp [anys];omega,by omega,by omega⟩,fun b3 c3 hb3 hc3=>?_⟩
      replace hb3:=newb hb3;try simp only [Nb] at hb3
      simp only [↓rA,rB,buildOk,nt_is,simprocAttr,tbID0,Tryz.results15,gb,gr,g0,g3,g4,g5,Int.ofNat_lt,hi,hcl,hgl,hb,hb2,hb3,w1,remB,ite_self,List.length_map]
      have hcc:¬ cc=c:=by omega
      refine⟨by omega,q1,Or2.r ?_⟩
      simp only [↓rA,rB,buildOk,nt_is,simprocAttr,tbID0,Tryz.results15,gb,gr,g0,g3,g4,g5,Int.ofNat_lt,hi,hcl,hgl,hb,hb2,hb3,w1,remB,ite_self,hcc,Int.toNat_natCast,Nat.zero_add,List.length_map]
      have hfn:(List.take (c * 9) (List.take (c * 9) ((K.map cPk).flatten++rest)++anys ((c2 - c) * 9))).length=c * 9:=by rw [List.length_take,List.length_append,hfm];omega
      refine⟨by rw [List.length_append,cells_lenP,q2];omega,⟨by rw [List.length_append,List.length_append,hfn];simp [anys];omega,hc3,by omega⟩,fun b4 c4 hb4 hc4=>?_⟩
      replace hb4:=newb hb4;try simp only [Nb] at hb4
      simp only [↓rA,rB,buildOk,nt_is,simprocAttr,tbID0,Tryz.results15,gb,gr,g0,g3,g4,g5,Int.ofNat_lt,hi,hcl,hgl,hb,hb2,hb3,hb4,w1,remB,ite_self,hcc,Int.toNat_natCast,Nat.zero_add,List.length_map]
      refine⟨[_],[],_,_,List.Sublist.cons_cons _ (List.nil_sublist _),List.nil_sublist _,List.Perm.refl _,List.Perm.refl _,?_⟩
      rw [s7 rfl]
      simp only [↓rA,rB,buildOk,nt_is,simprocAttr,tbID0,Tryz.results15,gb,gr,g0,g3,g4]
      have hlk:(K.take c++ps[i]::K.drop c).length=c+1+(K.length - c):=by rw [List.length_append,List.length_cons,List.length_take,List.length_drop];omega
      exact .inr ⟨b4,c4,anys ((c4 - (c+1+(K.length - c))) * 9),⟨by rw [hlk];exact hc4,by rw [hlk];simp [anys]⟩,by rw [hlk],by rw [← pk_ins s1 ps[i] (anys ((c2 - c) * 9)) (anys ((c3 - (c+1)) * 9))]⟩
     ·have hz:=(s3 hcl).1 rfl
      have hcut:=pick_cut K c hcl rest
      have hX9:(((K.take c).map cPk).flatten).length=c * 9:=by rw [cells_lenP,List.length_take];omega
      have d8:List.drop (c * 9+8) ((K.map cPk).flatten++rest)=vint K[c].2::(((K.drop (c+1)).map cPk).flatten++rest):=by
       rw [hcut,← List.drop_drop,List.drop_left' hX9]
       rfl
      have hsv:=storeN (((K.take c).map cPk).flatten) (((K.drop (c+1)).map cPk).flatten++rest) K[c] (IntKind.i64.wrap (K[c].2+ps[i].2)) c hX9
      rw [← hcut] at hsv
      have hput:=s5 rfl
      have hgd:K.getD c ps[i]=K[c]:=by simp [List.getD,hcl]
      have hkey:=s6 rfl hcl
      rw [hgd] at hput
      simp only [↓rA,rB,buildOk,nt_is,simprocAttr,tbID0,Tryz.results15,gb,gr,g0,g3,g4,g5,Int.ofNat_lt,hi,hcl,hgl,dX,d8,hz,w1,List.length_map]
      refine⟨by rw [List.length_append,cells_lenP,q2];omega,[(b,.c (((K.take c).map cPk).flatten++(cPk (K[c].1,IntKind.i64.wrap (K[c].2+ps[i].2))++(((K.drop (c+1)).map cPk).flatten++rest))))],[],_,_,?_,?_,List.Perm.refl _,List.Perm.refl _,?_⟩
      ·rw [← hsv]
       exact List.Sublist.refl _
      ·exact List.nil_sublist _
      ·rw [hput]
       simp only [↓rA,rB,buildOk,nt_is,simprocAttr,tbID0,Tryz.results15,gb,gr,g0,g3,g4]
       have hlk:(K.take c++(ps[i].1,IntKind.i64.wrap (K[c].2+ps[i].2))::K.drop (c+1)).length=K.length:=by rw [List.length_append,List.length_cons,List.length_take,List.length_drop];omega
       refine .inr ⟨b,cc,rest,⟨by rw [hlk];exact q1,by rw [hlk];exact q2⟩,by rw [hlk],?_⟩
       ·rw [hkey]
        simp only [List.map_append,List.map_cons,List.flatten_append,List.flatten_cons,List.append_assoc]
        rfl
    ·simp only [↓rA,rB,buildOk,nt_is,simprocAttr,tbID0,Tryz.results15,gb,gr,g0,g3,g4,g5,Int.ofNat_lt,hi,hcl,hgl,List.length_map]
     refine Or2.r ?_
     simp only [↓rA,rB,buildOk,nt_is,simprocAttr,tbID0,Tryz.results15,gb,gr,g0,g3,g4,g5,Int.ofNat_lt,hi,hcl,hgl,List.length_map]
     refine fun bn hb=>?_;replace hb:=newb hb;try simp only [Nb] at hb
     simp only [↓rA,rB,buildOk,nt_is,simprocAttr,tbID0,Tryz.results15,gb,gr,g0,g3,g4,g5,Int.ofNat_lt,hi,hcl,hgl,hb,List.length_map]
     have hhit:hit=false:=by
      cases hit
      ·rfl
      ·exact absurd (s4 rfl) hcl
     refine⟨by omega,Or2.r ?_⟩
     simp only [↓rA,rB,buildOk,nt_is,simprocAttr,tbID0,Tryz.results15,gb,gr,g0,g3,g4,g5,Int.ofNat_lt,hi,hcl,hgl,hb,remB,List.length_map]
     refine⟨by rw [ite_self,List.length_append,cells_lenP,q2];omega,⟨by simp,by omega⟩,fun b2 c2 hb2 hc2=>?_⟩
     replace hb2:=newb hb2;try simp only [Nb] at hb2
     simp only [↓rA,rB,buildOk,nt_is,simprocAttr,tbID0,Tryz.results15,gb,gr,g0,g3,g4,g5,Int.ofNat_lt,hi,hcl,hgl,hb,hb2,w1,ite_self,List.length_map]
     refine fun y=>Or2.r ?_
     simp only [↓rA,rB,buildOk,nt_is,simprocAttr,tbID0,Tryz.results15,gb,gr,g0,g3,g4,g5,Int.ofNat_lt,hi,hcl,hgl,hb,hb2,w1,remB,ite_self,List.length_map]
     have hfm:(List.take (c * 9) ((K.map cPk).flatten++rest)).length=c * 9:=by rw [List.length_take,List.length_append,cells_lenP,q2];omega
     refine⟨⟨by rw [List.length_append,hfm];simp [anys];omega,by omega,by omega⟩,fun b3 c3 hb3 hc3=>?_⟩
     replace hb3:=newb hb3;try simp only [Nb] at hb3
     simp only [↓rA,rB,buildOk,nt_is,simprocAttr,tbID0,Tryz.results15,gb,gr,g0,g3,g4,g5,Int.ofNat_lt,hi,hcl,hgl,hb,hb2,hb3,w1,remB,ite_self,List.length_map]
     refine⟨by omega,q1,Or2.r ?_⟩
     simp only [↓rA,rB,buildOk,nt_is,simprocAttr,tbID0,Tryz.results15,gb,gr,g0,g3,g4,g5,Int.ofNat_lt,hi,hcl,hgl,hb,hb2,hb3,w1,remB,ite_self,Nat.sub_self,Nat.zero_mul,Int.toNat_natCast,Nat.zero_add,List.length_map]
     have hck:K.length - c=0:=by omega
     have hdz:List.take ((K.length - c) * 9) (List.drop (if cc=c then 0 else c * 9) ((K.map cPk).flatten++rest))=List.take ((K.length - c) * 9) (List.drop (c * 9) ((K.map cPk).flatten++rest)):=by rw [hck,Nat.zero_mul,List.take_zero,List.take_zero]
     have hfn:(List.take (c * 9) (List.take (c * 9) ((K.map cPk).flatten++rest)++anys ((c2 - c) * 9))).length=c * 9:=by rw [List.length_take,List.length_append,hfm];omega
     refine⟨by rw [List.length_append,cells_lenP,q2];split <;> omega,⟨by rw [List.length_append,List.length_append,hfn];simp [anys];omega,hc3,by omega⟩,fun b4 c4 hb4 hc4=>?_⟩
     replace hb4:=newb hb4;try simp only [Nb] at hb4
     simp only [↓rA,rB,buildOk,nt_is,simprocAttr,tbID0,Tryz.results15,gb,gr,g0,g3,g4,g5,Int.ofNat_lt,hi,hcl,hgl,hb,hb2,hb3,hb4,w1,remB,ite_self,Nat.sub_self,Nat.zero_mul,Int.toNat_natCast,Nat.zero_add,List.length_map]
     refine⟨[_],[],_,_,List.Sublist.cons_cons _ (List.nil_sublist _),List.nil_sublist _,List.Perm.refl _,List.Perm.refl _,?_⟩
     rw [s7 hhit]
     simp only [↓rA,rB,buildOk,nt_is,simprocAttr,tbID0,Tryz.results15,gb,gr,g0,g3,g4]
     have hlk:(K.take c++ps[i]::K.drop c).length=c+1+(K.length - c):=by rw [List.length_append,List.length_cons,List.length_take,List.length_drop];omega
     exact .inr ⟨b4,c4,anys ((c4 - (c+1+(K.length - c))) * 9),⟨by rw [hlk];exact hc4,by rw [hlk];simp [anys]⟩,by rw [hlk],by rw [hdz,← pk_ins s1 ps[i] (anys ((c2 - c) * 9)) (anys ((c3 - (c+1)) * 9))]⟩
 ·rw [List.take_length] at hW
  have hln:=insZs_len ps []
  rw [List.length_nil] at hln
  rw [← hcons]
  generalize insZs [] ps=K at *
  rcases hW with⟨rfl,g3,gb⟩ | ⟨b,cc,rest,⟨q1,q2⟩,g3,gb⟩
  ·simp only [↓rA,rB,buildOk,nt_is,simprocAttr,tbID0,Tryz.results15,gb,gr,g0,g3,g4,Int.ofNat_lt,Nat.lt_irrefl,List.length_map]
   refine EX_for Ty.mixed (by kernel_rfl) 0 (fun j S=>S.boxes=[]∧S.rows=[]∧S.σ 3=nilS∧S.σ 7=nilS∧S.σ 8=vint j) ⟨0,?_⟩ (fun j S hj=>absurd hj (Nat.not_lt_zero j)) (fun S ⟨gb,gr,g3,g7,g8⟩=>?_)
   ·simp only [↓rA,rB,buildOk,nt_is,simprocAttr,tbID0,Tryz.results15,gb,gr,g3]
    try rfl
   ·have n0:((0:Nat):Int)=0:=rfl
    simp only [↓rA,rB,buildOk,nt_is,simprocAttr,tbID0,Tryz.results15,gb,gr,g3,g7,g8,n0]
    exact ret_le (Le.nil 9)
  ·simp only [↓rA,rB,buildOk,nt_is,simprocAttr,tbID0,Tryz.results15,gb,gr,g0,g3,g4,Int.ofNat_lt,Nat.lt_irrefl,List.length_map]
   refine AWP.nilRow 7 9 30 (by simp only [↓rA,rB,buildOk,nt_is,simprocAttr,tbID0,Tryz.results15]) (by decide) ?_
   refine EX_forS Ty.mixed (by kernel_rfl) K.length (fun j S=>(∃ y,S.rows=[⟨y,9,30⟩]∧S.σ 7=.list (some y) 9 (((K.take j).filter nzP).map cPk))∧S.boxes=[(b,.c ((K.map cPk).flatten++rest))]∧S.σ 3=.lit (.slice (some ⟨b,0,none⟩) K.length cc)∧S.σ 8=vint j) ⟨_,_,List.Sublist.refl _,List.Sublist.refl _,?_⟩ (fun j S hj ⟨⟨y,gr,g7⟩,gb,g3,g8⟩=>?_) (fun S ⟨⟨y,gr,g7⟩,gb,g3,g8⟩=>?_)
   ·simp only [↓rA,rB,buildOk,nt_is,simprocAttr,tbID0,Tryz.results15,gb,gr,g3]
    exact⟨nilv,rfl,rfl⟩
   ·have hcut:=pick_cut K j hj rest
    have hX9:(((K.take j).map cPk).flatten).length=j * 9:=by rw [cells_lenP,List.length_take];omega
    have d0:List.drop (j * 9) ((K.map cPk).flatten++rest)=cPk K[j]++(((K.drop (j+1)).map cPk).flatten++rest):=by rw [hcut,List.drop_left' hX9]
    have d5:List.drop (j * 9+8) ((K.map cPk).flatten++rest)=vint K[j].2::(((K.drop (j+1)).map cPk).flatten++rest):=by
     rw [hcut,← List.drop_drop,List.drop_left' hX9]
     rfl
    have w1:=wrap_succ hj (by omega)
    have hfl:((K.take j).filter nzP).length≤60:=Nat.le_trans (List.length_filter_le _ _) (by rw [List.length_take];omega)
    have hst:(K.take (j+1)).filter nzP=(K.take j).filter nzP++(if K[j].2=0 then [] else [K[j]]):=by
     rw [List.take_succ_eq_append_getElem hj,List.filter_append]
     by_cases h:K[j].2=0 <;> simp [h]
    rw [hst]
    by_cases hz:K[j].2=0
    ·rw [if_pos hz,List.append_nil]
     simp only [↓rA,rB,buildOk,nt_is,simprocAttr,tbID0,Tryz.results15,gb,gr,g3,g7,g8,Int.ofNat_lt,hj,d0,d5,hz,w1,List.length_map]
     refine⟨[(b,.c ((K.map cPk).flatten++rest))],[⟨y,9,30⟩],?_,?_,?_⟩
     ·simp only [↓rA,rB,buildOk,nt_is,simprocAttr,tbID0,Tryz.results15,gb]
      exact List.Sublist.refl _
     ·simp only [↓rA,rB,buildOk,nt_is,simprocAttr,tbID0,Tryz.results15,gr]
      exact List.Sublist.refl _
     ·simp only [↓rA,rB,buildOk,nt_is,simprocAttr,tbID0,Tryz.results15,gb,gr,g3,g7]
      exact⟨y,rfl,rfl⟩
    ·rw [if_neg hz]
     simp only [↓rA,rB,buildOk,nt_is,simprocAttr,tbID0,Tryz.results15,gb,gr,g3,g7,g8,Int.ofNat_lt,hj,d0,d5,hz,w1,List.length_map]
     refine fun y1=>takeRF_2 ?_
     simp only [↓rA,rB,buildOk,nt_is,simprocAttr,tbID0,Tryz.results15,gb,gr,g3,g7,g8,Int.ofNat_lt,hj,d0,d5,hz,w1,List.length_map]
     refine⟨by omega,fun y2=>?_⟩
     refine⟨[(b,.c ((K.map cPk).flatten++rest))],[⟨y2,9,30⟩],?_,List.Sublist.cons_cons _ (List.nil_sublist _),?_⟩
     ·simp only [↓rA,rB,buildOk,nt_is,simprocAttr,tbID0,Tryz.results15,gb]
      exact List.Sublist.refl _
     ·simp only [↓rA,rB,buildOk,nt_is,simprocAttr,tbID0,Tryz.results15,gb,g3,g7]
      exact⟨_,rfl,by rw [List.map_append];rfl⟩
   ·rw [List.take_length] at g7
    simp only [↓rA,rB,buildOk,nt_is,simprocAttr,tbID0,Tryz.results15,gb,gr,g3,g7,g8,Int.ofNat_lt,Nat.lt_irrefl]
    exact⟨_,[],[],Le.list _ _ _,List.nil_sublist _,List.nil_sublist _,rfl,rfl,rfl⟩
end Go.Proofs.YtjdggbanifineaaGreat
set_option linter.unusedSimpArgs false
set_option maxRecDepth 100000
set_option linter.defProp false
namespace Go.Proofs.YtjdggbanifineaaGreat
open Go.VL Go.Ar Go.Sg Go.Lo Go.Proofs.YtjdggbanifineaaGreat Go.Proofs.YtjdggbanifineaaGreat.Arr
def tbHY0:=(aI (aI (aI (aI Ty.c10 (aI Ty.c11 Ty.c12)) (aI Ty.c13 (aI Ty.c14 Ty.c15))) (aI (aI Ty.c16 (aI Ty.c6 Ty.c8)) (aI (aI Ty.c9 Ty.t117) (aI Ty.t22 Ty.t26)))) (aI (aI (aI Ty.t28 (aI Ty.t3 Ty.t30)) (aI Ty.t31 (aI Ty.t4 Ty.t49))) (aI (aI Ty.t51 (aI Ty.t52 Ty.t53)) (aI (aI Ty.t55 Ty.t57) (aI Ty.t65 Ty.t9)))))
set_option maxHeartbeats 1000000 in
theorem cells_law (op:Str) (p q:List Pk) (key:Str) (tick:Int) (hlp:p.length≤9223372036854775807) (hlq:q.length≤9223372036854775807):OkP Tryz.prog 4 [vstr op,vPks p,vPks q,vstr key,vint tick] (vbool true):=by
 refine Ok.of_ex Ty.mixed Tryz.func4 rfl (by simp [Tryz.ntmps4]) (by kernel_rfl) fun F w0 I0=>?_
 simp only [↓rA,rB,buildOk,nt_is,simprocAttr,tbHY0,Tryz.results4]
 refine OkF_of _ (proper_ok p hlp) ?_
 cases hp:propM p
 ·simp only [↓rA,rB,buildOk,nt_is,simprocAttr,tbHY0,Tryz.results4]
  exact ret_done rfl
 simp only [↓rA,rB,buildOk,nt_is,simprocAttr,tbHY0,Tryz.results4]
 refine OkF_of _ (proper_ok q hlq) ?_
 cases hq:propM q
 ·simp only [↓rA,rB,buildOk,nt_is,simprocAttr,tbHY0,Tryz.results4]
  exact ret_done rfl
 obtain⟨p60,pfew,pin⟩:=prop_few hp
 obtain⟨q60,qfew,qin⟩:=prop_few hq
 have hpc:=consP_ok p (by omega) (fun x h=>(pin x h).1)
 have hpr:=cons21_ok p p60 (fun x h=>(pin x h).1)
 have hps:=sameP_ok (consP p) (by have:=consP_len p;omega)
 by_cases h0:fam op=0
 ·have hc21:=cells21_ok op p key tick pin p60
  rw [if_pos h0] at hc21
  have hsc:=sameC_ok [] (by decide) (fun c hc=>absurd hc List.not_mem_nil)
  simp only [↓rA,rB,buildOk,nt_is,simprocAttr,tbHY0,Tryz.results4]
  refine OkF_of _ (cells0_ok op p key tick h0 (by omega)) ?_
  simp only [↓rA,rB,buildOk,nt_is,simprocAttr,tbHY0,Tryz.results4]
  refine OkF_of _ hc21 ?_
  simp only [↓rA,rB,buildOk,nt_is,simprocAttr,tbHY0,Tryz.results4]
  refine OkF_of _ hpc ?_
  simp only [↓rA,rB,buildOk,nt_is,simprocAttr,tbHY0,Tryz.results4]
  refine OkF_of _ hpr ?_
  simp only [↓rA,rB,buildOk,nt_is,simprocAttr,tbHY0,Tryz.results4]
  refine OkF_of _ hps ?_
  simp only [↓rA,rB,buildOk,nt_is,simprocAttr,tbHY0,Tryz.results4]
  refine OkF_of _ hsc ?_
  simp only [↓rA,rB,buildOk,nt_is,simprocAttr,tbHY0,Tryz.results4]
  refine OkF_of _ (update0_ok op _ _ h0) ?_
  simp only [↓rA,rB,buildOk,nt_is,simprocAttr,tbHY0,Tryz.results4]
  refine OkF_of _ (update210_ok op _ _ h0) ?_
  simp only [↓rA,rB,buildOk,nt_is,simprocAttr,tbHY0,Tryz.results4]
  refine OkF_of _ hsc ?_
  simp only [↓rA,rB,buildOk,nt_is,simprocAttr,tbHY0,Tryz.results4]
  refine OkF_of _ example_ok ?_
  simp only [↓rA,rB,buildOk,nt_is,simprocAttr,tbHY0,Tryz.results4]
  exact ret_done rfl
 ·have hc21:=cells21_ok op p key tick pin p60
  rw [if_neg h0] at hc21
  have hbd:=cellsM_bd (n:=60) h0 p60 (fun x hx=>(pin x hx).1) key tick
  have hsc:=sameC_ok _ (Nat.le_trans hbd.1 (by decide)) (fun c hc=>⟨Nat.le_trans (hbd.2 c hc).1 (by decide),Nat.le_trans (hbd.2 c hc).2 (by decide)⟩)
  have hg:=GoodC.cells h0 (l:=p) (by omega) (fun x hx=>(pin x hx).1) key tick
  have hu:=update_ok op _ q h0 hg qin (by omega)
  have hu21:=update21_ok op _ q 10000 none h0 hg (by omega) qin
  have hbu:=(GoodC.upd h0 (ps:=q) hg fun x hx=>(qin x hx).1).bd
  have hsu:=sameC_ok _ (Nat.le_trans hbu.1 (by omega)) (fun c hc=>⟨Nat.le_trans (hbu.2 c hc).1 (by omega),Nat.le_trans (hbu.2 c hc).2 (by omega)⟩)
  simp only [↓rA,rB,buildOk,nt_is,simprocAttr,tbHY0,Tryz.results4]
  refine OkF_of _ (cells_ok op p key tick h0 pin (by omega)) ?_
  simp only [↓rA,rB,buildOk,nt_is,simprocAttr,tbHY0,Tryz.results4]
  refine OkF_of _ hc21 ?_
  simp only [↓rA,rB,buildOk,nt_is,simprocAttr,tbHY0,Tryz.results4]
  refine OkF_of _ hpc ?_
  simp only [↓rA,rB,buildOk,nt_is,simprocAttr,tbHY0,Tryz.results4]
  refine OkF_of _ hpr ?_
  simp only [↓rA,rB,buildOk,nt_is,simprocAttr,tbHY0,Tryz.results4]
  refine OkF_of _ hps ?_
  simp only [↓rA,rB,buildOk,nt_is,simprocAttr,tbHY0,Tryz.results4]
  refine OkF_of _ hsc ?_
  simp only [↓rA,rB,buildOk,nt_is,simprocAttr,tbHY0,Tryz.results4]
  refine OkF_of _ hu ?_
  simp only [↓rA,rB,buildOk,nt_is,simprocAttr,tbHY0,Tryz.results4]
  refine OkF_of _ hu21 ?_
  simp only [↓rA,rB,buildOk,nt_is,simprocAttr,tbHY0,Tryz.results4]
  refine OkF_of _ hsu ?_
  simp only [↓rA,rB,buildOk,nt_is,simprocAttr,tbHY0,Tryz.results4]
  refine OkF_of _ example_ok ?_
  simp only [↓rA,rB,buildOk,nt_is,simprocAttr,tbHY0,Tryz.results4]
  exact ret_done rfl
end Go.Proofs.YtjdggbanifineaaGreat
set_option linter.unusedSimpArgs false
set_option maxRecDepth 100000
namespace Go.Proofs.YtjdggbanifineaaGreat
open Go.VL Go.Ar Go.ChangeShapes Go.WideShapes Go.ChangeAt Go.RowKit
theorem Tryz.own:ownKnob Tryz.prog.godebug=none:=by kernel_rfl
theorem Tryz.laidOut:laidOutB Tryz.prog=true:=by kernel_rfl
theorem inv_int {d:Nat} {v:List V} (h:TV Tryz.prog d 3 v):∃ n,v=[vint n]:=by
 cases d with
 | zero=>exact h.elim
 | succ d =>
  simp only [TV,Ty.un3] at h
  obtain⟨n,rfl,_⟩:=h
  exact⟨n,rfl⟩
theorem inv_str {d:Nat} {v:List V} (h:TV Tryz.prog d 9 v):∃ s:Str,v=[vstr s]:=by
 cases d with
 | zero=>exact h.elim
 | succ d =>
  simp only [TV,Ty.un9] at h
  obtain⟨s,rfl,_⟩:=h
  exact⟨s,rfl⟩
theorem inv_fid {d:Nat} {vs:List V} (h:TV Tryz.prog d 26 vs):∃ i:FID,vs=cFID i:=by
 cases d with
 | zero=>exact h.elim
 | succ d =>
  simp only [TV,Tryz.underlying26,TVF] at h
  obtain⟨x,y,rfl,hx,y1,y2,rfl,hy,rfl⟩:=h
  obtain⟨s,rfl⟩:=inv_str hx
  obtain⟨n,rfl⟩:=inv_int hy
  exact⟨⟨s,n⟩,rfl⟩
theorem inv_val {d:Nat} {vs:List V} (h:TV Tryz.prog d 28 vs):∃ v:Val,vs=cVal v:=by
 cases d with
 | zero=>exact h.elim
 | succ d =>
  simp only [TV,Tryz.underlying28,TVF] at h
  obtain⟨x,y,rfl,hx,y1,y2,rfl,hy,z1,z2,rfl,hz,rfl⟩:=h
  obtain⟨k,rfl⟩:=inv_int hx
  obtain⟨n,rfl⟩:=inv_int hy
  obtain⟨s,rfl⟩:=inv_str hz
  exact⟨⟨k,n,s⟩,rfl⟩
theorem inv_pick {d:Nat} {vs:List V} (h:TV Tryz.prog d 30 vs):∃ p:Pk,vs=cPk p:=by
 cases d with
 | zero=>exact h.elim
 | succ d =>
  simp only [TV,Tryz.underlying30,TVF] at h
  obtain⟨x1,y1,rfl,h1,x2,y2,rfl,h2,x3,y3,rfl,h3,x4,y4,rfl,h4,x5,y5,rfl,h5,x6,y6,rfl,h6,rfl⟩:=h
  obtain⟨k,rfl⟩:=inv_str h1
  obtain⟨i,rfl⟩:=inv_fid h2
  obtain⟨e,rfl⟩:=inv_int h3
  obtain⟨v,rfl⟩:=inv_val h4
  obtain⟨t,rfl⟩:=inv_int h5
  obtain⟨n,rfl⟩:=inv_int h6
  exact⟨(⟨k,e,i,v,t⟩,n),rfl⟩
theorem in_picks {d:Nat} {a:V} (h:TA Tryz.prog d 22 a):∃ l:List Pk,Le a (vPks l)∧l.length≤maxLen:=by
 unfold TA at h
 simp only [Ty.ag22] at h
 cases d with
 | zero=>exact h.elim
 | succ d =>
  simp only [TV,Tryz.underlying22] at h
  rcases h with h | ⟨es,h,hm,hes⟩
  ·cases h
   exact⟨[],Le.nil 9,Nat.zero_le _⟩
  ·have hc:Tryz.prog.cellsOf 30=9:=by kernel_rfl
   rw [hc] at h
   cases h
   have:∃ xs:List Pk,es=xs.map cPk:=by
    clear hc hm
    induction es with
    | nil=>exact⟨[],rfl⟩
    | cons e r ih =>
     obtain⟨n,rfl⟩:=inv_pick (hes e List.mem_cons_self)
     obtain⟨xs,rfl⟩:=ih fun x hx=>hes x (List.mem_cons_of_mem _ hx)
     exact⟨n::xs,rfl⟩
   obtain⟨xs,rfl⟩:=this
   rw [List.length_map] at hm
   exact⟨xs,Le.refl _,hm⟩
theorem in_int {d:Nat} {a:V} (h:TA Tryz.prog d 3 a):∃ n,a=vint n:=by
 unfold TA at h
 simp only [Ty.ag3] at h
 obtain⟨n,h⟩:=inv_int h
 cases h
 exact⟨n,rfl⟩
theorem in_str {d:Nat} {a:V} (h:TA Tryz.prog d 9 a):∃ s,a=vstr s:=by
 unfold TA at h
 simp only [Ty.ag9] at h
 obtain⟨s,h⟩:=inv_str h
 cases h
 exact⟨s,rfl⟩
abbrev laidL:List (String × DataW Unit):=[]
noncomputable def laidWorld (os:Os):World:=World.laidAll Tryz.prog os laidL
theorem laid_met (os:Os) (args:Array Value):laidMet Tryz.prog laidL ((laidWorld os).forCall (fun _ _=>0) ⟨#[],args,[]⟩).memory :=
 laidMet_laidAll args (by kernel_rfl) (by kernel_rfl)
theorem glob_of {W:World} (hsh:W.ShapedOpen Tryz.prog):Glob W fun b _=>b < W.heap.size:=by
 have hI:∀ b o x,W.cell? ⟨b,o,none⟩=some x→(fun b _=>b < W.heap.size:Cells) b o:=fun b o x hx=>by
  unfold World.cell? at hx
  show b < W.heap.size
  by_cases h:b < W.heap.size
  ·exact h
  ·rw [Array.getElem?_eq_none (by simpa using h)] at hx;simp at hx
 refine⟨fun p hp=>(by cases hp),fun g hg=>?_⟩
 obtain rfl:=List.mem_singleton.1 hg
 obtain⟨m,hm⟩:=cell_of_shapedOpen_int (P:=Tryz.prog) (g:=0) (t:=3) (zero:=#[.int .i64 0]) hsh (of_decide_eq_true (by kernel_rfl)) (by kernel_rfl) rfl (by kernel_rfl) (by kernel_rfl) Ty.un3
 exact⟨m,hm,hI _ _ _ hm⟩
end Go.Proofs.YtjdggbanifineaaGreat
