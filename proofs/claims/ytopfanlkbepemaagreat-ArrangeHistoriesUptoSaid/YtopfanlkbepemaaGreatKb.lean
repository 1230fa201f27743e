/- Merged out of my texts AHa AHc AJa AIa AIb AIc AJb AIz AJz. -/
import Derived.Test.YtopfanlkbepemaaGreatKa
import Derived.Test.YtopfanlkbepemaaGreatKVH
set_option linter.unusedSimpArgs false
set_option maxRecDepth 100000
namespace Go.Proofs.YtopfanlkbepemaaGreat.Arr
open Go.VL Go.Ar Go.Proofs.YtopfanlkbepemaaGreat Go.Proofs.YtopfanlkbepemaaGreat.Arr
end Go.Proofs.YtopfanlkbepemaaGreat.Arr
set_option linter.unusedSimpArgs false
set_option maxRecDepth 100000
namespace Go.Proofs.YtopfanlkbepemaaGreat.Arr
open Go.VL Go.Ar Go.Proofs.YtopfanlkbepemaaGreat Go.Proofs.YtopfanlkbepemaaGreat.Arr
end Go.Proofs.YtopfanlkbepemaaGreat.Arr
set_option linter.unusedSimpArgs false
set_option maxRecDepth 100000
namespace Go.Proofs.YtopfanlkbepemaaGreat.Arr
open Go.VL Go.Ar Go.Proofs.YtopfanlkbepemaaGreat Go.Proofs.YtopfanlkbepemaaGreat.Arr
def prevK (l:List Grp):Nat→Option Str
 | 0=>none
 | i+1=>l[i]?.map (·.key)
theorem prevK_succ (l:List Grp) (i:Nat) (h:i < l.length):prevK l (i+1)=some l[i].key:=by simp [prevK,h]
theorem okGs_step (s:Int) (l:List Grp) (i:Nat) (h:i < l.length):okGsB s (prevK l i) (l.drop i)=(okG s (prevK l i) l[i] && okGsB s (prevK l (i+1)) (l.drop (i+1))):=by
 rw [List.drop_eq_getElem_cons h,okGsB,prevK_succ l i h]
theorem check_no {s:Int} {l:List Grp} (h:okGsB s none l=false):checkM ⟨s,l⟩=1:=by
 unfold checkM
 rw [if_neg]
 intro hv
 have:=hv.2.2
 simp only [h,Bool.false_eq_true] at this
theorem check_since {s:Int} {l:List Grp} (h:s < 0∨maxT < s):checkM ⟨s,l⟩=1:=by
 unfold checkM
 rw [if_neg]
 intro hv
 have h1:=hv.1
 have h2:=hv.2.1
 simp only at h1 h2
 omega
theorem check_yes {s:Int} {l:List Grp} (h0:¬ s < 0) (h1:¬ maxT < s) (h:okGsB s none l=true):checkM ⟨s,l⟩=0:=by
 unfold checkM
 rw [if_pos ⟨by simp only;omega,by simp only;omega,h⟩]
theorem okG_nil {s:Int} {p:Option Str} {g:Grp} (h:g.ds=[]):okG s p g=false:=by unfold okG;simp [h]
theorem okG_prev {s:Int} {k:Str} {g:Grp} (h:less k g.key=false):okG s (some k) g=false:=by unfold okG;simp [h]
theorem okG_all {s:Int} {p:Option Str} {g:Grp} {x:Dlt} (hx:x ∈ g.ds) (h:¬ x.row.key=g.key∨x.tick < s):okG s p g=false:=by
 have:(g.ds.all fun x=>decide (x.row.key=g.key) && decide (s≤x.tick))=false:=by
  rw [List.all_eq_false]
  refine⟨x,hx,?_⟩
  simp only [Bool.and_eq_true,decide_eq_true_eq]
  rintro⟨h1,h2⟩
  rcases h with h | h
  ·exact h h1
  ·omega
 unfold okG
 rw [this]
 simp
theorem okG_cons {s:Int} {p:Option Str} {g:Grp} (h:¬ g.ds=consM g.ds):okG s p g=false:=by unfold okG;rw [decide_eq_false h];simp
theorem okG_yes {s:Int} {p:Option Str} {g:Grp} (h1:g.ds ≠ []) (h2:∀ k,p=some k→less k g.key=true) (h3:∀ x ∈ g.ds,x.row.key=g.key∧s≤x.tick) (h4:g.ds=consM g.ds):okG s p g=true:=by
 unfold okG
 simp only [Bool.and_eq_true,decide_eq_true_eq,List.all_eq_true]
 refine⟨⟨⟨h1,?_⟩,h3⟩,h4⟩
 cases p with
 | none=>rfl
 | some k=>exact h2 k rfl
theorem wrap_pred (j:Nat) (h:j < 4194304):IntKind.i64.wrap (((j+1:Nat):Int) - 1)=(j:Int):=by
 rw [wrap_id (by omega) (by omega)];omega
end Go.Proofs.YtopfanlkbepemaaGreat.Arr
set_option linter.unusedSimpArgs false
set_option maxRecDepth 100000
set_option linter.defProp false
namespace Go.Proofs.YtopfanlkbepemaaGreat.Arr
open Go.VL Go.Ar Go.Proofs.YtopfanlkbepemaaGreat Go.Proofs.YtopfanlkbepemaaGreat.Arr
def tbAIa0:=(aI (aI (aI Ty.c22 (aI Ty.t28 Ty.t3)) (aI Ty.t30 (aI Ty.t40 Ty.t41))) (aI (aI Ty.t43 (aI Ty.t50 Ty.t51)) (aI Ty.t59 (aI Ty.t85 Ty.t9))))
theorem newP_ok (s:Int):OkP Tryz.prog 14 [vint s] (vArr ⟨s,[]⟩):=by
 refine Ok.of_ex Ty.mixed Tryz.func14 rfl (by simp [Tryz.ntmps14]) (by kernel_rfl) fun F w0 I0=>?_
 simp only [↓rA,rB,tbAIa0]
 refine fun b2 h2=>?_;replace h2:=newb h2;try simp only [Nb] at h2
 simp only [↓rA,rB,Nat.reduceAdd,Nat.reduceEqDiff,Nat.reduceLeDiff,reduceCtorEq,tbAIa0,Tryz.results14]
 exact ret_le (Le.arr0 _)
def tbAIa1:=(aI Ty.c22 (aI Ty.t24 Ty.t3))
theorem ever_ok:OkP Tryz.prog 15 [] (.agg [vint 0,vint 1099511627776]):=by
 refine Ok.of_ex Ty.mixed Tryz.func15 rfl (by simp [Tryz.ntmps15]) (by kernel_rfl) fun F w0 I0=>?_
 simp only [↓rA,rB,tbAIa1]
 refine fun b2 h2=>?_;replace h2:=newb h2;try simp only [Nb] at h2
 simp only [↓rA,rB,Nat.reduceAdd,Nat.reduceLeDiff,reduceCtorEq,tbAIa1,Tryz.results15]
 exact ret_done rfl
end Go.Proofs.YtopfanlkbepemaaGreat.Arr
set_option linter.unusedSimpArgs false
set_option maxRecDepth 100000
set_option linter.defProp false
namespace Go.Proofs.YtopfanlkbepemaaGreat.Arr
open Go.VL Go.Ar Go.Proofs.YtopfanlkbepemaaGreat Go.Proofs.YtopfanlkbepemaaGreat.Arr
def tbAIb0:=(aI (aI (aI Ty.c54 (aI Ty.c56 Ty.t28)) (aI Ty.t3 (aI Ty.t4 Ty.t40))) (aI (aI Ty.t41 (aI Ty.t43 Ty.t50)) (aI (aI Ty.t51 Ty.t59) (aI Ty.t85 Ty.t9))))
theorem cloneG_ok (gs:List Grp) (hd:gs.length≤big):Ok Tryz.prog 53 [vGrps gs] [] fun v bs rs=>bs=[]∧((gs=[]∧v=nilS∧rs=[])∨∃ y,v=.list (some y) 2 (gs.map cGrp)∧rs=[⟨y,2,59⟩]):=by
 unfold big at hd
 match gs,hd with
 | [],_ =>
  refine Ok.list0 (fun c=>?_) fun p c=>?_
  ·refine Ok.of_ex Ty.mixed Tryz.func53 rfl (by simp [Tryz.ntmps53]) (by kernel_rfl) fun F w0 I0=>?_
   simp only [↓rA,rB,reduceCtorEq,tbAIb0,Tryz.results53]
   exact⟨_,[],[],Le.refl _,List.nil_sublist _,List.nil_sublist _,rfl,.inl ⟨rfl,rfl⟩⟩
  ·refine Ok.of_ex Ty.mixed Tryz.func53 rfl (by simp [Tryz.ntmps53]) (by kernel_rfl) fun F w0 I0=>?_
   simp only [↓rA,rB,reduceCtorEq,tbAIb0]
   refine Or2.l ?_
   simp only [↓rA,rB,Nat.reduceAdd,Nat.reduceEqDiff,Nat.reduceLT,Nat.reduceMul,reduceCtorEq,tbAIb0,Tryz.results53]
   refine fun y y2=>?_
   exact⟨_,[],[_],Le.refl _,List.nil_sublist _,List.Sublist.refl _,rfl,.inr ⟨y2,rfl,rfl⟩⟩
 | x::d,hd =>
  refine Ok.of_ex Ty.mixed Tryz.func53 rfl (by simp [Tryz.ntmps53]) (by kernel_rfl) fun F w0 I0=>?_
  simp only [↓rA,rB,reduceCtorEq,tbAIb0]
  refine Or2.l ?_
  simp only [↓rA,rB,Nat.reduceAdd,Nat.reduceEqDiff,Nat.reduceLT,Nat.reduceMul,reduceCtorEq,tbAIb0,Tryz.results53]
  refine fun y=>?_
  simp only [List.length_map]
  refine⟨by simp only [List.length_cons] at hd ⊢;omega,fun y2=>?_⟩
  exact⟨_,[],[_],Le.refl _,List.nil_sublist _,List.Sublist.refl _,rfl,y2,rfl,rfl⟩
def tbAIb1:=(aI (aI (aI (aI Ty.c53 Ty.c54) (aI Ty.c56 Ty.t102)) (aI (aI Ty.t106 Ty.t108) (aI Ty.t28 Ty.t3))) (aI (aI (aI Ty.t40 Ty.t41) (aI Ty.t43 Ty.t50)) (aI (aI Ty.t51 Ty.t59) (aI Ty.t85 Ty.t9))))
theorem groupsL_ok (gs:List Grp) (hd:gs.length≤big):Ok Tryz.prog 28 [vGrps gs] [] fun v bs rs=>∃ b,v=ptr b∧((gs=[]∧bs=[(b,.c [nilS,keyFn])]∧rs=[])∨∃ y,bs=[(b,.c [.list (some y) 2 (gs.map cGrp),keyFn])]∧rs=[⟨y,2,59⟩]):=by
 refine Ok.of_ex Ty.mixed Tryz.func28 rfl (by simp [Tryz.ntmps28]) (by kernel_rfl) fun F w0 I0=>?_
 simp only [↓rA,rB,reduceCtorEq,tbAIb1]
 refine OkF_back (cloneG_ok gs hd) ?_
 rintro v bs rs ⟨rfl,⟨h0,rfl,rfl⟩ | ⟨y,rfl,rfl⟩⟩
 ·simp only [↓rA,rB,Nat.reduceAdd,Nat.reduceLeDiff,tbAIb1]
  refine fun b1 h1=>?_;replace h1:=newb h1;try simp only [Nb] at h1
  simp only [↓rA,rB,Tryz.results28]
  exact⟨_,[_],[],Le.refl _,List.Sublist.refl _,List.nil_sublist _,b1,rfl,.inl ⟨h0,rfl,rfl⟩⟩
 ·simp only [↓rA,rB,Nat.reduceAdd,Nat.reduceLeDiff,tbAIb1]
  refine fun b1 h1=>?_;replace h1:=newb h1;try simp only [Nb] at h1
  simp only [↓rA,rB,Tryz.results28]
  exact⟨_,[_],[_],Le.refl _,List.Sublist.refl _,List.Sublist.refl _,b1,rfl,.inr ⟨y,rfl,rfl⟩⟩
def SortedG (l:List Grp):Prop:=l.Pairwise fun a b=>less a.key b.key=true
def tbAIb2:=(aI (aI (aI Ty.c54 (aI Ty.c56 Ty.t141)) (aI (aI Ty.t146 Ty.t28) (aI Ty.t3 Ty.t4))) (aI (aI (aI Ty.t40 Ty.t41) (aI Ty.t43 Ty.t50)) (aI (aI Ty.t51 Ty.t59) (aI Ty.t85 Ty.t9))))
theorem bsearchL_ok (l:List Grp) (key:Str) (bi bp:Nat) (sl:V) (own:Option Value) (hl:l.length≤big) (hs:SortedG l) (h1:bi ≠ bp) :
  Ok Tryz.prog 55 [.list own 2 (l.map cGrp),vstr key,placeFn bp] [(bp,.c [ptr bi]),(bi,.c [sl,keyFn])] fun v bs rs =>
   bs=[(bp,.c [ptr bi]),(bi,.c [sl,keyFn])]∧rs=[]∧∃ i,i≤l.length∧(∀ j,(h:j < l.length)→(j < i↔less l[j].key key=true))∧v=.tup [vint i,vbool (decide (l[i]?.map (·.key)=some key))]:=by
 refine Ok.of_ex Ty.mixed Tryz.func55 rfl (by simp [Tryz.ntmps55]) (by kernel_rfl) fun F w0 I0=>?_
 unfold big at hl
 simp only [↓rA,rB,Nat.reduceEqDiff,reduceCtorEq,tbAIb2,Tryz.results55,List.length_map]
 refine EX_while Ty.mixed (by kernel_rfl) (fun x=>x.2 - x.1) (fun(x:Nat × Nat) S=>(x.1≤x.2∧x.2≤l.length∧(∀ j,(h:j < l.length)→j < x.1→less l[j].key key=true)∧∀ j,(h:j < l.length)→x.2≤j→less l[j].key key=false)∧S.σ 0=.list own 2 (l.map cGrp)∧S.σ 1=vstr key∧S.σ 2=placeFn bp∧S.σ 8=vint l.length∧S.σ 9=vint x.1∧S.σ 10=vint x.2∧S.rows=[]∧S.boxes=[(bp,.c [ptr bi]),(bi,.c [sl,keyFn])]) (0,l.length) ⟨0,⟨Nat.zero_le _,Nat.le_refl _,fun j h h'=>by omega,fun j h h'=>by omega⟩,?_⟩ (fun⟨i,k⟩ S ⟨⟨hik,hk,hlo,hhi⟩,g0,g1,g2,g8,g9,g10,gr,gb⟩=>?_)
 ·simp only [rB,Nat.reduceEqDiff,reduceCtorEq]
 ·simp only at hik hk hlo hhi g9 g10
  by_cases hlt:i < k
  ·simp only [↓rA,rB,Int.reduceLE,Int.reduceToNat,Nat.reduceEqDiff,reduceCtorEq,tbAIb2,g0,g1,g2,g9,g10,gb,Int.ofNat_lt,hlt]
   have hm:=mid_eq hik (show k≤4194304 by omega)
   generalize hmd:(i+k) / 2=m at hm
   have hml:m < l.length:=by omega
   rw [hm,Int.toNat_natCast]
   simp only [rB,Nat.reduceAdd,List.length_map,Int.ofNat_lt,hml,getD_map]
   refine OkF_with [_,_] [] (List.Perm.refl _) (placeF_ok l[m].key key _ _ bi bp sl h1) ?_
   rintro v bs rs ⟨rfl,rfl,rfl⟩
   cases hc:less l[m].key key
   ·have hc':¬ cmpS l[m].key key < 0:=fun h=>by rw [(less_cmp _ _).2 h] at hc;cases hc
    simp only [↓rA,rB,Nat.reduceEqDiff,reduceCtorEq,g0,g1,g2,g8,g9,gr,hc']
    refine⟨(i,m),by simp only;omega,0,⟨by omega,by omega,hlo,fun j h hj=>?_⟩,rfl,rfl,rfl⟩
    rcases Nat.lt_or_ge m j with h' | h'
    ·have hmj:=(List.pairwise_iff_getElem.1 hs) m j hml h h'
     cases hjc:less l[j].key key
     ·rfl
     ·rw [less_trans hmj hjc] at hc;cases hc
    ·obtain rfl:j=m:=by simp only at hj;omega
     exact hc
   ·have hc':cmpS l[m].key key < 0:=(less_cmp _ _).1 hc
    simp only [↓rA,rB,Nat.reduceEqDiff,reduceCtorEq,g0,g1,g2,g8,g10,gr,hc',wrap_succ hml (show l.length≤9223372036854775807 by omega)]
    refine⟨(m+1,k),by simp only;omega,0,⟨by omega,by omega,fun j h hj=>?_,hhi⟩,rfl,rfl,rfl⟩
    rcases Nat.lt_or_ge j m with h' | h'
    ·exact less_trans ((List.pairwise_iff_getElem.1 hs) j m h hml h') hc
    ·obtain rfl:j=m:=by simp only at hj;omega
     exact hc
  ·simp only [↓rA,rB,Nat.reduceEqDiff,g8,g9,g10,Int.ofNat_lt,hlt]
   obtain rfl:i=k:=by omega
   have hspec:∀ j,(h:j < l.length)→(j < i↔less l[j].key key=true):=fun j h=>by
    constructor
    ·exact hlo j h
    ·intro hj
     rcases Nat.lt_or_ge j i with h' | h'
     ·exact h'
     ·rw [hhi j h h'] at hj;cases hj
   by_cases hil:i < l.length
   ·simp only [↓rA,rB,Nat.reduceAdd,Nat.reduceEqDiff,reduceCtorEq,tbAIb2,g0,g1,g2,g9,gb,hil,Int.ofNat_lt,List.length_map,getD_map]
    refine OkF_with [_,_] [] (List.Perm.refl _) (placeF_ok l[i].key key _ _ bi bp sl h1) ?_
    rintro v bs rs ⟨rfl,rfl,rfl⟩
    simp only [↓rA,rB,Nat.reduceEqDiff,gr,hil]
    refine⟨_,[_,_],[],Le.refl _,List.Sublist.refl _,List.nil_sublist _,rfl,rfl,i,by omega,hspec,?_⟩
    have:decide (l[i]?.map (·.key)=some key)=decide (cmpS l[i].key key=0):=by
     rw [List.getElem?_eq_getElem hil]
     refine decide_eq_decide.2 ?_
     simp [cmpS_eq0]
    rw [this]
   ·simp only [↓rA,rB,Nat.reduceEqDiff,gr,gb,hil]
    refine⟨_,[_,_],[],Le.refl _,List.Sublist.refl _,List.nil_sublist _,rfl,rfl,i,by omega,hspec,?_⟩
    rw [List.getElem?_eq_none (by omega)]
    rfl
def tbAIb3:=(aI (aI (aI (aI Ty.c54 Ty.c55) (aI Ty.c56 Ty.t102)) (aI (aI Ty.t104 Ty.t106) (aI Ty.t108 (aI Ty.t146 Ty.t28)))) (aI (aI (aI Ty.t3 Ty.t4) (aI Ty.t40 (aI Ty.t41 Ty.t43))) (aI (aI Ty.t50 Ty.t51) (aI Ty.t59 (aI Ty.t85 Ty.t9)))))
theorem placeL_ok (l:List Grp) (key:Str) (bi:Nat) (own:Option Value) (hl:l.length≤big) (hs:SortedG l) :
  Ok Tryz.prog 29 [ptr bi,vstr key] [(bi,.c [.list own 2 (l.map cGrp),keyFn])] fun v bs rs =>
   bs=[(bi,.c [.list own 2 (l.map cGrp),keyFn])]∧rs=[]∧∃ i,i≤l.length∧(∀ j,(h:j < l.length)→(j < i↔less l[j].key key=true))∧v=.tup [vint i,vbool (decide (l[i]?.map (·.key)=some key))]:=by
 refine Ok.of_ex Ty.mixed Tryz.func29 rfl (by simp [Tryz.ntmps29]) (by kernel_rfl) fun F w0 I0=>?_
 simp only [↓rA,rB]
 refine fun bp hp=>?_;replace hp:=newb hp;try simp only [Nb] at hp
 simp only [↓rA,rB,Nat.reduceAdd,Nat.reduceEqDiff,tbAIb3,hp]
 refine OkF_with [_,_] [] (List.Perm.refl _) (bsearchL_ok l key bi bp _ own hl hs hp.1.1) ?_
 rintro v bs rs ⟨rfl,rfl,i,hi,hj,rfl⟩
 simp only [↓rA,rB,Nat.reduceEqDiff,Tryz.results29]
 exact⟨_,[_],[],Le.refl _,List.Sublist.cons _ (List.Sublist.refl _),List.nil_sublist _,rfl,rfl,i,hi,hj,rfl⟩
theorem inI_take (rows:List Rw) (lo hi:Int) (i:Nat) (h:i < rows.length):(rows.take (i+1)).filter (inI lo hi)=(rows.take i).filter (inI lo hi)++(if inI lo hi rows[i]=true then [rows[i]] else []):=by
 rw [List.take_succ_eq_append_getElem h,List.filter_append]
 by_cases hx:inI lo hi rows[i]=true <;> simp [hx]
theorem inI_len (rows:List Rw) (lo hi:Int) (i:Nat):((rows.take i).filter (inI lo hi)).length≤i:=by
 have:=List.length_filter_le (inI lo hi) (rows.take i)
 simp only [List.length_take] at this
 omega
theorem rowsAt_len {d:List Dlt} (h:fitDs d) (t:Int):(rowsAt d t).length≤big:=by
 unfold rowsAt rowsM
 rw [List.length_map]
 exact Nat.le_trans (List.length_filter_le _ _) (Nat.le_trans (consM_len _) (early_fit h t).1)
theorem no_key {l:List Grp} {key:Str} (hs:SortedG l) {i:Nat} (hi:i≤l.length) (hj:∀ j,(h:j < l.length)→(j < i↔less l[j].key key=true)) (hn:¬ l[i]?.map (·.key)=some key):∀ g ∈ l,g.key ≠ key:=by
 intro g hg e
 obtain⟨j,hjl,rfl⟩:=List.getElem_of_mem hg
 rcases Nat.lt_or_ge j i with h | h
 ·have:=(hj j hjl).1 h
  exact less_ne this e
 ·rcases Nat.lt_or_ge i j with h' | h'
  ·have hil:i < l.length:=by omega
   have:=(List.pairwise_iff_getElem.1 hs) i j hil hjl h'
   have:=(hj i hil).2 (e▸this)
   omega
  ·obtain rfl:i=j:=by omega
   exact hn (by rw [List.getElem?_eq_getElem hjl,Option.map_some,e])
def tbAIb4:=(aI (aI (aI (aI Ty.c27 (aI Ty.c28 Ty.c29)) (aI Ty.c54 (aI Ty.c56 Ty.t102))) (aI (aI Ty.t104 (aI Ty.t106 Ty.t108)) (aI Ty.t24 (aI Ty.t26 Ty.t28)))) (aI (aI (aI Ty.t3 (aI Ty.t30 Ty.t34)) (aI Ty.t4 (aI Ty.t40 Ty.t41))) (aI (aI Ty.t43 (aI Ty.t50 Ty.t51)) (aI Ty.t59 (aI Ty.t85 Ty.t9)))))
theorem rowsP_ok (a:Arr) (key:Str) (lo hi t:Int) (ha:fitG a.groups) (hg:GsOk a.groups):OkP Tryz.prog 10 [vArr a,vstr key,.agg [vint lo,vint hi],vint t] (vRows2 (rowsA a key lo hi t)):=by
 obtain⟨s,l⟩:=a
 obtain⟨hl,hds⟩:=ha
 simp only at hl hds hg
 have hl0:=hl
 unfold big at hl
 refine Ok.of_ex Ty.mixed Tryz.func10 rfl (by simp [Tryz.ntmps10]) (by kernel_rfl) fun F w0 I0=>?_
 simp only [↓rA,rB]
 refine fun b4 h4=>?_;replace h4:=newb h4;try simp only [Nb] at h4
 simp only [↓rA,rB,Nat.reduceEqDiff]
 refine fun b6 h6=>?_;replace h6:=newb h6;try simp only [Nb] at h6
 simp only [↓rA,rB,Nat.reduceAdd,Nat.reduceEqDiff,tbAIb4,h6]
 by_cases ht:t < s
 ·simp only [↓rA,rB,Nat.reduceEqDiff,Tryz.results10,ht]
  refine ret_le ?_
  unfold rowsA
  rw [if_pos ht]
  exact Le.two (Le.nil 8) (Le.refl _)
 ·simp only [↓rA,rB,Nat.reduceAdd,Nat.reduceEqDiff,tbAIb4,h6,ht]
  refine OkF_withN [] _ (List.Perm.refl _) (groupsL_ok l hl0) ?_
  rintro v bs rs ⟨bg,rfl,hcase⟩ hnd
  rcases hcase with⟨rfl,rfl,rfl⟩ | ⟨y,rfl,rfl⟩
  ·simp only [List.map_cons,List.map_nil,List.nodup_cons,List.mem_cons,List.not_mem_nil,or_false,not_or,List.cons_append,List.nil_append] at hnd
   simp only [↓rA,rB,Nat.reduceEqDiff,tbAIb4]
   refine OkF_with [_] [_,_] (List.Perm.refl _) (placeNil_ok key bg) ?_
   rintro v bs rs ⟨rfl,rfl,rfl⟩
   simp only [↓rA,rB,Nat.reduceEqDiff,Tryz.results10]
   refine ret_le ?_
   unfold rowsA
   rw [if_neg ht]
   exact Le.two (Le.nil 8) (Le.refl _)
  ·simp only [List.map_cons,List.map_nil,List.nodup_cons,List.mem_cons,List.not_mem_nil,or_false,not_or,List.cons_append,List.nil_append] at hnd
   have n1:bg ≠ b4∧bg ≠ b6:=by simp_all
   simp only [↓rA,rB,Nat.reduceEqDiff,tbAIb4]
   refine OkF_with [_] [_,_] (List.Perm.refl _) (placeL_ok l key bg (some y) hl0 hg.sorted) ?_
   rintro v bs rs ⟨rfl,rfl,i,hi',hj,rfl⟩
   by_cases hfd:l[i]?.map (·.key)=some key
   ·have hil:i < l.length:=by
     rcases Nat.lt_or_ge i l.length with h | h
     ·exact h
     ·rw [List.getElem?_eq_none h] at hfd;cases hfd
    have hkey:l[i].key=key:=by rw [List.getElem?_eq_getElem hil] at hfd;simpa using hfd
    have hrk:rowsK ⟨s,l⟩ key lo hi t=(rowsAt l[i].ds t).filter (inI lo hi):=by
     unfold rowsK
     rw [← hkey,part_of hg (List.getElem_mem hil)]
     rfl
    simp only [↓rA,rB,Nat.reduceAdd,Nat.reduceEqDiff,tbAIb4,hfd,Int.ofNat_lt,hil,List.length_map,getD_map]
    have hlen:=rowsAt_len (hds _ (List.getElem_mem hil)) t
    unfold big at hlen
    refine OkF_of _ (OkRow.list (at_ok l[i].ds t (hds _ (List.getElem_mem hil)))) ?_
    rw [show rowsM (consM (earlyM l[i].ds t))=rowsAt l[i].ds t from rfl]
    generalize hR:rowsAt l[i].ds t=R at hlen hrk
    simp only [↓rA,rB,tbAIb4,Tryz.results10,List.length_map]
    refine AWP.nilRow 8 8 43 (by simp only [rB,Nat.reduceEqDiff]) (by decide) ?_
    refine EX_forS Ty.mixed (by kernel_rfl) R.length (fun j S=>∃ y2,S.σ 8=.list (some y2) 8 (((R.take j).filter (inI lo hi)).map cRow)∧S.rows=[⟨y2,8,43⟩]∧S.boxes=[(b6,.c [vint lo,vint hi])]∧S.σ 6=ptr b6∧S.σ 9=vint 0∧S.σ 39=vRows R∧S.σ 40=vint R.length∧S.σ 41=vint j) ⟨[_],[_],List.Sublist.cons _ (List.Sublist.cons_cons _ (List.nil_sublist _)),List.Sublist.cons_cons _ (List.nil_sublist _),nilv,?_⟩ (fun j S hj' ⟨y2,g8,gr,gb,g6,g9,g39,g40,g41⟩=>?_) (fun S ⟨y2,g8,gr,gb,g6,g9,g39,g40,g41⟩=>?_)
    ·simp only [rB,Nat.reduceEqDiff]
     try simp
    ·have htk:=inI_take R lo hi j hj'
     have hln:=inI_len R lo hi j
     simp only [↓rA,rB,Nat.reduceAdd,Nat.reduceEqDiff,tbAIb4,gr,gb,g39,g40,g41,Int.ofNat_lt,hj',List.length_map,getD_map]
     refine fun b14 h14=>?_;replace h14:=newb h14;try simp only [Nb] at h14
     by_cases hx1:lo≤R[j].event
     ·by_cases hx2:R[j].event≤hi
      ·simp only [↓rA,rB,Nat.reduceAdd,Nat.reduceEqDiff,Nat.reduceLT,Nat.reduceLeDiff,Nat.reduceMul,tbAIb4,g8,gr,gb,g6,h14,hx1,hx2]
       refine fun y3=>takeRF_2 ?_
       simp only [↓rA,rB,Nat.reduceEqDiff,g41,wrap_succ hj' (Nat.le_trans hlen (by decide)),List.length_map]
       refine⟨(by first | omega | (simp;omega)),fun y4=>⟨[_],[_],List.Sublist.cons _ (List.Sublist.refl _),List.Sublist.cons_cons _ (List.nil_sublist _),y4,?_⟩⟩
       simp only [rB,Nat.reduceEqDiff,g6,g9,g39,g40]
       rw [htk,if_pos (by simp [inI,hx1,hx2]),List.map_append]
       rfl
      ·simp only [↓rA,rB,Nat.reduceAdd,Nat.reduceEqDiff,tbAIb4,gb,g6,g41,h14,hx1,hx2,wrap_succ hj' (Nat.le_trans hlen (by decide))]
       refine⟨[_],_,List.Sublist.cons _ (List.Sublist.refl _),List.Sublist.refl _,y2,?_⟩
       simp only [rB,Nat.reduceEqDiff,g8,gr,g6,g9,g39,g40]
       rw [htk,if_neg (by simp [inI,hx1,hx2]),List.append_nil]
     ·simp only [↓rA,rB,Nat.reduceAdd,Nat.reduceEqDiff,tbAIb4,gb,g6,g41,h14,hx1,wrap_succ hj' (Nat.le_trans hlen (by decide))]
      refine⟨[_],_,List.Sublist.cons _ (List.Sublist.refl _),List.Sublist.refl _,y2,?_⟩
      simp only [rB,Nat.reduceEqDiff,g8,gr,g6,g9,g39,g40]
      rw [htk,if_neg (by simp [inI,hx1]),List.append_nil]
    ·simp only [↓rA,rB,Nat.reduceEqDiff,g8,gr,gb,g40,g41,Int.ofNat_lt,Nat.lt_irrefl]
     rw [List.take_of_length_le (Nat.le_refl _)]
     refine ret_le ?_
     unfold rowsA
     rw [if_neg ht,hrk]
     exact Le.two (Le.list _ _ _) (Le.refl _)
   ·have hrk:rowsK ⟨s,l⟩ key lo hi t=[]:=by
     unfold rowsK
     rw [part_none hg (no_key hg.sorted hi' hj hfd)]
     rfl
    simp only [↓rA,rB,Nat.reduceEqDiff,Tryz.results10,hfd]
    refine ret_le ?_
    unfold rowsA
    rw [if_neg ht,hrk]
    exact Le.two (Le.nil 8) (Le.refl _)
theorem keysP2_ok (a:Arr) (t:Int) (ha:fitG a.groups):OkP Tryz.prog 9 [vArr a,vint t] (vKeys2 (keysA a t)):=by
 refine Ok.norows (keysP_ok a t ha) fun v bs rs ⟨h1,h2⟩=>⟨vKeys2 (keysA a t),[],[],?_,List.nil_sublist _,List.nil_sublist _,rfl,rfl,rfl⟩
 unfold keysA
 rcases h2 with⟨h3,rfl,_⟩ | ⟨h3,y,rfl,_⟩
 ·rw [if_pos h3];exact Le.two (Le.nil 1) (Le.refl _)
 ·rw [if_neg h3];exact Le.two (Le.list _ _ _) (Le.refl _)
end Go.Proofs.YtopfanlkbepemaaGreat.Arr
set_option linter.unusedSimpArgs false
set_option maxRecDepth 100000
set_option linter.defProp false
namespace Go.Proofs.YtopfanlkbepemaaGreat.Arr
open Go.VL Go.Ar Go.Proofs.YtopfanlkbepemaaGreat Go.Proofs.YtopfanlkbepemaaGreat.Arr
def tbAIc0:=(aI (aI (aI (aI Ty.c31 Ty.c32) (aI Ty.c33 Ty.c34)) (aI (aI Ty.t111 Ty.t26) (aI Ty.t28 (aI Ty.t3 Ty.t30)))) (aI (aI (aI Ty.t4 Ty.t40) (aI Ty.t41 Ty.t43)) (aI (aI Ty.t50 Ty.t51) (aI Ty.t59 (aI Ty.t85 Ty.t9)))))
theorem insP_ok (a:Arr) (d:List Dlt) (ha:fitA a) (hd:fitDs (allD a.groups++d)):OkP Tryz.prog 13 [vArr a,vDlts d] (vRes (insA a d)):=by
 have hdl:d.length≤4194304:=by have:=hd.1;unfold big at this;rw [List.length_append] at this;omega
 have hda:(allD a.groups).length≤4194304:=ha.2.1
 have hdt:(allD a.groups).length+d.length≤4194304:=by have:=hd.1;unfold big at this;rw [List.length_append] at this;omega
 refine Ok.of_exM [(3,2)] Ty.mixed Tryz.func13 rfl (by simp [Tryz.ntmps13]) (by kernel_rfl) fun F w0 I0=>?_
 simp only [↓rA,rB]
 refine fun b2 h2=>?_;replace h2:=newb h2;try simp only [Nb] at h2
 simp only [↓rA,rB,tbAIc0]
 refine fun b4 h4=>?_;replace h4:=newb h4;try simp only [Nb] at h4
 simp only [↓rA,rB,Nat.reduceEqDiff,tbAIc0]
 refine OkF_with [_] [_] (List.Perm.swap _ _ _) (containsF_ok d a b2 (Nat.le_trans hdl (by decide))) ?_
 rintro v bs rs ⟨rfl,rfl,rfl⟩
 by_cases hlt:lateB a d=true
 ·have hlt':(d.any fun x=>decide (x.tick < a.since))=true:=hlt
  simp only [↓rA,rB,Nat.reduceAdd,Nat.reduceEqDiff,tbAIc0,Tryz.results13,h4,hlt']
  refine ret_le ?_
  unfold insA
  rw [if_pos hlt]
  exact Le.two (Le.arr0 _) (Le.refl _)
 ·have hlt':(d.any fun x=>decide (x.tick < a.since))=false:=by simpa [lateB] using hlt
  simp only [↓rA,rB,Nat.reduceAdd,Nat.reduceEqDiff,reduceCtorEq,tbAIc0,hlt']
  refine OkR_row (every_row a ha.1 ha.2.1) fun y=>?_
  simp only [↓rA,rB,Nat.reduceAdd,Nat.reduceEqDiff,Nat.reduceLT,reduceCtorEq,tbAIc0,List.length_map]
  refine⟨(by first | omega | (simp;omega)),fun y2=>?_⟩
  refine OkR_of _ (Ok.le (.cons (Le.refl _) (.cons (by rw [← List.map_append];exact Le.list _ _ _) .nil)) (ofP_ok a.since (allD a.groups++d) hd)) ?_
  simp only [↓rA,rB,Nat.reduceAdd,Nat.reduceEqDiff,reduceCtorEq,tbAIc0,Tryz.results13,h4]
  refine ret_le ?_
  unfold insA
  rw [if_neg hlt]
  exact Le.refl _
def advI (s:Int) (d:List Dlt) (i:Nat):List Dlt:=advD s (d.take i)++d.drop i
theorem advI_zero (s:Int) (d:List Dlt):advI s d 0=d:=by simp [advI,advD]
theorem advI_all (s:Int) (d:List Dlt):advI s d d.length=advD s d:=by unfold advI;rw [List.take_of_length_le (Nat.le_refl _),List.drop_of_length_le (Nat.le_refl _),List.append_nil]
theorem advD_len (s:Int) (d:List Dlt):(advD s d).length=d.length:=by simp [advD]
theorem adv_cells (s:Int) (d:List Dlt) (i:Nat) (hi:i < d.length) (rest:List V):∃ A B:List V,A.length=i * 10∧((advI s d i).map cDlt).flatten++rest=A++(cDlt d[i]++B)∧((advI s d (i+1)).map cDlt).flatten++rest=A++(cDlt { d[i] with tick:=max d[i].tick s }++B):=by
 refine⟨((advD s (d.take i)).map cDlt).flatten,((d.drop (i+1)).map cDlt).flatten++rest,?_,?_,?_⟩
 ·rw [cellsD_len,advD_len,List.length_take];omega
 ·unfold advI
  rw [List.drop_eq_getElem_cons hi]
  simp only [List.map_append,List.map_cons,List.flatten_append,List.flatten_cons,List.append_assoc]
 ·unfold advI
  rw [List.take_succ_eq_append_getElem hi,adv_append]
  simp only [advD,List.map_append,List.map_cons,List.map_nil,List.flatten_append,List.flatten_cons,List.flatten_nil,List.append_assoc,List.nil_append]
theorem cut8 {A B:List V} {x:Dlt} {n:Nat} (h:A.length=n):(A++vstr x.row.id.src::vint x.row.id.seq::vstr x.row.table::vstr x.row.key::vint x.row.event::vVals x.row.fields::vint x.row.no::vint x.row.tick::vint x.tick::vint x.n::B).drop (n+8)=vint x.tick::vint x.n::B:=by
 rw [← List.drop_drop,List.drop_left' h];rfl
theorem cut8' {A B:List V} {x:Dlt} {n:Nat} (h:A.length=n):(A++vstr x.row.id.src::vint x.row.id.seq::vstr x.row.table::vstr x.row.key::vint x.row.event::vVals x.row.fields::vint x.row.no::vint x.row.tick::vint x.tick::vint x.n::B).take (n+8)=A++[vstr x.row.id.src,vint x.row.id.seq,vstr x.row.table,vstr x.row.key,vint x.row.event,vVals x.row.fields,vint x.row.no,vint x.row.tick]:=by
 rw [show A++vstr x.row.id.src::vint x.row.id.seq::vstr x.row.table::vstr x.row.key::vint x.row.event::vVals x.row.fields::vint x.row.no::vint x.row.tick::vint x.tick::vint x.n::B=(A++[vstr x.row.id.src,vint x.row.id.seq,vstr x.row.table,vstr x.row.key,vint x.row.event,vVals x.row.fields,vint x.row.no,vint x.row.tick])++(vint x.tick::vint x.n::B) by simp,List.take_left' (by simp [h])]
theorem cut9 {A B:List V} {x:Dlt} {n:Nat} (h:A.length=n):(A++vstr x.row.id.src::vint x.row.id.seq::vstr x.row.table::vstr x.row.key::vint x.row.event::vVals x.row.fields::vint x.row.no::vint x.row.tick::vint x.tick::vint x.n::B).drop (n+9)=vint x.n::B:=by
 rw [← List.drop_drop,List.drop_left' h];rfl
def tbAIc1:=(aI (aI (aI Ty.c33 (aI Ty.c34 Ty.t26)) (aI (aI Ty.t28 Ty.t3) (aI Ty.t30 Ty.t4))) (aI (aI (aI Ty.t40 Ty.t41) (aI Ty.t43 Ty.t50)) (aI (aI Ty.t51 Ty.t59) (aI Ty.t85 Ty.t9))))
theorem advP_ok (a:Arr) (s:Int) (ha:fitA a):OkP Tryz.prog 16 [vArr a,vint s] (vRes (advA a s)):=by
 have hda:(allD a.groups).length≤4194304:=ha.2.1
 refine Ok.of_ex Ty.mixed Tryz.func16 rfl (by simp [Tryz.ntmps16]) (by kernel_rfl) fun F w0 I0=>?_
 simp only [↓rA,rB]
 refine fun b2 h2=>?_;replace h2:=newb h2;try simp only [Nb] at h2
 simp only [↓rA,rB,tbAIc1]
 refine fun b4 h4=>?_;replace h4:=newb h4;try simp only [Nb] at h4
 by_cases h1:maxT < s
 ·simp only [↓rA,rB,Nat.reduceAdd,Nat.reduceEqDiff,tbAIc1,Tryz.results16,h1]
  refine ret_le ?_
  unfold advA
  rw [if_pos h1]
  exact Le.two (Le.arr0 _) (Le.refl _)
 ·by_cases h3:s < a.since
  ·simp only [↓rA,rB,Nat.reduceAdd,Nat.reduceEqDiff,tbAIc1,Tryz.results16,h4,h1,h3]
   refine ret_le ?_
   unfold advA
   rw [if_neg h1,if_pos h3]
   exact Le.two (Le.arr0 _) (Le.refl _)
  ·simp only [↓rA,rB,Nat.reduceAdd,Nat.reduceEqDiff,tbAIc1,h4,h1,h3]
   refine OkF_withN [] _ (List.Perm.refl _) (every_ok a ha.1 ha.2.1) ?_
   rintro v bs rs ⟨rfl,be,rfl,rfl⟩ hnd
   simp only [List.map_cons,List.map_nil,List.nodup_cons,List.mem_cons,List.not_mem_nil,or_false,not_or,List.cons_append,List.nil_append] at hnd
   have m1:be ≠ b4:=hnd.1.1
   have m2:be ≠ b2:=hnd.1.2
   generalize hD:allD a.groups=D at hda
   have hDf:fitDs D:=hD▸ha.2
   simp only [↓rA,rB,tbAIc1,Tryz.results16]
   refine EX_for Ty.mixed (by kernel_rfl) D.length (fun i S=>S.boxes=[(be,.c ((advI s D i).map cDlt).flatten),(b4,.c [vint 0,nilS]),(b2,.c (cArr a))]∧S.rows=[]∧S.σ 1=vint s∧S.σ 4=ptr b4∧S.σ 6=.lit (.slice (some ⟨be,0,none⟩) D.length D.length)∧S.σ 19=vint D.length∧S.σ 20=vint i) ⟨0,?_⟩ (fun i S hi ⟨gb,gr,g1,g4,g6,g19,g20⟩=>?_) (fun S ⟨gb,gr,g1,g4,g6,g19,g20⟩=>?_)
   ·simp only [rB,Nat.reduceEqDiff,advI_zero]
    try simp [advI_zero]
   ·obtain⟨A,B,hA,e1,e2⟩:=adv_cells s D i hi []
    rw [List.append_nil] at e1 e2
    rw [e1] at gb
    simp only [↓rA,rB,Nat.reduceEqDiff,tbAIc1,gb,gr,g1,g4,g6,g19,g20,Int.ofNat_lt,hi,cut8 hA,cut8' hA,cut9 hA,wrap_succ hi (Nat.le_trans hda (by decide))]
    refine⟨by rw [List.length_append,hA];simp only [List.length_cons];omega,0,?_⟩
    have hmax:(if s > D[i].tick then s else D[i].tick)=max D[i].tick s:=by split <;> omega
    rw [hmax,e2]
    simp
   ·rw [advI_all] at gb
    simp only [↓rA,rB,Nat.reduceEqDiff,tbAIc1,gb,g1,g6,g19,g20,Int.ofNat_lt,Nat.lt_irrefl]
    refine OkF_with [_] [_,_] (List.Perm.refl _) (Ok.consume (n:=D.length) (c:=D.length) (k:=10) (es:=(advD s D).map cDlt) ⟨?_,?_,?_,Nat.le_refl _⟩ (.cons (.same _) (.cons .here .nil)) (Ok.le (.cons (Le.refl _) (.cons (Le.list _ _ _) .nil)) (ofP_ok s (advD s D) (hDf.adv s)))) ?_
    ·rw [List.take_of_length_le (by rw [cellsD_len,advD_len];exact Nat.le_refl _)]
    ·intro e he
     obtain⟨x,_,rfl⟩:=List.mem_map.1 he
     rfl
    ·rw [List.length_map,advD_len]
    rintro v bs rs ⟨rfl,rfl,rfl⟩
    simp only [↓rA,rB,Nat.reduceAdd,Nat.reduceEqDiff,tbAIc1,g4]
    refine ret_le ?_
    unfold advA
    rw [if_neg h1,if_neg h3,hD]
    exact Le.refl _
end Go.Proofs.YtopfanlkbepemaaGreat.Arr
set_option linter.unusedSimpArgs false
set_option maxRecDepth 100000
set_option linter.defProp false
namespace Go.Proofs.YtopfanlkbepemaaGreat.Arr
open Go.VL Go.Ar Go.Proofs.YtopfanlkbepemaaGreat Go.Proofs.YtopfanlkbepemaaGreat.Arr
def strU:Str:=⟨#[117]⟩
def strV:Str:=⟨#[118]⟩
def rowC (key:Str) (e:Int):Rw:=⟨⟨⟨#[115]⟩,e⟩,⟨#[116]⟩,key,e,[],e,e⟩
def dEx:List Dlt:=[⟨rowC strU 5,10,1⟩,⟨rowC strU 5,20,-1⟩,⟨rowC strV 7,30,1⟩]
def aEx:Arr:=ofM 0 dEx
def bEx:Arr:=ofM 25 (advD 25 (allD aEx.groups))
def tbAJb0:=(aI (aI Ty.t3 (aI Ty.t40 Ty.t41)) (aI Ty.t43 (aI Ty.t85 Ty.t9)))
theorem row_ok (key:Str) (e:Int):OkP Tryz.prog 12 [vstr key,vint e] (.agg (cRow (rowC key e))):=by
 refine Ok.of_ex Ty.mixed Tryz.func12 rfl (by simp [Tryz.ntmps12]) (by kernel_rfl) fun F w0 I0=>?_
 simp only [↓rA,rB,tbAJb0]
 refine fun b4 h4=>?_;replace h4:=newb h4;try simp only [Nb] at h4
 simp only [↓rA,rB,Nat.reduceAdd,Nat.reduceEqDiff,Nat.reduceLeDiff,reduceCtorEq,tbAJb0,Tryz.results12]
 exact ret_le (Le.agg (.cons (Le.refl _) (.cons (Le.refl _) (.cons (Le.refl _) (.cons (Le.refl _) (.cons (Le.refl _) (.cons (Le.nil 3) (LeL.refl _))))))))
theorem fitR_row (key:Str) (e:Int):fitR (rowC key e):=⟨by simp [rowC],by simp [rowC,encL],fun v hv=>by cases hv⟩
theorem fit_dEx:fitDs dEx:=by
 refine⟨by simp [dEx,big],fun x hx=>?_⟩
 simp only [dEx,List.mem_cons,List.not_mem_nil,or_false] at hx
 rcases hx with rfl | rfl | rfl
 ·exact⟨by unfold inR;simp only;omega,fitR_row _ _⟩
 ·exact⟨by unfold inR;simp only;omega,fitR_row _ _⟩
 ·exact⟨by unfold inR;simp only;omega,fitR_row _ _⟩
theorem fit_nil (s:Int):fitA ⟨s,[]⟩:=⟨by simp,by simp [allD,big],fun x hx=>by cases hx⟩
theorem fit_aEx:fitA aEx:=fit_of fit_dEx
theorem gs_aEx:GsOk aEx.groups:=grpsM_ok fit_dEx.okN
theorem fit_bEx:fitA bEx:=fit_of (fit_aEx.2.adv 25)
theorem gs_bEx:GsOk bEx.groups:=grpsM_ok (fit_aEx.2.adv 25).okN
theorem ex1:insA ⟨0,[]⟩ dEx=(aEx,0):=by
 unfold insA
 rw [if_neg (by decide)];rfl
theorem ex2:rowsA aEx strU 0 1099511627776 15=([rowC strU 5],0):=by decide +kernel
theorem ex3:rowsA aEx strU 0 1099511627776 20=([],0):=by decide +kernel
theorem ex4:keysA aEx 15=([strU],0):=by decide +kernel
theorem ex5:keysA aEx 30=([strV],0):=by decide +kernel
theorem ex6:advA aEx 25=(bEx,0):=by
 unfold advA
 rw [if_neg (by decide),if_neg (by decide)];rfl
theorem ex7:rowsA bEx strU 0 1099511627776 24=([],220):=by
 unfold rowsA
 rw [if_pos (by decide)]
theorem ex8:insA ⟨15,[]⟩ dEx=(arr0,220):=by
 unfold insA
 rw [if_pos (by decide)]
theorem ex9:bEx=⟨25,[⟨strV,[⟨rowC strV 7,30,1⟩]⟩]⟩:=by decide +kernel
theorem Le.dEx (y:Option Value):Le (.list y 10 [cDlt ⟨rowC strU 5,10,1⟩,cDlt ⟨rowC strU 5,20,-1⟩,cDlt ⟨rowC strV 7,30,1⟩]) (vDlts Go.Proofs.YtopfanlkbepemaaGreat.Arr.dEx):=Le.list _ _ _
theorem EX_gen {C:Ctx} {k:List It} {S:St} {Q:Exit→St→Prop} (T:St→Prop) (h:T S) (hk:∀ S,T S→EX C k S Q):EX C k S Q:=hk S h
def tbAJb1:=(aI (aI (aI (aI Ty.c10 (aI Ty.c11 Ty.c12)) (aI (aI Ty.c13 Ty.c14) (aI Ty.c15 Ty.c16))) (aI (aI Ty.c17 (aI Ty.c9 Ty.t24)) (aI (aI Ty.t26 Ty.t28) (aI Ty.t3 Ty.t30)))) (aI (aI (aI Ty.t34 (aI Ty.t36 Ty.t37)) (aI (aI Ty.t4 Ty.t40) (aI Ty.t41 Ty.t43))) (aI (aI Ty.t44 (aI Ty.t50 Ty.t51)) (aI (aI Ty.t52 Ty.t59) (aI Ty.t85 Ty.t9)))))
set_option maxHeartbeats 1000000 in
theorem example_gen (aE bE:Arr) (fa:fitA aE) (ga:GsOk aE.groups) (fb:fitA bE) (gb:GsOk bE.groups) (e1:insA ⟨0,[]⟩ dEx=(aE,0)) (e2:rowsA aE strU 0 1099511627776 15=([rowC strU 5],0)) (e3:rowsA aE strU 0 1099511627776 20=([],0)) (e4:keysA aE 15=([strU],0)) (e5:keysA aE 30=([strV],0)) (e6:advA aE 25=(bE,0)) (e7:rowsA bE strU 0 1099511627776 24=([],220))
  (hg:∃ ds,bE.groups=[⟨strV,ds⟩]) (hs:bE.since=25):OkP Tryz.prog 4 [] (vbool true):=by
 refine Ok.of_ex Ty.mixed Tryz.func4 rfl (by simp [Tryz.ntmps4]) (by kernel_rfl) fun F w0 I0=>?_
 simp only [↓rA,rB,tbAJb1]
 refine OkF_of _ (row_ok strU 5) ?_
 simp only [↓rA,rB,tbAJb1]
 refine OkF_of _ (row_ok strV 7) ?_
 simp only [↓rA,rB,tbAJb1]
 refine fun b1 h1=>?_;replace h1:=newb h1;try simp only [Nb] at h1
 simp only [↓rA,rB,tbAJb1]
 refine fun b2 h2=>?_;replace h2:=newb h2;try simp only [Nb] at h2
 simp only [↓rA,rB,Nat.reduceAdd,Nat.reduceEqDiff,Nat.reduceLT,Nat.reduceLeDiff,Nat.reduceMul,tbAJb1,h2]
 refine fun y=>?_
 refine OkF_of _ (newP_ok 0) ?_
 simp only [↓rA,rB,Nat.reduceEqDiff,tbAJb1]
 refine OkF_le (.cons (Le.refl _) (.cons (Le.dEx _) .nil)) _ (insP_ok ⟨0,[]⟩ dEx (fit_nil 0) fit_dEx) ?_
 rw [e1]
 simp only [↓rA,rB,Nat.reduceEqDiff,tbAJb1]
 refine fun b4 h4=>?_;replace h4:=newb h4;try simp only [Nb] at h4
 simp only [↓rA,rB,Nat.reduceAdd,Nat.reduceEqDiff,tbAJb1]
 refine CallV_of _ ever_ok.v ?_
 simp only [↓rA,rB,Nat.reduceEqDiff,tbAJb1]
 refine CallV_of _ (rowsP_ok aE strU 0 1099511627776 15 fa.fitG ga).v ?_
 rw [e2]
 simp only [↓rA,rB,Nat.reduceAdd,Nat.reduceEqDiff,tbAJb1]
 refine CallV_of _ ever_ok.v ?_
 simp only [↓rA,rB,Nat.reduceEqDiff,tbAJb1]
 refine CallV_of _ (rowsP_ok aE strU 0 1099511627776 20 fa.fitG ga).v ?_
 rw [e3]
 simp only [↓rA,rB,Nat.reduceAdd,Nat.reduceEqDiff,tbAJb1]
 refine OkF_of _ (keysP2_ok aE 15 fa.fitG) ?_
 rw [e4]
 simp only [↓rA,rB,Nat.reduceAdd,Nat.reduceEqDiff,tbAJb1]
 refine OkF_of _ (keysP2_ok aE 30 fa.fitG) ?_
 rw [e5]
 refine EX_gen (fun S=>S.σ 1=ptr b1∧S.σ 2=ptr b2∧S.σ 3=.list (some y) 10 [cDlt ⟨rowC strU 5,10,1⟩,cDlt ⟨rowC strU 5,20,-1⟩,cDlt ⟨rowC strV 7,30,1⟩]∧S.σ 4=ptr b4∧S.σ 5=vint 0∧S.σ 6=vRows [rowC strU 5]∧S.σ 7=vint 0∧S.σ 8=vRows []∧S.σ 9=vint 0∧S.σ 10=vstrs [strU]∧S.σ 11=vint 0∧S.σ 55=vKeys2 ([strV],0)∧S.boxes=[(b4,.c (cArr aE)),(b2,.c (cRow (rowC strV 7))),(b1,.c (cRow (rowC strU 5)))]) ?_ fun S ⟨q1,q2,q3,q4,q5,q6,q7,q8,q9,q10,q11,q55,qb⟩=>?_
 ·simp only [rB,Nat.reduceEqDiff]
 simp only [↓rA,rB,Nat.reduceAdd,Nat.reduceEqDiff,tbAJb1,q4,q55,qb]
 refine OkF_of _ (advP_ok aE 25 fa) ?_
 rw [e6]
 simp only [↓rA,rB,Nat.reduceEqDiff,tbAJb1]
 refine fun b14 h14=>?_;replace h14:=newb h14;try simp only [Nb] at h14
 simp only [↓rA,rB,Nat.reduceAdd,Nat.reduceEqDiff,tbAJb1]
 refine CallV_of _ ever_ok.v ?_
 simp only [↓rA,rB,Nat.reduceEqDiff,tbAJb1]
 refine CallV_of _ (rowsP_ok bE strU 0 1099511627776 24 fb.fitG gb).v ?_
 rw [e7]
 simp only [↓rA,rB,Nat.reduceEqDiff,tbAJb1]
 refine OkF_of _ (newP_ok 15) ?_
 simp only [↓rA,rB,Nat.reduceEqDiff,tbAJb1,q3]
 refine OkF_le (.cons (Le.refl _) (.cons (Le.dEx _) .nil)) _ (insP_ok ⟨15,[]⟩ dEx (fit_nil 15) fit_dEx) ?_
 rw [ex8]
 refine EX_gen (fun S=>S.σ 1=ptr b1∧S.σ 2=ptr b2∧S.σ 4=ptr b4∧S.σ 5=vint 0∧S.σ 6=vRows [rowC strU 5]∧S.σ 7=vint 0∧S.σ 8=vRows []∧S.σ 9=vint 0∧S.σ 10=vstrs [strU]∧S.σ 11=vint 0∧S.σ 12=vstrs [strV]∧S.σ 13=vint 0∧S.σ 14=ptr b14∧S.σ 15=vint 0∧S.σ 17=vint 220∧S.σ 72=vRes (arr0,220)∧S.boxes=[(b14,.c (cArr bE)),(b4,.c (cArr aE)),(b2,.c (cRow (rowC strV 7))),(b1,.c (cRow (rowC strU 5)))]) ?_ fun S ⟨q1,q2,q4,q5,q6,q7,q8,q9,q10,q11,q12,q13,q14,q15,q17,q72,qb⟩=>?_
 ·simp only [rB,Nat.reduceEqDiff,q1,q2,q4,q5,q6,q7,q8,q9,q10,q11]
 simp only [↓rA,rB,Nat.reduceEqDiff,tbAJb1,q72,qb]
 refine fun b18 h18=>?_;replace h18:=newb h18;try simp only [Nb] at h18
 simp only [↓rA,rB,Nat.reduceAdd,Nat.reduceEqDiff,Nat.reduceLT,Nat.reduceLeDiff,Nat.reduceMul,tbAJb1,h2,h4,h14,h18,q1,q5,q6,q7,q9,q11,q13,q15,q17,qb]
 refine fun y1=>?_
 refine OkF_le (.cons (Le.refl _) (.cons (show Le (.list (some y1) 8 [cRow (rowC strU 5)]) (vRows [rowC strU 5]) from Le.list _ _ _) .nil)) _ (sameRows_ok [rowC strU 5] [rowC strU 5] (by simp only [List.length_cons,List.length_nil];omega) (fun r hr=>by simp only [List.mem_cons,List.not_mem_nil,or_false] at hr;subst hr;exact(fitR_row _ _).okF)) ?_
 simp only [↓rA,rB,Nat.reduceEqDiff,Nat.reduceLT,Nat.reduceLeDiff,Nat.reduceMul,tbAJb1,q8,q10]
 refine fun y2=>?_
 refine OkF_le (.cons (Le.refl _) (.cons (show Le (.list (some y2) 1 [[vstr strU]]) (vstrs [strU]) from Le.list _ _ _) .nil)) _ (sameKeys_ok [strU] [strU] (by simp only [List.length_cons,List.length_nil];omega)) ?_
 simp only [↓rA,rB,Nat.reduceEqDiff,Nat.reduceLT,Nat.reduceLeDiff,Nat.reduceMul,tbAJb1,q12]
 refine fun y3=>?_
 refine OkF_le (.cons (Le.refl _) (.cons (show Le (.list (some y3) 1 [[vstr strV]]) (vstrs [strV]) from Le.list _ _ _) .nil)) _ (sameKeys_ok [strV] [strV] (by simp only [List.length_cons,List.length_nil];omega)) ?_
 obtain⟨ds,hg⟩:=hg
 have n1:((1:Nat):Int)=1:=rfl
 have n2:strV=⟨#[118]⟩:=rfl
 simp only [↓rA,rB,Int.reduceLT,Int.reduceToNat,Nat.reduceAdd,Nat.reduceEqDiff,tbAJb1,Tryz.results4,h18,hg,hs,n1,n2,q14]
 exact ret_done rfl
theorem example_ok:OkP Tryz.prog 4 [] (vbool true) :=
 example_gen aEx bEx fit_aEx gs_aEx fit_bEx gs_bEx ex1 ex2 ex3 ex4 ex5 ex6 ex7 ⟨_,by rw [ex9]⟩ (by rw [ex9])
end Go.Proofs.YtopfanlkbepemaaGreat.Arr
set_option linter.unusedSimpArgs false
set_option maxRecDepth 100000
set_option linter.defProp false
namespace Go.Proofs.YtopfanlkbepemaaGreat.Arr
open Go.VL Go.Ar Go.Proofs.YtopfanlkbepemaaGreat Go.Proofs.YtopfanlkbepemaaGreat.Arr
section
def zR:List V:=[.string { data:=#[] },.int .i64 0,.string { data:=#[] },.string { data:=#[] },.int .i64 0,.slice none 0 0,.int .i64 0,.int .i64 0].map V.lit
def Sh54 (bs:List (Nat × B)) (ra rb:List V) (L:Nat→Bool) (S:St):Prop :=
 (L 4=false∧L 5=false∧L 6=false∧L 7=false∧S.boxes=bs) ∨
 (∃ b5,L 4=true∧L 5=false∧L 7=false∧Nb b5 bs∧S.σ 5=ptr b5∧S.boxes=(b5,.c (bif L 6 then ra else zR))::bs) ∨
 (∃ b6,L 4=false∧L 5=true∧L 6=false∧Nb b6 bs∧S.σ 6=ptr b6∧S.boxes=(b6,.c (bif L 7 then rb else zR))::bs) ∨
 (∃ b5 b6,L 4=true∧L 5=true∧b5 ≠ b6∧b6 ≠ b5∧Nb b5 bs∧Nb b6 bs∧S.σ 5=ptr b5∧S.σ 6=ptr b6∧S.boxes=(b5,.c (bif L 6 then ra else zR))::(b6,.c (bif L 7 then rb else zR))::bs) ∨
 (∃ b5 b6,L 4=true∧L 5=true∧b5 ≠ b6∧b6 ≠ b5∧Nb b5 bs∧Nb b6 bs∧S.σ 5=ptr b5∧S.σ 6=ptr b6∧S.boxes=(b6,.c (bif L 7 then rb else zR))::(b5,.c (bif L 6 then ra else zR))::bs)
theorem Sh54.keep {bs ra rb L S L' S'} (h:Sh54 bs ra rb L S) (h4:L' 4=L 4) (h5:L' 5=L 5) (h6:L' 6=L 6) (h7:L' 7=L 7) (s5:S'.σ 5=S.σ 5) (s6:S'.σ 6=S.σ 6) (sb:S'.boxes=S.boxes):Sh54 bs ra rb L' S':=by
 unfold Sh54;rw [h4,h5,h6,h7,s5,s6,sb];exact h
def In54 (b1 b2:Nat) (a b:Dlt) (L:Nat→Bool) (S:St):Prop :=
 S.rows=[]∧S.σ 2=ptr b1∧S.σ 3=ptr b2∧(L 0=true→S.σ 7=ptr b1)∧(L 1=true→S.σ 8=.agg (cRow a.row))∧(L 2=true→S.σ 9=ptr b2)∧(L 3=true→S.σ 10=.agg (cRow b.row))∧Sh54 [(b2,.c (cDlt b)),(b1,.c (cDlt a))] (cRow a.row) (cRow b.row) L S
def tbAIz0:=(aI (aI (aI Ty.c22 Ty.c47) (aI Ty.t3 (aI Ty.t4 Ty.t40))) (aI (aI Ty.t41 Ty.t43) (aI Ty.t50 (aI Ty.t85 Ty.t9))))
set_option maxHeartbeats 2000000 in
theorem same54_ok (a b:Dlt) (hl:okF a.row):OkP Tryz.prog 22 [.agg (cDlt a),.agg (cDlt b)] (vbool (decide (a=b))):=by
 refine Ok.of_exM [(1,3)] Ty.mixed Tryz.func22 rfl (by simp [Tryz.ntmps22]) (by kernel_rfl) fun F w0 I0=>?_
 simp only [↓rA,rB]
 refine fun b1 h1=>?_;replace h1:=newb h1;try simp only [Nb] at h1
 simp only [↓rA,rB,Nat.reduceEqDiff]
 refine fun b2 h2=>?_;replace h2:=newb h2;try simp only [Nb] at h2
 simp only [↓rA,rB,Tryz.results22]
 refine EX_inv (some true) Ty.mixed (by kernel_rfl) (by kernel_rfl) (In54 b1 b2 a b) ?_ ?_ ?_
 ·refine⟨?_,?_,?_,fun h=>(by cases h),fun h=>(by cases h),fun h=>(by cases h),fun h=>(by cases h),.inl ⟨rfl,rfl,rfl,rfl,?_⟩⟩ <;> simp only [rB,Nat.reduceEqDiff]
 ·intro L S i o ho hL he ⟨gr,g2,g3,g7,g8,g9,g10,gs⟩
  have gk:=gs
  match i,ho with
  | 0,ho =>
   cases ho
   rcases gs with⟨h4,h5,h6,h7,gb⟩ | ⟨b5,h4,h5,h7,n5,g5,gb⟩ | ⟨b6,h4,h5,h6,n6,g6,gb⟩ | ⟨b5,b6,h4,h5,n,n',n5,n6,g5,g6,gb⟩ | ⟨b5,b6,h4,h5,n,n',n5,n6,g5,g6,gb⟩
   ·simp only [↓rA,rB,reduceCtorEq,tbAIz0,g2]
    exact⟨gr,g2,g3,fun _=>rfl,g8,g9,g10,gk.keep rfl rfl rfl rfl rfl rfl rfl⟩
   ·simp only [Nb] at n5
    simp only [↓rA,rB,reduceCtorEq,tbAIz0,g2]
    exact⟨gr,g2,g3,fun _=>rfl,g8,g9,g10,gk.keep rfl rfl rfl rfl rfl rfl rfl⟩
   ·simp only [Nb] at n6
    simp only [↓rA,rB,reduceCtorEq,tbAIz0,g2]
    exact⟨gr,g2,g3,fun _=>rfl,g8,g9,g10,gk.keep rfl rfl rfl rfl rfl rfl rfl⟩
   ·simp only [Nb] at n5 n6
    simp only [↓rA,rB,reduceCtorEq,tbAIz0,g2]
    exact⟨gr,g2,g3,fun _=>rfl,g8,g9,g10,gk.keep rfl rfl rfl rfl rfl rfl rfl⟩
   ·simp only [Nb] at n5 n6
    simp only [↓rA,rB,reduceCtorEq,tbAIz0,g2]
    exact⟨gr,g2,g3,fun _=>rfl,g8,g9,g10,gk.keep rfl rfl rfl rfl rfl rfl rfl⟩
  | 1,ho =>
   cases ho
   have g7':=g7 (he ⟨0,.data⟩ (by simp) rfl)
   rcases gs with⟨h4,h5,h6,h7,gb⟩ | ⟨b5,h4,h5,h7,n5,g5,gb⟩ | ⟨b6,h4,h5,h6,n6,g6,gb⟩ | ⟨b5,b6,h4,h5,n,n',n5,n6,g5,g6,gb⟩ | ⟨b5,b6,h4,h5,n,n',n5,n6,g5,g6,gb⟩
   ·simp only [↓rA,rB,Nat.reduceAdd,Nat.reduceLeDiff,reduceCtorEq,tbAIz0,gb,h2,g7']
    exact⟨gr,g2,g3,g7,fun _=>rfl,g9,g10,gk.keep rfl rfl rfl rfl rfl rfl rfl⟩
   ·simp only [Nb] at n5
    simp only [↓rA,rB,Nat.reduceAdd,Nat.reduceLeDiff,reduceCtorEq,tbAIz0,gb,h2,g7',n5]
    exact⟨gr,g2,g3,g7,fun _=>rfl,g9,g10,gk.keep rfl rfl rfl rfl rfl rfl rfl⟩
   ·simp only [Nb] at n6
    simp only [↓rA,rB,Nat.reduceAdd,Nat.reduceLeDiff,reduceCtorEq,tbAIz0,gb,h2,g7',n6]
    exact⟨gr,g2,g3,g7,fun _=>rfl,g9,g10,gk.keep rfl rfl rfl rfl rfl rfl rfl⟩
   ·simp only [Nb] at n5 n6
    simp only [↓rA,rB,Nat.reduceAdd,Nat.reduceLeDiff,reduceCtorEq,tbAIz0,gb,h2,g7',n5,n6]
    exact⟨gr,g2,g3,g7,fun _=>rfl,g9,g10,gk.keep rfl rfl rfl rfl rfl rfl rfl⟩
   ·simp only [Nb] at n5 n6
    simp only [↓rA,rB,Nat.reduceAdd,Nat.reduceLeDiff,reduceCtorEq,tbAIz0,gb,h2,g7',n5,n6]
    exact⟨gr,g2,g3,g7,fun _=>rfl,g9,g10,gk.keep rfl rfl rfl rfl rfl rfl rfl⟩
  | 2,ho =>
   cases ho
   rcases gs with⟨h4,h5,h6,h7,gb⟩ | ⟨b5,h4,h5,h7,n5,g5,gb⟩ | ⟨b6,h4,h5,h6,n6,g6,gb⟩ | ⟨b5,b6,h4,h5,n,n',n5,n6,g5,g6,gb⟩ | ⟨b5,b6,h4,h5,n,n',n5,n6,g5,g6,gb⟩
   ·simp only [↓rA,rB,reduceCtorEq,tbAIz0,g3]
    exact⟨gr,g2,g3,g7,g8,fun _=>rfl,g10,gk.keep rfl rfl rfl rfl rfl rfl rfl⟩
   ·simp only [Nb] at n5
    simp only [↓rA,rB,reduceCtorEq,tbAIz0,g3]
    exact⟨gr,g2,g3,g7,g8,fun _=>rfl,g10,gk.keep rfl rfl rfl rfl rfl rfl rfl⟩
   ·simp only [Nb] at n6
    simp only [↓rA,rB,reduceCtorEq,tbAIz0,g3]
    exact⟨gr,g2,g3,g7,g8,fun _=>rfl,g10,gk.keep rfl rfl rfl rfl rfl rfl rfl⟩
   ·simp only [Nb] at n5 n6
    simp only [↓rA,rB,reduceCtorEq,tbAIz0,g3]
    exact⟨gr,g2,g3,g7,g8,fun _=>rfl,g10,gk.keep rfl rfl rfl rfl rfl rfl rfl⟩
   ·simp only [Nb] at n5 n6
    simp only [↓rA,rB,reduceCtorEq,tbAIz0,g3]
    exact⟨gr,g2,g3,g7,g8,fun _=>rfl,g10,gk.keep rfl rfl rfl rfl rfl rfl rfl⟩
  | 3,ho =>
   cases ho
   have g9':=g9 (he ⟨2,.data⟩ (by simp) rfl)
   rcases gs with⟨h4,h5,h6,h7,gb⟩ | ⟨b5,h4,h5,h7,n5,g5,gb⟩ | ⟨b6,h4,h5,h6,n6,g6,gb⟩ | ⟨b5,b6,h4,h5,n,n',n5,n6,g5,g6,gb⟩ | ⟨b5,b6,h4,h5,n,n',n5,n6,g5,g6,gb⟩
   ·simp only [↓rA,rB,Nat.reduceAdd,Nat.reduceLeDiff,reduceCtorEq,tbAIz0,gb,g9']
    exact⟨gr,g2,g3,g7,g8,g9,fun _=>rfl,gk.keep rfl rfl rfl rfl rfl rfl rfl⟩
   ·simp only [Nb] at n5
    simp only [↓rA,rB,Nat.reduceAdd,Nat.reduceLeDiff,reduceCtorEq,tbAIz0,gb,g9',n5]
    exact⟨gr,g2,g3,g7,g8,g9,fun _=>rfl,gk.keep rfl rfl rfl rfl rfl rfl rfl⟩
   ·simp only [Nb] at n6
    simp only [↓rA,rB,Nat.reduceAdd,Nat.reduceLeDiff,reduceCtorEq,tbAIz0,gb,g9',n6]
    exact⟨gr,g2,g3,g7,g8,g9,fun _=>rfl,gk.keep rfl rfl rfl rfl rfl rfl rfl⟩
   ·simp only [Nb] at n5 n6
    simp only [↓rA,rB,Nat.reduceAdd,Nat.reduceLeDiff,reduceCtorEq,tbAIz0,gb,g9',n5,n6]
    exact⟨gr,g2,g3,g7,g8,g9,fun _=>rfl,gk.keep rfl rfl rfl rfl rfl rfl rfl⟩
   ·simp only [Nb] at n5 n6
    simp only [↓rA,rB,Nat.reduceAdd,Nat.reduceLeDiff,reduceCtorEq,tbAIz0,gb,g9',n5,n6]
    exact⟨gr,g2,g3,g7,g8,g9,fun _=>rfl,gk.keep rfl rfl rfl rfl rfl rfl rfl⟩
  | 4,ho =>
   cases ho
   rcases gs with⟨h4,h5,h6,h7,gb⟩ | ⟨b5,h4,h5,h7,n5,g5,gb⟩ | ⟨b6,h4,h5,h6,n6,g6,gb⟩ | ⟨b5,b6,h4,h5,n,n',n5,n6,g5,g6,gb⟩ | ⟨b5,b6,h4,h5,n,n',n5,n6,g5,g6,gb⟩
   ·simp only [↓rA,rB,tbAIz0,gr,gb]
    refine fun b5 n5=>?_;replace n5:=newb n5;try simp only [Nb] at n5
    simp only [↓rA,rB]
    exact⟨gr,g2,g3,g7,g8,g9,g10,.inr (.inl ⟨b5,rfl,h5,h7,n5,rfl,by show _::S.boxes=(_,B.c (bif L 6 then _ else zR))::_;rw [gb,h6];rfl⟩)⟩
   ·rw [h4] at hL;cases hL
   ·simp only [Nb] at n6
    simp only [↓rA,rB,tbAIz0,gr,gb]
    refine fun b5 n5=>?_;replace n5:=newb n5;try simp only [Nb] at n5
    simp only [↓rA,rB]
    exact⟨gr,g2,g3,g7,g8,g9,g10,.inr (.inr (.inr (.inl ⟨b5,b6,rfl,h5,n5.1.2,n5.1.1,n5.2,n6,rfl,g6,by show _::S.boxes=(_,B.c (bif L 6 then _ else zR))::_;rw [gb,h6];rfl⟩)))⟩
   ·rw [h4] at hL;cases hL
   ·rw [h4] at hL;cases hL
  | 5,ho =>
   cases ho
   rcases gs with⟨h4,h5,h6,h7,gb⟩ | ⟨b5,h4,h5,h7,n5,g5,gb⟩ | ⟨b6,h4,h5,h6,n6,g6,gb⟩ | ⟨b5,b6,h4,h5,n,n',n5,n6,g5,g6,gb⟩ | ⟨b5,b6,h4,h5,n,n',n5,n6,g5,g6,gb⟩
   ·simp only [↓rA,rB,tbAIz0,gr,gb]
    refine fun b6 n6=>?_;replace n6:=newb n6;try simp only [Nb] at n6
    simp only [↓rA,rB]
    exact⟨gr,g2,g3,g7,g8,g9,g10,.inr (.inr (.inl ⟨b6,h4,rfl,h6,n6,rfl,by show _::S.boxes=(_,B.c (bif L 7 then _ else zR))::_;rw [gb,h7];rfl⟩))⟩
   ·simp only [Nb] at n5
    simp only [↓rA,rB,tbAIz0,gr,gb]
    refine fun b6 n6=>?_;replace n6:=newb n6;try simp only [Nb] at n6
    simp only [↓rA,rB]
    exact⟨gr,g2,g3,g7,g8,g9,g10,.inr (.inr (.inr (.inr ⟨b5,b6,h4,rfl,n6.1.1,n6.1.2,n5,n6.2,g5,rfl,by show _::S.boxes=(_,B.c (bif L 7 then _ else zR))::_;rw [gb,h7];rfl⟩)))⟩
   ·rw [h5] at hL;cases hL
   ·rw [h5] at hL;cases hL
   ·rw [h5] at hL;cases hL
  | 6,ho =>
   cases ho
   have g8':=g8 (he ⟨1,.data⟩ (by simp) rfl)
   have h4':=he ⟨4,.data⟩ (by simp) rfl
   replace h4':L 4=true:=h4'
   rcases gs with⟨h4,h5,h6,h7,gb⟩ | ⟨b5,h4,h5,h7,n5,g5,gb⟩ | ⟨b6,h4,h5,h6,n6,g6,gb⟩ | ⟨b5,b6,h4,h5,n,n',n5,n6,g5,g6,gb⟩ | ⟨b5,b6,h4,h5,n,n',n5,n6,g5,g6,gb⟩
   ·rw [h4] at h4';cases h4'
   ·simp only [Nb] at n5
    simp only [↓rA,rB,Nat.reduceAdd,tbAIz0,gb,g5,g8',hL,cond_false,zR]
    exact⟨gr,g2,g3,g7,g8,g9,g10,.inr (.inl ⟨b5,h4,h5,h7,n5,g5,rfl⟩)⟩
   ·rw [h4] at h4';cases h4'
   ·simp only [Nb] at n5 n6
    simp only [↓rA,rB,Nat.reduceAdd,tbAIz0,gb,g5,g8',hL,cond_false,zR]
    exact⟨gr,g2,g3,g7,g8,g9,g10,.inr (.inr (.inr (.inl ⟨b5,b6,h4,h5,n,n',n5,n6,g5,g6,rfl⟩)))⟩
   ·simp only [Nb] at n5 n6
    simp only [↓rA,rB,Nat.reduceAdd,tbAIz0,gb,g5,n,g8',hL,cond_false,zR]
    exact⟨gr,g2,g3,g7,g8,g9,g10,.inr (.inr (.inr (.inr ⟨b5,b6,h4,h5,n,n',n5,n6,g5,g6,rfl⟩)))⟩
  | 7,ho =>
   cases ho
   have g10':=g10 (he ⟨3,.data⟩ (by simp) rfl)
   have h5':=he ⟨5,.data⟩ (by simp) rfl
   replace h5':L 5=true:=h5'
   rcases gs with⟨h4,h5,h6,h7,gb⟩ | ⟨b5,h4,h5,h7,n5,g5,gb⟩ | ⟨b6,h4,h5,h6,n6,g6,gb⟩ | ⟨b5,b6,h4,h5,n,n',n5,n6,g5,g6,gb⟩ | ⟨b5,b6,h4,h5,n,n',n5,n6,g5,g6,gb⟩
   ·rw [h5] at h5';cases h5'
   ·rw [h5] at h5';cases h5'
   ·simp only [Nb] at n6
    simp only [↓rA,rB,Nat.reduceAdd,tbAIz0,gb,g6,g10',hL,cond_false,zR]
    exact⟨gr,g2,g3,g7,g8,g9,g10,.inr (.inr (.inl ⟨b6,h4,h5,h6,n6,g6,rfl⟩))⟩
   ·simp only [Nb] at n5 n6
    simp only [↓rA,rB,Nat.reduceAdd,tbAIz0,gb,n',g6,g10',hL,cond_false,zR]
    exact⟨gr,g2,g3,g7,g8,g9,g10,.inr (.inr (.inr (.inl ⟨b5,b6,h4,h5,n,n',n5,n6,g5,g6,rfl⟩)))⟩
   ·simp only [Nb] at n5 n6
    simp only [↓rA,rB,Nat.reduceAdd,tbAIz0,gb,g6,g10',hL,cond_false,zR]
    exact⟨gr,g2,g3,g7,g8,g9,g10,.inr (.inr (.inr (.inr ⟨b5,b6,h4,h5,n,n',n5,n6,g5,g6,rfl⟩)))⟩
  | n+8,ho=>cases ho
 ·intro L S hL ⟨gr,g2,g3,g7,g8,g9,g10,gs⟩
  replace hL:∀ i,i < 8→L i=true:=hL
  have l6:=hL 6 (by decide)
  have l7:=hL 7 (by decide)
  have ext:a=b↔a.tick=b.tick∧a.n=b.n∧(a.row.id.src=b.row.id.src∧a.row.id.seq=b.row.id.seq)∧a.row.table=b.row.table∧a.row.key=b.row.key∧a.row.event=b.row.event∧a.row.no=b.row.no∧a.row.tick=b.row.tick∧a.row.fields=b.row.fields:=by
   cases a with | mk r1 _ _=>cases b with | mk r2 _ _=>cases r1 with | mk i1 _ _ _ _ _ _=>cases r2 with | mk i2 _ _ _ _ _ _=>cases i1;cases i2;simp;exact⟨fun⟨⟨a,b,c,d,e,f,g⟩,h,i⟩=>⟨h,i,a,b,c,d,f,g,e⟩,fun⟨h,i,a,b,c,d,f,g,e⟩=>⟨⟨a,b,c,d,e,f,g⟩,h,i⟩⟩
  have fin:∀ x:Bool,(x=true↔a=b)→vbool x=vbool (decide (a=b)):=fun x hx=>by
   congr 2;rw [Bool.eq_iff_iff,hx,decide_eq_true_eq]
  rcases gs with⟨h4,h5,h6,h7,gb⟩ | ⟨b5,h4,h5,h7,n5,g5,gb⟩ | ⟨b6,h4,h5,h6,n6,g6,gb⟩ | ⟨b5,b6,h4,h5,n,n',n5,n6,g5,g6,gb⟩ | ⟨b5,b6,h4,h5,n,n',n5,n6,g5,g6,gb⟩
  ·rw [hL 4 (by decide)] at h4;cases h4
  ·rw [hL 5 (by decide)] at h5;cases h5
  ·rw [hL 4 (by decide)] at h4;cases h4
  ·simp only [Nb] at n5 n6
   by_cases e1:a.tick=b.tick
   ·skip
    by_cases e2:a.n=b.n
    ·skip
     by_cases e3:a.row.id.src=b.row.id.src∧a.row.id.seq=b.row.id.seq
     ·skip
      by_cases e4:a.row.table=b.row.table
      ·skip
       by_cases e5:a.row.key=b.row.key
       ·skip
        by_cases e6:a.row.event=b.row.event
        ·skip
         by_cases e7:a.row.no=b.row.no
         ·skip
          by_cases e8:a.row.tick=b.row.tick
          ·skip
           simp only [↓rA,rB,Nat.reduceAdd,Nat.reduceEqDiff,Nat.reduceLeDiff,tbAIz0,g2,g3,gb,h2,n5,g5,n6,n',g6,l6,l7,cond_true,e1,e2,e3,e4,e5,e6,e7,e8]
           refine OkF_of _ (equalVals_ok a.row.fields b.row.fields hl) ?_
           by_cases e9:a.row.fields=b.row.fields
           ·simp only [↓rA,rB,Nat.reduceEqDiff,gr,e9]
            exact ret_done (fin _ (by rw [ext];simp [e1,e2,e3,e4,e5,e6,e7,e8,e9]))
           ·simp only [↓rA,rB,Nat.reduceEqDiff,gr,e9]
            exact ret_done (fin _ (by rw [ext];simp [e9]))
          ·simp only [↓rA,rB,Nat.reduceAdd,Nat.reduceEqDiff,Nat.reduceLeDiff,tbAIz0,gr,g2,g3,gb,h2,n5,g5,n6,n',g6,l6,l7,cond_true,e1,e2,e3,e4,e5,e6,e7,e8]
           exact ret_done (fin _ (by rw [ext];simp [e8]))
         ·simp only [↓rA,rB,Nat.reduceAdd,Nat.reduceEqDiff,Nat.reduceLeDiff,tbAIz0,gr,g2,g3,gb,h2,n5,g5,n6,n',g6,l6,l7,cond_true,e1,e2,e3,e4,e5,e6,e7]
          exact ret_done (fin _ (by rw [ext];simp [e7]))
        ·simp only [↓rA,rB,Nat.reduceAdd,Nat.reduceEqDiff,Nat.reduceLeDiff,tbAIz0,gr,g2,g3,gb,h2,n5,g5,n6,n',g6,l6,l7,cond_true,e1,e2,e3,e4,e5,e6]
         exact ret_done (fin _ (by rw [ext];simp [e6]))
       ·simp only [↓rA,rB,Nat.reduceAdd,Nat.reduceEqDiff,Nat.reduceLeDiff,tbAIz0,gr,g2,g3,gb,h2,n5,g5,n6,n',g6,l6,l7,cond_true,e1,e2,e3,e4,e5]
        exact ret_done (fin _ (by rw [ext];simp [e5]))
      ·simp only [↓rA,rB,Nat.reduceAdd,Nat.reduceEqDiff,Nat.reduceLeDiff,tbAIz0,gr,g2,g3,gb,h2,n5,g5,n6,n',g6,l6,l7,cond_true,e1,e2,e3,e4]
       exact ret_done (fin _ (by rw [ext];simp [e4]))
     ·have hf:(decide (a.row.id.src=b.row.id.src) && decide (a.row.id.seq=b.row.id.seq))=false:=by
       rw [Bool.eq_false_iff];simpa using e3
      simp only [↓rA,rB,Nat.reduceAdd,Nat.reduceEqDiff,Nat.reduceLeDiff,tbAIz0,gr,g2,g3,gb,h2,n5,g5,n6,n',g6,l6,l7,cond_true,e1,e2,hf]
      exact ret_done (fin _ (by rw [ext];simp [e3]))
    ·simp only [↓rA,rB,Nat.reduceAdd,Nat.reduceEqDiff,tbAIz0,gr,g2,g3,gb,h2,n5,n6,l6,l7,cond_true,e1,e2]
     exact ret_done (fin _ (by rw [ext];simp [e2]))
   ·simp only [↓rA,rB,Nat.reduceAdd,Nat.reduceEqDiff,tbAIz0,gr,g2,g3,gb,h2,n5,n6,l6,l7,cond_true,e1]
    exact ret_done (fin _ (by rw [ext];simp [e1]))
  ·simp only [Nb] at n5 n6
   by_cases e1:a.tick=b.tick
   ·skip
    by_cases e2:a.n=b.n
    ·skip
     by_cases e3:a.row.id.src=b.row.id.src∧a.row.id.seq=b.row.id.seq
     ·skip
      by_cases e4:a.row.table=b.row.table
      ·skip
       by_cases e5:a.row.key=b.row.key
       ·skip
        by_cases e6:a.row.event=b.row.event
        ·skip
         by_cases e7:a.row.no=b.row.no
         ·skip
          by_cases e8:a.row.tick=b.row.tick
          ·skip
           simp only [↓rA,rB,Nat.reduceAdd,Nat.reduceEqDiff,Nat.reduceLeDiff,tbAIz0,g2,g3,gb,h2,n5,g5,n6,n,g6,l6,l7,cond_true,e1,e2,e3,e4,e5,e6,e7,e8]
           refine OkF_of _ (equalVals_ok a.row.fields b.row.fields hl) ?_
           by_cases e9:a.row.fields=b.row.fields
           ·simp only [↓rA,rB,Nat.reduceEqDiff,gr,e9]
            exact ret_done (fin _ (by rw [ext];simp [e1,e2,e3,e4,e5,e6,e7,e8,e9]))
           ·simp only [↓rA,rB,Nat.reduceEqDiff,gr,e9]
            exact ret_done (fin _ (by rw [ext];simp [e9]))
          ·simp only [↓rA,rB,Nat.reduceAdd,Nat.reduceEqDiff,Nat.reduceLeDiff,tbAIz0,gr,g2,g3,gb,h2,n5,g5,n6,n,g6,l6,l7,cond_true,e1,e2,e3,e4,e5,e6,e7,e8]
           exact ret_done (fin _ (by rw [ext];simp [e8]))
         ·simp only [↓rA,rB,Nat.reduceAdd,Nat.reduceEqDiff,Nat.reduceLeDiff,tbAIz0,gr,g2,g3,gb,h2,n5,g5,n6,n,g6,l6,l7,cond_true,e1,e2,e3,e4,e5,e6,e7]
          exact ret_done (fin _ (by rw [ext];simp [e7]))
        ·simp only [↓rA,rB,Nat.reduceAdd,Nat.reduceEqDiff,Nat.reduceLeDiff,tbAIz0,gr,g2,g3,gb,h2,n5,g5,n6,n,g6,l6,l7,cond_true,e1,e2,e3,e4,e5,e6]
         exact ret_done (fin _ (by rw [ext];simp [e6]))
       ·simp only [↓rA,rB,Nat.reduceAdd,Nat.reduceEqDiff,Nat.reduceLeDiff,tbAIz0,gr,g2,g3,gb,h2,n5,g5,n6,n,g6,l6,l7,cond_true,e1,e2,e3,e4,e5]
        exact ret_done (fin _ (by rw [ext];simp [e5]))
      ·simp only [↓rA,rB,Nat.reduceAdd,Nat.reduceEqDiff,Nat.reduceLeDiff,tbAIz0,gr,g2,g3,gb,h2,n5,g5,n6,n,g6,l6,l7,cond_true,e1,e2,e3,e4]
       exact ret_done (fin _ (by rw [ext];simp [e4]))
     ·have hf:(decide (a.row.id.src=b.row.id.src) && decide (a.row.id.seq=b.row.id.seq))=false:=by
       rw [Bool.eq_false_iff];simpa using e3
      simp only [↓rA,rB,Nat.reduceAdd,Nat.reduceEqDiff,Nat.reduceLeDiff,tbAIz0,gr,g2,g3,gb,h2,n5,g5,n6,n,g6,l6,l7,cond_true,e1,e2,hf]
      exact ret_done (fin _ (by rw [ext];simp [e3]))
    ·simp only [↓rA,rB,Nat.reduceAdd,Nat.reduceEqDiff,tbAIz0,gr,g2,g3,gb,h2,n5,n6,l6,l7,cond_true,e1,e2]
     exact ret_done (fin _ (by rw [ext];simp [e2]))
   ·simp only [↓rA,rB,Nat.reduceAdd,Nat.reduceEqDiff,tbAIz0,gr,g2,g3,gb,h2,n5,n6,l6,l7,cond_true,e1]
    exact ret_done (fin _ (by rw [ext];simp [e1]))
end
def tbAIz1:=(aI (aI (aI Ty.c22 Ty.t3) (aI Ty.t4 (aI Ty.t40 Ty.t41))) (aI (aI Ty.t43 (aI Ty.t50 Ty.t51)) (aI Ty.t69 (aI Ty.t85 Ty.t9))))
theorem equalF_ok (l m:List Dlt) (hl:l.length≤big) (hf:∀ x ∈ l,okF x.row):OkP Tryz.prog 20 [vDlts l,vDlts m,.lit (.func (.func 22) #[] #[])] (vbool (decide (l=m))):=by
 refine Ok.of_ex Ty.mixed Tryz.func20 rfl (by simp [Tryz.ntmps20]) (by kernel_rfl) fun F w0 I0=>?_
 unfold big at hl
 by_cases hlen:l.length=m.length
 ·simp only [↓rA,rB,Nat.reduceEqDiff,reduceCtorEq,tbAIz1,Tryz.results20,List.length_map,hlen]
  refine EX_for Ty.mixed (by kernel_rfl) l.length (fun i S=>(∀ j,j < i→l[j]? = m[j]?)∧S.σ 1=vDlts m∧S.σ 2=.lit (.func (.func 22) #[] #[])∧S.σ 15=vDlts l∧S.σ 16=vint l.length∧S.σ 17=vint i∧S.boxes=[]∧S.rows=[]) ⟨0,by simp,?_⟩ (fun i S hi ⟨ho,g1,g2,g15,g16,g17,gb,gr⟩=>?_) (fun S ⟨ho,g1,g2,g15,g16,g17,gb,gr⟩=>?_)
  ·simp only [rB,Nat.reduceEqDiff,hlen]
  ·have hj:i < m.length:=by omega
   simp only [↓rA,rB,Nat.reduceAdd,Nat.reduceEqDiff,tbAIz1,g15,g16,g17,gb,gr,Int.ofNat_lt,hi,List.length_map,getD_map]
   refine fun b3 h3=>?_;replace h3:=newb h3;try simp only [Nb] at h3
   simp only [↓rA,rB,Nat.reduceAdd,Nat.reduceEqDiff,tbAIz1,g1,gb,gr,Int.ofNat_lt,hi,hj,List.length_map,getD_map]
   refine fun b4 h4=>?_;replace h4:=newb h4;try simp only [Nb] at h4
   simp only [↓rA,rB,Nat.reduceAdd,Nat.reduceEqDiff,tbAIz1,g2,h4,hi,hj,getD_map]
   refine OkF_of _ (same54_ok l[i] m[i] (hf _ (List.getElem_mem hi))) ?_
   by_cases he:l[i]=m[i]
   ·simp only [↓rA,rB,Nat.reduceEqDiff,g1,g2,g15,g16,g17,gr,he,wrap_succ hi (Nat.le_trans hl (by decide))]
    exact⟨2,sofar hi hj he ho,rfl⟩
   ·simp only [↓rA,rB,gr,he]
    exact ret_done (by simp [ne_at hi hj he])
  ·simp only [↓rA,rB,g16,g17,gb,gr,Int.ofNat_lt,Nat.lt_irrefl]
   exact ret_done (by simp [ext_take hlen ho])
 ·have hi:¬ ((l.length:Int)=m.length):=by omega
  simp only [↓rA,rB,Nat.reduceEqDiff,reduceCtorEq,tbAIz1,Tryz.results20,List.length_map,hi]
  exact ret_done (by rw [decide_eq_false fun e=>hlen (by rw [e])])
end Go.Proofs.YtopfanlkbepemaaGreat.Arr
set_option linter.unusedSimpArgs false
set_option maxRecDepth 100000
set_option linter.defProp false
namespace Go.Proofs.YtopfanlkbepemaaGreat.Arr
open Go.VL Go.Ar Go.Proofs.YtopfanlkbepemaaGreat Go.Proofs.YtopfanlkbepemaaGreat.Arr
def tbAJz0:=(aI (aI (aI (aI Ty.c20 Ty.c21) (aI Ty.c22 Ty.t26)) (aI (aI Ty.t28 Ty.t3) (aI Ty.t30 Ty.t4))) (aI (aI (aI Ty.t40 Ty.t41) (aI Ty.t43 Ty.t50)) (aI (aI Ty.t51 Ty.t59) (aI Ty.t69 (aI Ty.t85 Ty.t9)))))
set_option maxHeartbeats 2000000 in
theorem check27_ok (a:Arr) (ha:fitA a):OkP Tryz.prog 7 [vArr a] (vint (checkM a)):=by
 obtain⟨s,l⟩:=a
 obtain⟨hl,hds⟩:=ha.fitG
 simp only at hl hds
 unfold big at hl
 refine Ok.of_ex Ty.mixed Tryz.func7 rfl (by simp [Tryz.ntmps7]) (by kernel_rfl) fun F w0 I0=>?_
 simp only [↓rA,rB]
 refine fun b1 h1=>?_;replace h1:=newb h1;try simp only [Nb] at h1
 by_cases c1:s < 0
 ·simp only [↓rA,rB,Nat.reduceAdd,Nat.reduceEqDiff,tbAJz0,Tryz.results7,c1]
  exact ret_done (by rw [check_since (.inl c1)])
 by_cases c2:maxT < s
 ·simp only [↓rA,rB,Nat.reduceAdd,Nat.reduceEqDiff,tbAJz0,Tryz.results7,c1,c2]
  exact ret_done (by rw [check_since (.inr c2)])
 simp only [↓rA,rB,Nat.reduceAdd,Nat.reduceEqDiff,tbAJz0,Tryz.results7,c1,c2,List.length_map]
 refine EX_for Ty.mixed (by kernel_rfl) l.length (fun i S=>okGsB s none l=okGsB s (prevK l i) (l.drop i)∧S.σ 1=ptr b1∧S.σ 2=vint 0∧S.σ 16=vGrps l∧S.σ 17=vint l.length∧S.σ 18=vint i∧S.boxes=[(b1,.c (cArr ⟨s,l⟩))]∧S.rows=[]) ⟨0,rfl,?_⟩ (fun i S hi ⟨hgo,g1,g2,g16,g17,g18,gb,gr⟩=>?_) (fun S ⟨hgo,g1,g2,g16,g17,g18,gb,gr⟩=>?_)
 ·simp only [rB,Nat.reduceEqDiff]
 ·rw [okGs_step s l i hi] at hgo
  have hdf:=hds _ (List.getElem_mem hi)
  generalize hg:l[i]=g at hgo hdf
  have hlen:=hdf.1
  unfold big at hlen
  have bad:okG s (prevK l i) g=false→checkM ⟨s,l⟩=1:=fun h=>check_no (by rw [hgo,h,Bool.false_and])
  simp only [↓rA,rB,Nat.reduceAdd,Nat.reduceEqDiff,tbAJz0,g16,g17,g18,gb,gr,Int.ofNat_lt,hi,List.length_map,getD_map,hg]
  refine fun b4 h4=>?_;replace h4:=newb h4;try simp only [Nb] at h4
  by_cases e0:g.ds=[]
  ·have e0':((g.ds.length:Int)=0):=by rw [e0];rfl
   simp only [↓rA,rB,Nat.reduceAdd,Nat.reduceEqDiff,tbAJz0,gb,gr,e0',List.length_map]
   exact ret_done (by rw [bad (okG_nil e0)])
  have e0':¬ ((g.ds.length:Int)=0):=fun h=>e0 (List.eq_nil_of_length_eq_zero (by omega))
  cases i with
  | zero =>
   have hpk:∀ k,prevK l 0=some k→less k g.key=true:=fun k h=>by cases h
   simp only [↓rA,rB,Int.reduceToNat,Nat.reduceAdd,Nat.reduceEqDiff,tbAJz0,gb,e0',List.length_map,Int.lt_irrefl]
   refine CallV_of _ (cons_ok g.ds hdf).v ?_
   simp only [↓rA,rB,Int.reduceToNat,Nat.reduceEqDiff,tbAJz0,List.length_map]
   refine CallV_of _ (equalF_ok g.ds (consM g.ds) (Nat.le_trans hlen (by decide)) hdf.okF).v ?_
   by_cases e4:g.ds=consM g.ds
   ·have e4':=decide_eq_true e4
    rw [e4']
    simp only [↓rA,rB,Int.reduceToNat,Nat.reduceEqDiff,tbAJz0,List.length_map]
    have hyes:(∀ x ∈ g.ds,x.row.key=g.key∧s≤x.tick)→okGsB s none l=okGsB s (prevK l (0+1)) (l.drop (0+1)):=fun h3=>by
     rw [hgo,okG_yes e0 hpk h3 e4,Bool.true_and]
    refine EX_forS Ty.mixed (by kernel_rfl) g.ds.length (fun k S=>(∀ k',(h:k' < g.ds.length)→k' < k→g.ds[k'].row.key=g.key∧s≤g.ds[k'].tick)∧S.σ 1=ptr b1∧S.σ 2=vint 0∧S.σ 16=vGrps l∧S.σ 17=vint l.length∧S.σ 18=vint ((0:Nat):Int)∧S.σ 4=ptr b4∧S.σ 53=vDlts g.ds∧S.σ 54=vint g.ds.length∧S.σ 55=vint k∧S.boxes=[(b4,.c (cGrp g)),(b1,.c (cArr ⟨s,l⟩))]∧S.rows=[]) ⟨_,_,List.Sublist.refl _,List.Sublist.refl _,fun k' h hk'=>absurd hk' (Nat.not_lt_zero _),?_⟩ (fun k S hk ⟨ho,g1,g2,g16,g17,g18,g4,g53,g54,g55,gb,gr⟩=>?_) (fun S ⟨ho,g1,g2,g16,g17,g18,g4,g53,g54,g55,gb,gr⟩=>?_)
    ·simp only [rB,Nat.reduceEqDiff,g1,g2,g16,g17,g18,gr]
     try exact⟨trivial,trivial⟩
    ·simp only [↓rA,rB,Nat.reduceAdd,Nat.reduceEqDiff,tbAJz0,g53,g54,g55,gb,gr,Int.ofNat_lt,hk,List.length_map,getD_map]
     refine fun b6 h6=>?_;replace h6:=newb h6;try simp only [Nb] at h6
     by_cases k1:g.ds[k].row.key=g.key
     ·by_cases k2:g.ds[k].tick < s
      ·simp only [↓rA,rB,Nat.reduceAdd,Nat.reduceEqDiff,tbAJz0,g1,g4,gb,gr,h4,h6,hk,getD_map,k1,k2]
       exact ret_done (by rw [bad (okG_all (List.getElem_mem hk) (.inr k2))])
      ·simp only [↓rA,rB,Nat.reduceAdd,Nat.reduceEqDiff,tbAJz0,g1,g4,g55,gb,h4,h6,hk,getD_map,k1,k2,wrap_succ hk (Nat.le_trans hlen (by decide))]
       refine⟨_,_,List.sublist_cons_self _ _,List.Sublist.refl _,fun k' h hk'=>?_,?_⟩
       ·by_cases e:k'=k
        ·subst e;exact⟨k1,by omega⟩
        ·exact ho k' h (by omega)
       ·simp only [rB,Nat.reduceEqDiff,g1,g2,g16,g17,g18,g4,g53,g54,gr]
        try exact⟨trivial,trivial⟩
     ·simp only [↓rA,rB,Nat.reduceAdd,Nat.reduceEqDiff,tbAJz0,g4,gb,gr,h6,hk,getD_map,k1]
      exact ret_done (by rw [bad (okG_all (List.getElem_mem hk) (.inl k1))])
    ·have hall:∀ x ∈ g.ds,x.row.key=g.key∧s≤x.tick:=fun x hx=>by
      obtain⟨k',h,rfl⟩:=List.getElem_of_mem hx
      exact ho k' h h
     simp only [↓rA,rB,Nat.reduceEqDiff,g1,g2,g16,g17,g18,g54,g55,gb,gr,Int.ofNat_lt,Nat.lt_irrefl]
     first | exact⟨1,hyes hall,rfl,rfl⟩ | exact⟨1,hyes hall,rfl⟩
   ·have e4':=decide_eq_false e4
    rw [e4']
    simp only [↓rA,rB,Int.reduceToNat,Nat.reduceEqDiff,gr]
    exact ret_done (by rw [bad (okG_cons e4)])
  | succ j =>
   have hj:j < l.length:=by omega
   have w1:=wrap_pred j (by omega)
   have hprev:prevK l (j+1)=some l[j].key:=prevK_succ l j hj
   by_cases hp:less l[j].key g.key=true
   ·have hpk:∀ k,prevK l (j+1)=some k→less k g.key=true:=fun k h=>by rw [hprev] at h;cases h;exact hp
    have p1:Op.bytesLess g.key.data.toList l[j].key.data.toList=false:=less_asymm hp
    have p2:¬ g.key=l[j].key:=fun e=>less_ne hp e.symm
    simp only [↓rA,rB,Nat.reduceAdd,Nat.reduceEqDiff,tbAJz0,g1,gb,h4,e0',List.length_map,w1,Int.ofNat_lt,hj,getD_map,p1,p2]
    refine CallV_of _ (cons_ok g.ds hdf).v ?_
    simp only [↓rA,rB,Nat.reduceEqDiff,tbAJz0,List.length_map]
    refine CallV_of _ (equalF_ok g.ds (consM g.ds) (Nat.le_trans hlen (by decide)) hdf.okF).v ?_
    by_cases e4:g.ds=consM g.ds
    ·have e4':=decide_eq_true e4
     rw [e4']
     simp only [↓rA,rB,Nat.reduceEqDiff,tbAJz0,List.length_map]
     have hyes:(∀ x ∈ g.ds,x.row.key=g.key∧s≤x.tick)→okGsB s none l=okGsB s (prevK l (j+1+1)) (l.drop (j+1+1)):=fun h3=>by
      rw [hgo,okG_yes e0 hpk h3 e4,Bool.true_and]
     refine EX_forS Ty.mixed (by kernel_rfl) g.ds.length (fun k S=>(∀ k',(h:k' < g.ds.length)→k' < k→g.ds[k'].row.key=g.key∧s≤g.ds[k'].tick)∧S.σ 1=ptr b1∧S.σ 2=vint 0∧S.σ 16=vGrps l∧S.σ 17=vint l.length∧S.σ 18=vint ((j+1:Nat):Int)∧S.σ 4=ptr b4∧S.σ 53=vDlts g.ds∧S.σ 54=vint g.ds.length∧S.σ 55=vint k∧S.boxes=[(b4,.c (cGrp g)),(b1,.c (cArr ⟨s,l⟩))]∧S.rows=[]) ⟨_,_,List.Sublist.refl _,List.Sublist.refl _,fun k' h hk'=>absurd hk' (Nat.not_lt_zero _),?_⟩ (fun k S hk ⟨ho,g1,g2,g16,g17,g18,g4,g53,g54,g55,gb,gr⟩=>?_) (fun S ⟨ho,g1,g2,g16,g17,g18,g4,g53,g54,g55,gb,gr⟩=>?_)
     ·simp only [rB,Nat.reduceEqDiff,g1,g2,g16,g17,g18,gr]
      try exact⟨trivial,trivial⟩
     ·simp only [↓rA,rB,Nat.reduceAdd,Nat.reduceEqDiff,tbAJz0,g53,g54,g55,gb,gr,Int.ofNat_lt,hk,List.length_map,getD_map]
      refine fun b6 h6=>?_;replace h6:=newb h6;try simp only [Nb] at h6
      by_cases k1:g.ds[k].row.key=g.key
      ·by_cases k2:g.ds[k].tick < s
       ·simp only [↓rA,rB,Nat.reduceAdd,Nat.reduceEqDiff,tbAJz0,g1,g4,gb,gr,h4,h6,hk,getD_map,k1,k2]
        exact ret_done (by rw [bad (okG_all (List.getElem_mem hk) (.inr k2))])
       ·simp only [↓rA,rB,Nat.reduceAdd,Nat.reduceEqDiff,tbAJz0,g1,g4,g55,gb,h4,h6,hk,getD_map,k1,k2,wrap_succ hk (Nat.le_trans hlen (by decide))]
        refine⟨_,_,List.sublist_cons_self _ _,List.Sublist.refl _,fun k' h hk'=>?_,?_⟩
        ·by_cases e:k'=k
         ·subst e;exact⟨k1,by omega⟩
         ·exact ho k' h (by omega)
        ·simp only [rB,Nat.reduceEqDiff,g1,g2,g16,g17,g18,g4,g53,g54,gr]
         try exact⟨trivial,trivial⟩
      ·simp only [↓rA,rB,Nat.reduceAdd,Nat.reduceEqDiff,tbAJz0,g4,gb,gr,h6,hk,getD_map,k1]
       exact ret_done (by rw [bad (okG_all (List.getElem_mem hk) (.inl k1))])
     ·have hall:∀ x ∈ g.ds,x.row.key=g.key∧s≤x.tick:=fun x hx=>by
       obtain⟨k',h,rfl⟩:=List.getElem_of_mem hx
       exact ho k' h h
      simp only [↓rA,rB,Nat.reduceEqDiff,g1,g2,g16,g17,g18,g54,g55,gb,gr,Int.ofNat_lt,Nat.lt_irrefl,wrap_succ hi (Nat.le_trans hl (by decide))]
      first | exact⟨1,hyes hall,rfl,rfl⟩ | exact⟨1,hyes hall,rfl⟩
    ·have e4':=decide_eq_false e4
     rw [e4']
     simp only [↓rA,rB,Nat.reduceEqDiff,gr]
     exact ret_done (by rw [bad (okG_cons e4)])
   ·have hp':less l[j].key g.key=false:=by simpa using hp
    have hb:=bad (by rw [hprev];exact okG_prev hp')
    by_cases p2:g.key=l[j].key
    ·have p1:Op.bytesLess l[j].key.data.toList l[j].key.data.toList=false:=bytesLess_irrefl _
     simp only [↓rA,rB,Nat.reduceAdd,Nat.reduceEqDiff,tbAJz0,g1,gb,gr,h4,e0',List.length_map,w1,Int.ofNat_lt,hj,getD_map,p1,p2]
     exact ret_done (by rw [hb])
    ·have p1:Op.bytesLess g.key.data.toList l[j].key.data.toList=true:=less_total hp' fun e=>p2 e.symm
     simp only [↓rA,rB,Nat.reduceAdd,Nat.reduceEqDiff,tbAJz0,g1,gb,gr,h4,e0',List.length_map,w1,Int.ofNat_lt,hj,getD_map,p1,p2]
     exact ret_done (by rw [hb])
 ·simp only [↓rA,rB,g17,g18,gb,gr,Int.ofNat_lt,Nat.lt_irrefl]
  have:okGsB s none l=true:=by rw [hgo,List.drop_of_length_le (Nat.le_refl _)];rfl
  exact ret_done (by rw [check_yes c1 c2 this])
end Go.Proofs.YtopfanlkbepemaaGreat.Arr
