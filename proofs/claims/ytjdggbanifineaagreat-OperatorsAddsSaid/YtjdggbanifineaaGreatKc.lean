/- Merged out of my texts GX GN GY GZ H0 H1 LA CA O7 O8 H2 H3 H4. -/
import Derived.Test.YtjdggbanifineaaGreatKb
import Derived.Test.YtjdggbanifineaaGreatKa
import Derived.Test.YtjdggbanifineaaGreatKTy
import Derived.Test.YtjdggbanifineaaGreatKVT
import Derived.Test.YtjdggbanifineaaGreatKVK
import Derived.Lib.IndexMore
import Derived.Test.YtjdggbanifineaaGreatKVH
set_option linter.unusedSimpArgs false
set_option maxRecDepth 100000
set_option linter.defProp false
namespace Go.Ar
open Go.VL Go.Sg Go.Lo
abbrev cSt (s:Stt):List V:=[vint s.1,vint (s.2.1 / 18446744073709551616),vu (s.2.1 % 18446744073709551616),vIts s.2.2.1,vBks s.2.2.2]
def addF (f:Nat) (s:Stt) (v:Val) (id:FID) (n:Int):Stt:=if f=0∨n=0 then s else addM f s v id n
theorem Le.agg {l l':List V} (h:LeL l l'):Le (.agg l) (.agg l'):=by
 intro w I x hx
 simp only [V.rep] at hx ⊢
 obtain⟨xs,h1,h2⟩:=hx
 exact⟨xs,h1,h.reps h2⟩
theorem Le.two {a b a' b':V} (h:Le a a') (h':Le b b'):LeL [a,b] [a',b']:=.cons h (.cons h' .nil)
theorem norowsO {P f args bs0 Q Q'} (h:Ok P f args bs0 Q) (hq:∀ v bs rs,Q v bs rs→∃ v' bs' rs',Le v v'∧bs'.Sublist bs∧rs'.Sublist rs∧Q' v' bs' rs'):Ok P f args bs0 Q':=by
 intro w I xs hr hH
 refine(h w I xs hr hH).mono fun e w' ⟨x,v,bs',rs',I',he,hv,hk,hh,hn,hQ⟩=>?_
 obtain⟨v2,bs2,rs2,hl,h1,h2,hQ'⟩:=hq _ _ _ hQ
 exact⟨x,v2,bs2,rs2,I',he,hl w' I' x hv,hk,hh.sub h1 h2,fun b hb=>hn b ((List.Sublist.append (h1.map _) (h2.filterMap _)).subset hb),hQ'⟩
theorem LeSt {a b c d e d' e':V} (h:Le d d') (h':Le e e'):Le (.agg [a,b,c,d,e]) (.agg [a,b,c,d',e']):=Le.agg (.cons (Le.refl _) (.cons (Le.refl _) (.cons (Le.refl _) (Le.two h h'))))
theorem cells_len6 (L:Its):((L.map cIt).flatten).length=L.length * 6:=flatK_len (c:=cIt) (k:=6) (fun _=>rfl) L
end Go.Ar
namespace Go.Proofs.YtjdggbanifineaaGreat
open Go.VL Go.Ar Go.Sg Go.Lo Go.Proofs.YtjdggbanifineaaGreat Go.Proofs.YtjdggbanifineaaGreat.Arr
theorem insert_ok (facts:Bool) (l:Its) (hc:Canon ordM addW l) (hz:∀ p ∈ l,mkB facts p.1=p.1) (k:Mk) (n:Int) (hn:inW n) (hn0:¬ n=0) (hl:l.length≤90000):OkP Tryz.prog 212 [.agg [vbool facts],vIts l,.agg (cIt (k,n))] (vIts (put ordM addW (mkB facts k) n l)):=by
 have hraw:=insert_raw facts l hc hz k n hn hn0 hl
 generalize put ordM addW (mkB facts k) n l=L at hraw
 refine norowsO (Q:=fun v bs rs=>bs=[]∧rs=[]∧∃ y,v=.list (some y) 6 (L.map cIt)) (Ok.freeze hraw fun v bs rs h=>?_) fun v bs rs h=>?_
 ·obtain⟨rfl,b,c,rest,hc,rfl,rfl⟩:=h
  exact .inr ⟨b,L.length,c,6,_,L.map cIt,[],_,List.Perm.refl _,⟨List.take_left' (cells_len6 L),fun e he=>by obtain⟨x,_,rfl⟩:=List.mem_map.1 he;rfl,by simp,hc⟩,.here,rfl,rfl,_,rfl⟩
 ·obtain⟨rfl,rfl,y,rfl⟩:=h
  exact⟨vIts L,[],[],Le.list _ _ _,List.nil_sublist _,List.nil_sublist _,rfl,rfl,rfl⟩
def tbGX0:=(aI (aI (aI (aI Ty.c191 Ty.c195) (aI Ty.c198 Ty.c209)) (aI (aI Ty.t106 Ty.t117) (aI Ty.t26 Ty.t28))) (aI (aI (aI Ty.t3 Ty.t49) (aI Ty.t51 Ty.t52)) (aI (aI Ty.t53 Ty.t55) (aI Ty.t65 Ty.t9))))
theorem tally_ok (a b:Int):OkP Tryz.prog 192 [.agg [],vint a,vint b] (.agg [vint (addW.add a b),vint 0,vu 0,nilS,nilS]):=by
 refine Ok.of_ex Ty.mixed Tryz.func192 rfl (by simp [Tryz.ntmps192]) (by kernel_rfl) fun F w0 I0=>?_
 simp only [↓rA,rB,buildOk,nt_is,Int.reduceEq,Int.reduceLE,Int.reduceLT,Int.reduceToNat,Nat.reduceAdd,Nat.reduceEqDiff,Nat.reduceLT,Nat.reduceLeDiff,Nat.reduceMul,Nat.reduceSub,reduceCtorEq,tbGX0,Tryz.results192]
 refine fun b1 h1=>?_;replace h1:=newb h1;try simp only [Nb] at h1
 simp only [↓rA,rB,buildOk,nt_is,Int.reduceEq,Int.reduceLE,Int.reduceLT,Int.reduceToNat,Nat.reduceAdd,Nat.reduceEqDiff,Nat.reduceLT,Nat.reduceLeDiff,Nat.reduceMul,Nat.reduceSub,reduceCtorEq,tbGX0,Tryz.results192,h1]
 refine fun b2 h2=>?_;replace h2:=newb h2;try simp only [Nb] at h2
 simp only [↓rA,rB,buildOk,nt_is,Int.reduceEq,Int.reduceLE,Int.reduceLT,Int.reduceToNat,Nat.reduceAdd,Nat.reduceEqDiff,Nat.reduceLT,Nat.reduceLeDiff,Nat.reduceMul,Nat.reduceSub,reduceCtorEq,tbGX0,Tryz.results192,h1,h2]
 exact ret_done rfl
def tbGX1:=(aI (aI (aI (aI Ty.c191 Ty.c192) (aI Ty.c195 Ty.c198)) (aI (aI Ty.c209 Ty.t106) (aI Ty.t117 Ty.t26))) (aI (aI (aI Ty.t28 Ty.t3) (aI Ty.t49 Ty.t51)) (aI (aI Ty.t52 Ty.t53) (aI Ty.t55 (aI Ty.t65 Ty.t9)))))
theorem put1_ok (s:Stt) (p:Mk × Int):OkP Tryz.prog 191 [.agg [],.agg (cSt s),.agg (cIt p)] (.agg (cSt (addM 1 s p.1.2 p.1.1 p.2))):=by
 refine Ok.of_ex Ty.mixed Tryz.func191 rfl (by simp [Tryz.ntmps191]) (by kernel_rfl) fun F w0 I0=>?_
 simp only [↓rA,rB,buildOk,nt_is,Int.reduceEq,Int.reduceLE,Int.reduceLT,Int.reduceToNat,Nat.reduceAdd,Nat.reduceEqDiff,Nat.reduceLT,Nat.reduceLeDiff,Nat.reduceMul,Nat.reduceSub,reduceCtorEq,tbGX1,Tryz.results191]
 refine fun b1 h1=>?_;replace h1:=newb h1;try simp only [Nb] at h1
 simp only [↓rA,rB,buildOk,nt_is,Int.reduceEq,Int.reduceLE,Int.reduceLT,Int.reduceToNat,Nat.reduceAdd,Nat.reduceEqDiff,Nat.reduceLT,Nat.reduceLeDiff,Nat.reduceMul,Nat.reduceSub,reduceCtorEq,tbGX1,Tryz.results191,h1]
 refine fun b2 h2=>?_;replace h2:=newb h2;try simp only [Nb] at h2
 simp only [↓rA,rB,buildOk,nt_is,Int.reduceEq,Int.reduceLE,Int.reduceLT,Int.reduceToNat,Nat.reduceAdd,Nat.reduceEqDiff,Nat.reduceLT,Nat.reduceLeDiff,Nat.reduceMul,Nat.reduceSub,reduceCtorEq,tbGX1,Tryz.results191,h1,h2]
 refine fun b3 h3=>?_;replace h3:=newb h3;try simp only [Nb] at h3
 simp only [↓rA,rB,buildOk,nt_is,Int.reduceEq,Int.reduceLE,Int.reduceLT,Int.reduceToNat,Nat.reduceAdd,Nat.reduceEqDiff,Nat.reduceLT,Nat.reduceLeDiff,Nat.reduceMul,Nat.reduceSub,reduceCtorEq,tbGX1,Tryz.results191,h1,h2,h3]
 refine fun b4 h4=>?_;replace h4:=newb h4;try simp only [Nb] at h4
 simp only [↓rA,rB,buildOk,nt_is,Int.reduceEq,Int.reduceLE,Int.reduceLT,Int.reduceToNat,Nat.reduceAdd,Nat.reduceEqDiff,Nat.reduceLT,Nat.reduceLeDiff,Nat.reduceMul,Nat.reduceSub,reduceCtorEq,tbGX1,Tryz.results191,h1,h2,h3,h4]
 refine OkF_of _ (tally_ok s.1 p.2) ?_
 simp only [↓rA,rB,buildOk,nt_is,Int.reduceEq,Int.reduceLE,Int.reduceLT,Int.reduceToNat,Nat.reduceAdd,Nat.reduceEqDiff,Nat.reduceLT,Nat.reduceLeDiff,Nat.reduceMul,Nat.reduceSub,reduceCtorEq,tbGX1,Tryz.results191,h1,h2,h3,h4]
 exact ret_le (LeSt (Le.nil 6) (Le.nil 2))
def tbGX2:=(aI (aI (aI (aI Ty.c135 Ty.c137) (aI Ty.c191 (aI Ty.c192 Ty.c195))) (aI (aI Ty.c198 Ty.c209) (aI Ty.t106 (aI Ty.t108 Ty.t117)))) (aI (aI (aI Ty.t26 Ty.t28) (aI Ty.t3 (aI Ty.t49 Ty.t51))) (aI (aI Ty.t52 Ty.t53) (aI Ty.t55 (aI Ty.t65 Ty.t9)))))
theorem put2_ok (s:Stt) (p:Mk × Int) (hv:inW p.1.2.n) (hn:inW p.2):OkP Tryz.prog 195 [.agg [],.agg (cSt s),.agg (cIt p)] (.agg (cSt (addM 2 s p.1.2 p.1.1 p.2))):=by
 refine Ok.of_ex Ty.mixed Tryz.func195 rfl (by simp [Tryz.ntmps195]) (by kernel_rfl) fun F w0 I0=>?_
 simp only [↓rA,rB,buildOk,nt_is,Int.reduceEq,Int.reduceLE,Int.reduceLT,Int.reduceToNat,Nat.reduceAdd,Nat.reduceEqDiff,Nat.reduceLT,Nat.reduceLeDiff,Nat.reduceMul,Nat.reduceSub,reduceCtorEq,tbGX2,Tryz.results195]
 refine fun b1 h1=>?_;replace h1:=newb h1;try simp only [Nb] at h1
 simp only [↓rA,rB,buildOk,nt_is,Int.reduceEq,Int.reduceLE,Int.reduceLT,Int.reduceToNat,Nat.reduceAdd,Nat.reduceEqDiff,Nat.reduceLT,Nat.reduceLeDiff,Nat.reduceMul,Nat.reduceSub,reduceCtorEq,tbGX2,Tryz.results195,h1]
 refine fun b2 h2=>?_;replace h2:=newb h2;try simp only [Nb] at h2
 simp only [↓rA,rB,buildOk,nt_is,Int.reduceEq,Int.reduceLE,Int.reduceLT,Int.reduceToNat,Nat.reduceAdd,Nat.reduceEqDiff,Nat.reduceLT,Nat.reduceLeDiff,Nat.reduceMul,Nat.reduceSub,reduceCtorEq,tbGX2,Tryz.results195,h1,h2]
 refine fun b3 h3=>?_;replace h3:=newb h3;try simp only [Nb] at h3
 simp only [↓rA,rB,buildOk,nt_is,Int.reduceEq,Int.reduceLE,Int.reduceLT,Int.reduceToNat,Nat.reduceAdd,Nat.reduceEqDiff,Nat.reduceLT,Nat.reduceLeDiff,Nat.reduceMul,Nat.reduceSub,reduceCtorEq,tbGX2,Tryz.results195,h1,h2,h3]
 refine fun b4 h4=>?_;replace h4:=newb h4;try simp only [Nb] at h4
 simp only [↓rA,rB,buildOk,nt_is,Int.reduceEq,Int.reduceLE,Int.reduceLT,Int.reduceToNat,Nat.reduceAdd,Nat.reduceEqDiff,Nat.reduceLT,Nat.reduceLeDiff,Nat.reduceMul,Nat.reduceSub,reduceCtorEq,tbGX2,Tryz.results195,h1,h2,h3,h4]
 refine OkF_of _ (tally_ok s.1 p.2) ?_
 simp only [↓rA,rB,buildOk,nt_is,Int.reduceEq,Int.reduceLE,Int.reduceLT,Int.reduceToNat,Nat.reduceAdd,Nat.reduceEqDiff,Nat.reduceLT,Nat.reduceLeDiff,Nat.reduceMul,Nat.reduceSub,reduceCtorEq,tbGX2,Tryz.results195,h1,h2,h3,h4]
 refine fun b5 h5=>?_;replace h5:=newb h5;try simp only [Nb] at h5
 simp only [↓rA,rB,buildOk,nt_is,Int.reduceEq,Int.reduceLE,Int.reduceLT,Int.reduceToNat,Nat.reduceAdd,Nat.reduceEqDiff,Nat.reduceLT,Nat.reduceLeDiff,Nat.reduceMul,Nat.reduceSub,reduceCtorEq,tbGX2,Tryz.results195,h1,h2,h3,h4,h5]
 refine CallV_of _ (wmul_ok p.1.2.n p.2 hv hn).v ?_
 simp only [↓rA,rB,buildOk,nt_is,Int.reduceEq,Int.reduceLE,Int.reduceLT,Int.reduceToNat,Nat.reduceAdd,Nat.reduceEqDiff,Nat.reduceLT,Nat.reduceLeDiff,Nat.reduceMul,Nat.reduceSub,reduceCtorEq,tbGX2,Tryz.results195,h1,h2,h3,h4,h5]
 refine CallV_of _ (wadd_ok s.2.1 (w128 (p.1.2.n * p.2))).v ?_
 simp only [↓rA,rB,buildOk,nt_is,Int.reduceEq,Int.reduceLE,Int.reduceLT,Int.reduceToNat,Nat.reduceAdd,Nat.reduceEqDiff,Nat.reduceLT,Nat.reduceLeDiff,Nat.reduceMul,Nat.reduceSub,reduceCtorEq,tbGX2,Tryz.results195,h1,h2,h3,h4,h5]
 exact ret_le (LeSt (Le.nil 6) (Le.nil 2))
def tbGX3:=(aI (aI (aI (aI Ty.c191 Ty.c192) (aI Ty.c195 Ty.c198)) (aI (aI Ty.c201 Ty.c209) (aI Ty.t106 (aI Ty.t109 Ty.t117)))) (aI (aI (aI Ty.t26 Ty.t28) (aI Ty.t3 (aI Ty.t49 Ty.t51))) (aI (aI Ty.t52 Ty.t53) (aI Ty.t55 (aI Ty.t65 Ty.t9)))))
theorem put3_ok (s:Stt) (p:Mk × Int) (hs:Canon ordI addW s.2.2.2) (hl:s.2.2.2.length≤100000) (hv:inW p.1.2.n) (hn:inW p.2):OkP Tryz.prog 198 [.agg [],.agg (cSt s),.agg (cIt p)] (.agg (cSt (addM 3 s p.1.2 p.1.1 p.2))):=by
 refine Ok.of_ex Ty.mixed Tryz.func198 rfl (by simp [Tryz.ntmps198]) (by kernel_rfl) fun F w0 I0=>?_
 simp only [↓rA,rB,buildOk,nt_is,Int.reduceEq,Int.reduceLE,Int.reduceLT,Int.reduceToNat,Nat.reduceAdd,Nat.reduceEqDiff,Nat.reduceLT,Nat.reduceLeDiff,Nat.reduceMul,Nat.reduceSub,reduceCtorEq,tbGX3,Tryz.results198]
 refine fun b1 h1=>?_;replace h1:=newb h1;try simp only [Nb] at h1
 simp only [↓rA,rB,buildOk,nt_is,Int.reduceEq,Int.reduceLE,Int.reduceLT,Int.reduceToNat,Nat.reduceAdd,Nat.reduceEqDiff,Nat.reduceLT,Nat.reduceLeDiff,Nat.reduceMul,Nat.reduceSub,reduceCtorEq,tbGX3,Tryz.results198,h1]
 refine fun b2 h2=>?_;replace h2:=newb h2;try simp only [Nb] at h2
 simp only [↓rA,rB,buildOk,nt_is,Int.reduceEq,Int.reduceLE,Int.reduceLT,Int.reduceToNat,Nat.reduceAdd,Nat.reduceEqDiff,Nat.reduceLT,Nat.reduceLeDiff,Nat.reduceMul,Nat.reduceSub,reduceCtorEq,tbGX3,Tryz.results198,h1,h2]
 refine fun b3 h3=>?_;replace h3:=newb h3;try simp only [Nb] at h3
 simp only [↓rA,rB,buildOk,nt_is,Int.reduceEq,Int.reduceLE,Int.reduceLT,Int.reduceToNat,Nat.reduceAdd,Nat.reduceEqDiff,Nat.reduceLT,Nat.reduceLeDiff,Nat.reduceMul,Nat.reduceSub,reduceCtorEq,tbGX3,Tryz.results198,h1,h2,h3]
 refine fun b4 h4=>?_;replace h4:=newb h4;try simp only [Nb] at h4
 simp only [↓rA,rB,buildOk,nt_is,Int.reduceEq,Int.reduceLE,Int.reduceLT,Int.reduceToNat,Nat.reduceAdd,Nat.reduceEqDiff,Nat.reduceLT,Nat.reduceLeDiff,Nat.reduceMul,Nat.reduceSub,reduceCtorEq,tbGX3,Tryz.results198,h1,h2,h3,h4]
 refine OkF_of _ (tally_ok s.1 p.2) ?_
 simp only [↓rA,rB,buildOk,nt_is,Int.reduceEq,Int.reduceLE,Int.reduceLT,Int.reduceToNat,Nat.reduceAdd,Nat.reduceEqDiff,Nat.reduceLT,Nat.reduceLeDiff,Nat.reduceMul,Nat.reduceSub,reduceCtorEq,tbGX3,Tryz.results198,h1,h2,h3,h4]
 refine fun b5 h5=>?_;replace h5:=newb h5;try simp only [Nb] at h5
 simp only [↓rA,rB,buildOk,nt_is,Int.reduceEq,Int.reduceLE,Int.reduceLT,Int.reduceToNat,Nat.reduceAdd,Nat.reduceEqDiff,Nat.reduceLT,Nat.reduceLeDiff,Nat.reduceMul,Nat.reduceSub,reduceCtorEq,tbGX3,Tryz.results198,h1,h2,h3,h4,h5]
 refine OkF_of _ (sadd_ok s.2.2.2 hs p.1.2.n p.2 hv hn hl) ?_
 simp only [↓rA,rB,buildOk,nt_is,Int.reduceEq,Int.reduceLE,Int.reduceLT,Int.reduceToNat,Nat.reduceAdd,Nat.reduceEqDiff,Nat.reduceLT,Nat.reduceLeDiff,Nat.reduceMul,Nat.reduceSub,reduceCtorEq,tbGX3,Tryz.results198,h1,h2,h3,h4,h5]
 exact ret_le (LeSt (Le.nil 6) (Le.refl _))
def tbGX4:=(aI (aI (aI (aI Ty.c191 Ty.c192) (aI Ty.c195 (aI Ty.c198 Ty.c209))) (aI (aI Ty.c212 Ty.t106) (aI Ty.t111 (aI Ty.t117 Ty.t26)))) (aI (aI (aI Ty.t28 Ty.t3) (aI Ty.t4 (aI Ty.t49 Ty.t51))) (aI (aI Ty.t52 Ty.t53) (aI Ty.t55 (aI Ty.t65 Ty.t9)))))
theorem put4_ok (facts:Bool) (s:Stt) (p:Mk × Int) (hs:Canon ordM addW s.2.2.1) (hz:∀ q ∈ s.2.2.1,mkB facts q.1=q.1) (hl:s.2.2.1.length≤90000) (hn:inW p.2) (hn0:¬ p.2=0):OkP Tryz.prog 209 [.agg [vbool facts],.agg (cSt s),.agg (cIt p)] (.agg (cSt (addM (if facts=true then 5 else 4) s p.1.2 p.1.1 p.2))):=by
 have hi:=insert_ok facts s.2.2.1 hs hz p.1 p.2 hn hn0 hl
 have e:addM (if facts=true then 5 else 4) s p.1.2 p.1.1 p.2=(addW.add s.1 p.2,(0,(put ordM addW (mkB facts p.1) p.2 s.2.2.1,[]))):=by
  cases facts <;> rfl
 rw [e]
 generalize put ordM addW (mkB facts p.1) p.2 s.2.2.1=L at hi
 refine Ok.of_ex Ty.mixed Tryz.func209 rfl (by simp [Tryz.ntmps209]) (by kernel_rfl) fun F w0 I0=>?_
 simp only [↓rA,rB,buildOk,nt_is,Int.reduceEq,Int.reduceLE,Int.reduceLT,Int.reduceToNat,Nat.reduceAdd,Nat.reduceEqDiff,Nat.reduceLT,Nat.reduceLeDiff,Nat.reduceMul,Nat.reduceSub,reduceCtorEq,tbGX4,Tryz.results209]
 refine fun b1 h1=>?_;replace h1:=newb h1;try simp only [Nb] at h1
 simp only [↓rA,rB,buildOk,nt_is,Int.reduceEq,Int.reduceLE,Int.reduceLT,Int.reduceToNat,Nat.reduceAdd,Nat.reduceEqDiff,Nat.reduceLT,Nat.reduceLeDiff,Nat.reduceMul,Nat.reduceSub,reduceCtorEq,tbGX4,Tryz.results209,h1]
 refine fun b2 h2=>?_;replace h2:=newb h2;try simp only [Nb] at h2
 simp only [↓rA,rB,buildOk,nt_is,Int.reduceEq,Int.reduceLE,Int.reduceLT,Int.reduceToNat,Nat.reduceAdd,Nat.reduceEqDiff,Nat.reduceLT,Nat.reduceLeDiff,Nat.reduceMul,Nat.reduceSub,reduceCtorEq,tbGX4,Tryz.results209,h1,h2]
 refine fun b3 h3=>?_;replace h3:=newb h3;try simp only [Nb] at h3
 simp only [↓rA,rB,buildOk,nt_is,Int.reduceEq,Int.reduceLE,Int.reduceLT,Int.reduceToNat,Nat.reduceAdd,Nat.reduceEqDiff,Nat.reduceLT,Nat.reduceLeDiff,Nat.reduceMul,Nat.reduceSub,reduceCtorEq,tbGX4,Tryz.results209,h1,h2,h3]
 refine fun b4 h4=>?_;replace h4:=newb h4;try simp only [Nb] at h4
 simp only [↓rA,rB,buildOk,nt_is,Int.reduceEq,Int.reduceLE,Int.reduceLT,Int.reduceToNat,Nat.reduceAdd,Nat.reduceEqDiff,Nat.reduceLT,Nat.reduceLeDiff,Nat.reduceMul,Nat.reduceSub,reduceCtorEq,tbGX4,Tryz.results209,h1,h2,h3,h4]
 refine OkF_of _ (tally_ok s.1 p.2) ?_
 simp only [↓rA,rB,buildOk,nt_is,Int.reduceEq,Int.reduceLE,Int.reduceLT,Int.reduceToNat,Nat.reduceAdd,Nat.reduceEqDiff,Nat.reduceLT,Nat.reduceLeDiff,Nat.reduceMul,Nat.reduceSub,reduceCtorEq,tbGX4,Tryz.results209,h1,h2,h3,h4]
 refine fun b5 h5=>?_;replace h5:=newb h5;try simp only [Nb] at h5
 simp only [↓rA,rB,buildOk,nt_is,Int.reduceEq,Int.reduceLE,Int.reduceLT,Int.reduceToNat,Nat.reduceAdd,Nat.reduceEqDiff,Nat.reduceLT,Nat.reduceLeDiff,Nat.reduceMul,Nat.reduceSub,reduceCtorEq,tbGX4,Tryz.results209,h1,h2,h3,h4,h5]
 refine OkF_of _ hi ?_
 simp only [↓rA,rB,buildOk,nt_is,Int.reduceEq,Int.reduceLE,Int.reduceLT,Int.reduceToNat,Nat.reduceAdd,Nat.reduceEqDiff,Nat.reduceLT,Nat.reduceLeDiff,Nat.reduceMul,Nat.reduceSub,reduceCtorEq,tbGX4,Tryz.results209,h1,h2,h3,h4,h5]
 exact ret_le (LeSt (Le.refl _) (Le.nil 2))
def tbGX5:=(aI (aI (aI (aI Ty.c191 Ty.c195) (aI Ty.c198 Ty.c209)) (aI (aI Ty.t117 Ty.t26) (aI Ty.t28 Ty.t3))) (aI (aI (aI Ty.t4 Ty.t49) (aI Ty.t51 Ty.t52)) (aI (aI Ty.t53 Ty.t55) (aI Ty.t65 Ty.t9))))
theorem zero_ok (s:Stt):OkP Tryz.prog 28 [.agg (cSt s)] (vbool (decide (s=zSt))):=by
 obtain⟨n,w,its,bks⟩:=s
 refine Ok.of_ex Ty.mixed Tryz.func28 rfl (by simp [Tryz.ntmps28]) (by kernel_rfl) fun F w0 I0=>?_
 simp only [↓rA,rB,buildOk,nt_is,Int.reduceEq,Int.reduceLE,Int.reduceLT,Int.reduceToNat,Nat.reduceAdd,Nat.reduceEqDiff,Nat.reduceLT,Nat.reduceLeDiff,Nat.reduceMul,Nat.reduceSub,reduceCtorEq,tbGX5,Tryz.results28]
 refine fun b1 h1=>?_;replace h1:=newb h1;try simp only [Nb] at h1
 by_cases h0:n=0
 ·subst h0
  by_cases hw:w=0
  ·subst hw
   have z1:(0:Int) / 18446744073709551616=0:=by decide
   have z2:(0:Int) % 18446744073709551616=0:=by decide
   cases its with
   | nil =>
    cases bks with
    | nil =>
     simp only [↓rA,rB,buildOk,nt_is,Int.reduceEq,Int.reduceLE,Int.reduceLT,Int.reduceToNat,Nat.reduceAdd,Nat.reduceEqDiff,Nat.reduceLT,Nat.reduceLeDiff,Nat.reduceMul,Nat.reduceSub,reduceCtorEq,tbGX5,Tryz.results28,h1,z1,z2]
     exact ret_done (by simp)
    | cons p l =>
     have z3:¬ ((l.length:Int)+1=0):=by omega
     simp only [↓rA,rB,buildOk,nt_is,Int.reduceEq,Int.reduceLE,Int.reduceLT,Int.reduceToNat,Nat.reduceAdd,Nat.reduceEqDiff,Nat.reduceLT,Nat.reduceLeDiff,Nat.reduceMul,Nat.reduceSub,reduceCtorEq,tbGX5,Tryz.results28,h1,z1,z2,List.length_map,Int.natCast_add,Int.cast_ofNat_Int,z3]
     exact ret_done (by simp)
   | cons p l =>
    have z3:¬ ((l.length:Int)+1=0):=by omega
    simp only [↓rA,rB,buildOk,nt_is,Int.reduceEq,Int.reduceLE,Int.reduceLT,Int.reduceToNat,Nat.reduceAdd,Nat.reduceEqDiff,Nat.reduceLT,Nat.reduceLeDiff,Nat.reduceMul,Nat.reduceSub,reduceCtorEq,tbGX5,Tryz.results28,h1,z1,z2,List.length_map,Int.natCast_add,Int.cast_ofNat_Int,z3]
    exact ret_done (by simp)
  ·have z:(decide (w / 18446744073709551616=0) && decide (w % 18446744073709551616=0))=false:=by
    rw [← Bool.not_eq_true,Bool.and_eq_true,decide_eq_true_eq,decide_eq_true_eq]
    omega
   simp only [↓rA,rB,buildOk,nt_is,Int.reduceEq,Int.reduceLE,Int.reduceLT,Int.reduceToNat,Nat.reduceAdd,Nat.reduceEqDiff,Nat.reduceLT,Nat.reduceLeDiff,Nat.reduceMul,Nat.reduceSub,reduceCtorEq,tbGX5,Tryz.results28,h1,z]
   exact ret_done (by simp [hw])
 ·simp only [↓rA,rB,buildOk,nt_is,Int.reduceEq,Int.reduceLE,Int.reduceLT,Int.reduceToNat,Nat.reduceAdd,Nat.reduceEqDiff,Nat.reduceLT,Nat.reduceLeDiff,Nat.reduceMul,Nat.reduceSub,reduceCtorEq,tbGX5,Tryz.results28,h1,h0]
  exact ret_done (by simp [h0])
def ifV (f:Nat):Value:=if f=1 then .iface 106 (.agg #[]) else if f=2 then .iface 108 (.agg #[]) else if f=3 then .iface 109 (.agg #[]) else if f=4 then .iface 111 (.agg #[.bool false]) else if f=5 then .iface 111 (.agg #[.bool true]) else .nilIface
def tbGX6:=(aI (aI (aI Ty.c191 Ty.c195) (aI Ty.c198 (aI Ty.c209 Ty.t106))) (aI (aI Ty.t108 (aI Ty.t109 Ty.t111)) (aI Ty.t4 (aI Ty.t43 Ty.t9))))
theorem of_ok (op:Str):OkP Tryz.prog 18 [vstr op] (.tup [.lit (ifV (fam op)),vbool (decide (¬ fam op=0))]):=by
 refine Ok.of_ex Ty.mixed Tryz.func18 rfl (by simp [Tryz.ntmps18]) (by kernel_rfl) fun F w0 I0=>?_
 by_cases e0:op=sCount
 ·have hf:fam op=1:=by subst e0;decide +kernel
  rw [hf]
  replace e0:=eq_true e0
  simp only [↓rA,rB,buildOk,nt_is,Int.reduceEq,Int.reduceLE,Int.reduceLT,Int.reduceToNat,Nat.reduceAdd,Nat.reduceEqDiff,Nat.reduceLT,Nat.reduceLeDiff,Nat.reduceMul,Nat.reduceSub,reduceCtorEq,tbGX6,Tryz.results18,e0]
  exact ret_done rfl
 ·skip
  by_cases e1:op=sSum
  ·have hf:fam op=2:=by subst e1;decide +kernel
   rw [hf]
   replace e1:=eq_true e1
   simp only [↓rA,rB,buildOk,nt_is,Int.reduceEq,Int.reduceLE,Int.reduceLT,Int.reduceToNat,Nat.reduceAdd,Nat.reduceEqDiff,Nat.reduceLT,Nat.reduceLeDiff,Nat.reduceMul,Nat.reduceSub,reduceCtorEq,tbGX6,Tryz.results18,e0,e1]
   exact ret_done rfl
  ·skip
   by_cases e2:op=sMean
   ·have hf:fam op=2:=by subst e2;decide +kernel
    rw [hf]
    replace e2:=eq_true e2
    simp only [↓rA,rB,buildOk,nt_is,Int.reduceEq,Int.reduceLE,Int.reduceLT,Int.reduceToNat,Nat.reduceAdd,Nat.reduceEqDiff,Nat.reduceLT,Nat.reduceLeDiff,Nat.reduceMul,Nat.reduceSub,reduceCtorEq,tbGX6,Tryz.results18,e0,e1,e2]
    exact ret_done rfl
   ·skip
    by_cases e3:op=sDecay
    ·have hf:fam op=2:=by subst e3;decide +kernel
     rw [hf]
     replace e3:=eq_true e3
     simp only [↓rA,rB,buildOk,nt_is,Int.reduceEq,Int.reduceLE,Int.reduceLT,Int.reduceToNat,Nat.reduceAdd,Nat.reduceEqDiff,Nat.reduceLT,Nat.reduceLeDiff,Nat.reduceMul,Nat.reduceSub,reduceCtorEq,tbGX6,Tryz.results18,e0,e1,e2,e3]
     exact ret_done rfl
    ·skip
     by_cases e4:op=sQuant
     ·have hf:fam op=3:=by subst e4;decide +kernel
      rw [hf]
      replace e4:=eq_true e4
      simp only [↓rA,rB,buildOk,nt_is,Int.reduceEq,Int.reduceLE,Int.reduceLT,Int.reduceToNat,Nat.reduceAdd,Nat.reduceEqDiff,Nat.reduceLT,Nat.reduceLeDiff,Nat.reduceMul,Nat.reduceSub,reduceCtorEq,tbGX6,Tryz.results18,e0,e1,e2,e3,e4]
      exact ret_done rfl
     ·skip
      by_cases e5:op=sMin
      ·have hf:fam op=4:=by subst e5;decide +kernel
       rw [hf]
       replace e5:=eq_true e5
       simp only [↓rA,rB,buildOk,nt_is,Int.reduceEq,Int.reduceLE,Int.reduceLT,Int.reduceToNat,Nat.reduceAdd,Nat.reduceEqDiff,Nat.reduceLT,Nat.reduceLeDiff,Nat.reduceMul,Nat.reduceSub,reduceCtorEq,tbGX6,Tryz.results18,e0,e1,e2,e3,e4,e5]
       exact ret_done rfl
      ·skip
       by_cases e6:op=sMax
       ·have hf:fam op=4:=by subst e6;decide +kernel
        rw [hf]
        replace e6:=eq_true e6
        simp only [↓rA,rB,buildOk,nt_is,Int.reduceEq,Int.reduceLE,Int.reduceLT,Int.reduceToNat,Nat.reduceAdd,Nat.reduceEqDiff,Nat.reduceLT,Nat.reduceLeDiff,Nat.reduceMul,Nat.reduceSub,reduceCtorEq,tbGX6,Tryz.results18,e0,e1,e2,e3,e4,e5,e6]
        exact ret_done rfl
       ·skip
        by_cases e7:op=sDist
        ·have hf:fam op=4:=by subst e7;decide +kernel
         rw [hf]
         replace e7:=eq_true e7
         simp only [↓rA,rB,buildOk,nt_is,Int.reduceEq,Int.reduceLE,Int.reduceLT,Int.reduceToNat,Nat.reduceAdd,Nat.reduceEqDiff,Nat.reduceLT,Nat.reduceLeDiff,Nat.reduceMul,Nat.reduceSub,reduceCtorEq,tbGX6,Tryz.results18,e0,e1,e2,e3,e4,e5,e6,e7]
         exact ret_done rfl
        ·skip
         by_cases e8:op=sFirst
         ·have hf:fam op=5:=by subst e8;decide +kernel
          rw [hf]
          replace e8:=eq_true e8
          simp only [↓rA,rB,buildOk,nt_is,Int.reduceEq,Int.reduceLE,Int.reduceLT,Int.reduceToNat,Nat.reduceAdd,Nat.reduceEqDiff,Nat.reduceLT,Nat.reduceLeDiff,Nat.reduceMul,Nat.reduceSub,reduceCtorEq,tbGX6,Tryz.results18,e0,e1,e2,e3,e4,e5,e6,e7,e8]
          exact ret_done rfl
         ·skip
          by_cases e9:op=sLast
          ·have hf:fam op=5:=by subst e9;decide +kernel
           rw [hf]
           replace e9:=eq_true e9
           simp only [↓rA,rB,buildOk,nt_is,Int.reduceEq,Int.reduceLE,Int.reduceLT,Int.reduceToNat,Nat.reduceAdd,Nat.reduceEqDiff,Nat.reduceLT,Nat.reduceLeDiff,Nat.reduceMul,Nat.reduceSub,reduceCtorEq,tbGX6,Tryz.results18,e0,e1,e2,e3,e4,e5,e6,e7,e8,e9]
           exact ret_done rfl
          ·skip
           have hf:fam op=0:=by simp only [fam,e0,e1,e2,e3,e4,e5,e6,e7,e8,e9,if_false,or_self]
           rw [hf]
           simp only [↓rA,rB,buildOk,nt_is,Int.reduceEq,Int.reduceLE,Int.reduceLT,Int.reduceToNat,Nat.reduceAdd,Nat.reduceEqDiff,Nat.reduceLT,Nat.reduceLeDiff,Nat.reduceMul,Nat.reduceSub,reduceCtorEq,tbGX6,Tryz.results18,e0,e1,e2,e3,e4,e5,e6,e7,e8,e9]
           exact ret_done rfl
def tbGX7:=(aI (aI (aI Ty.c18 Ty.c191) (aI Ty.c195 Ty.c198)) (aI (aI Ty.c209 Ty.t4) (aI Ty.t43 (aI Ty.t44 Ty.t9))))
theorem known_ok (op:Str):OkP Tryz.prog 7 [vstr op] (vbool (decide (¬ fam op=0))):=by
 refine Ok.of_ex Ty.mixed Tryz.func7 rfl (by simp [Tryz.ntmps7]) (by kernel_rfl) fun F w0 I0=>?_
 simp only [↓rA,rB,buildOk,nt_is,Int.reduceEq,Int.reduceLE,Int.reduceLT,Int.reduceToNat,Nat.reduceAdd,Nat.reduceEqDiff,Nat.reduceLT,Nat.reduceLeDiff,Nat.reduceMul,Nat.reduceSub,reduceCtorEq,tbGX7,Tryz.results7]
 refine OkF_of _ (of_ok op) ?_
 simp only [↓rA,rB,buildOk,nt_is,Int.reduceEq,Int.reduceLE,Int.reduceLT,Int.reduceToNat,Nat.reduceAdd,Nat.reduceEqDiff,Nat.reduceLT,Nat.reduceLeDiff,Nat.reduceMul,Nat.reduceSub,reduceCtorEq,tbGX7,Tryz.results7]
 exact ret_done rfl
theorem fam_le (op:Str):fam op≤5:=by
  unfold fam;repeat' split
  all_goals omega
def tbGX8:=(aI (aI (aI (aI Ty.c18 Ty.c191) (aI Ty.c195 Ty.c198)) (aI (aI Ty.c209 Ty.t117) (aI Ty.t26 (aI Ty.t28 Ty.t3)))) (aI (aI (aI Ty.t4 Ty.t43) (aI Ty.t44 (aI Ty.t49 Ty.t51))) (aI (aI Ty.t52 Ty.t53) (aI Ty.t55 (aI Ty.t65 Ty.t9)))))
theorem add_ok (op:Str) (s:Stt) (p:Mk × Int) (hs:FamS (fam op) s) (hv:inW p.1.2.n) (hn:inW p.2) (h1:s.2.2.1.length≤90000) (h2:s.2.2.2.length≤100000):OkP Tryz.prog 27 [vstr op,.agg (cSt s),.agg (cIt p)] (.agg (cSt (addF (fam op) s p.1.2 p.1.1 p.2))):=by
 have hof:=of_ok op
 have hle:=fam_le op
 generalize fam op=f at hof hs hle
 refine Ok.of_ex Ty.mixed Tryz.func27 rfl (by simp [Tryz.ntmps27]) (by kernel_rfl) fun F w0 I0=>?_
 simp only [↓rA,rB,buildOk,nt_is,Int.reduceEq,Int.reduceLE,Int.reduceLT,Int.reduceToNat,Nat.reduceAdd,Nat.reduceEqDiff,Nat.reduceLT,Nat.reduceLeDiff,Nat.reduceMul,Nat.reduceSub,reduceCtorEq,tbGX8,Tryz.results27]
 refine fun b1 hb1=>?_;replace hb1:=newb hb1;try simp only [Nb] at hb1
 simp only [↓rA,rB,buildOk,nt_is,Int.reduceEq,Int.reduceLE,Int.reduceLT,Int.reduceToNat,Nat.reduceAdd,Nat.reduceEqDiff,Nat.reduceLT,Nat.reduceLeDiff,Nat.reduceMul,Nat.reduceSub,reduceCtorEq,tbGX8,Tryz.results27,hb1]
 refine fun b2 hb2=>?_;replace hb2:=newb hb2;try simp only [Nb] at hb2
 simp only [↓rA,rB,buildOk,nt_is,Int.reduceEq,Int.reduceLE,Int.reduceLT,Int.reduceToNat,Nat.reduceAdd,Nat.reduceEqDiff,Nat.reduceLT,Nat.reduceLeDiff,Nat.reduceMul,Nat.reduceSub,reduceCtorEq,tbGX8,Tryz.results27,hb1,hb2]
 refine fun b3 hb3=>?_;replace hb3:=newb hb3;try simp only [Nb] at hb3
 simp only [↓rA,rB,buildOk,nt_is,Int.reduceEq,Int.reduceLE,Int.reduceLT,Int.reduceToNat,Nat.reduceAdd,Nat.reduceEqDiff,Nat.reduceLT,Nat.reduceLeDiff,Nat.reduceMul,Nat.reduceSub,reduceCtorEq,tbGX8,Tryz.results27,hb1,hb2,hb3]
 refine OkF_of _ hof ?_
 by_cases hf:f=0
 ·subst hf
  simp only [↓rA,rB,buildOk,nt_is,Int.reduceEq,Int.reduceLE,Int.reduceLT,Int.reduceToNat,Nat.reduceAdd,Nat.reduceEqDiff,Nat.reduceLT,Nat.reduceLeDiff,Nat.reduceMul,Nat.reduceSub,reduceCtorEq,tbGX8,Tryz.results27,hb1,hb2,hb3]
  exact ret_done rfl
 by_cases hn0:p.2=0
 ·have e:addF f s p.1.2 p.1.1 p.2=s:=if_pos (.inr hn0)
  rw [e]
  simp only [↓rA,rB,buildOk,nt_is,Int.reduceEq,Int.reduceLE,Int.reduceLT,Int.reduceToNat,Nat.reduceAdd,Nat.reduceEqDiff,Nat.reduceLT,Nat.reduceLeDiff,Nat.reduceMul,Nat.reduceSub,reduceCtorEq,tbGX8,Tryz.results27,hb1,hb2,hb3,hf,hn0]
  exact ret_done rfl
 have e:addF f s p.1.2 p.1.1 p.2=addM f s p.1.2 p.1.1 p.2:=if_neg fun h=>h.elim hf hn0
 rw [e]
 clear e
 obtain rfl | rfl | rfl | rfl | rfl:f=1∨f=2∨f=3∨f=4∨f=5:=by omega
 ·rw [show ifV 1=.iface 106 (.agg #[]) from rfl]
  simp only [↓rA,rB,buildOk,nt_is,Int.reduceEq,Int.reduceLE,Int.reduceLT,Int.reduceToNat,Nat.reduceAdd,Nat.reduceEqDiff,Nat.reduceLT,Nat.reduceLeDiff,Nat.reduceMul,Nat.reduceSub,reduceCtorEq,tbGX8,Tryz.results27,hb1,hb2,hb3,hn0]
  refine InvF_of 191 (.agg #[]) (fun w=>by kernel_rfl) (by kernel_rfl) ?_
  simp only [↓rA,rB,buildOk,nt_is,Int.reduceEq,Int.reduceLE,Int.reduceLT,Int.reduceToNat,Nat.reduceAdd,Nat.reduceEqDiff,Nat.reduceLT,Nat.reduceLeDiff,Nat.reduceMul,Nat.reduceSub,reduceCtorEq,tbGX8,Tryz.results27,hb1,hb2,hb3,hn0]
  refine OkF_of _ (put1_ok s p) ?_
  simp only [↓rA,rB,buildOk,nt_is,Int.reduceEq,Int.reduceLE,Int.reduceLT,Int.reduceToNat,Nat.reduceAdd,Nat.reduceEqDiff,Nat.reduceLT,Nat.reduceLeDiff,Nat.reduceMul,Nat.reduceSub,reduceCtorEq,tbGX8,Tryz.results27,hb1,hb2,hb3,hn0]
  exact ret_done rfl
 ·rw [show ifV 2=.iface 108 (.agg #[]) from rfl]
  simp only [↓rA,rB,buildOk,nt_is,Int.reduceEq,Int.reduceLE,Int.reduceLT,Int.reduceToNat,Nat.reduceAdd,Nat.reduceEqDiff,Nat.reduceLT,Nat.reduceLeDiff,Nat.reduceMul,Nat.reduceSub,reduceCtorEq,tbGX8,Tryz.results27,hb1,hb2,hb3,hn0]
  refine InvF_of 195 (.agg #[]) (fun w=>by kernel_rfl) (by kernel_rfl) ?_
  simp only [↓rA,rB,buildOk,nt_is,Int.reduceEq,Int.reduceLE,Int.reduceLT,Int.reduceToNat,Nat.reduceAdd,Nat.reduceEqDiff,Nat.reduceLT,Nat.reduceLeDiff,Nat.reduceMul,Nat.reduceSub,reduceCtorEq,tbGX8,Tryz.results27,hb1,hb2,hb3,hn0]
  refine OkF_of _ (put2_ok s p hv hn) ?_
  simp only [↓rA,rB,buildOk,nt_is,Int.reduceEq,Int.reduceLE,Int.reduceLT,Int.reduceToNat,Nat.reduceAdd,Nat.reduceEqDiff,Nat.reduceLT,Nat.reduceLeDiff,Nat.reduceMul,Nat.reduceSub,reduceCtorEq,tbGX8,Tryz.results27,hb1,hb2,hb3,hn0]
  exact ret_done rfl
 ·rw [show ifV 3=.iface 109 (.agg #[]) from rfl]
  simp only [↓rA,rB,buildOk,nt_is,Int.reduceEq,Int.reduceLE,Int.reduceLT,Int.reduceToNat,Nat.reduceAdd,Nat.reduceEqDiff,Nat.reduceLT,Nat.reduceLeDiff,Nat.reduceMul,Nat.reduceSub,reduceCtorEq,tbGX8,Tryz.results27,hb1,hb2,hb3,hn0]
  refine InvF_of 198 (.agg #[]) (fun w=>by kernel_rfl) (by kernel_rfl) ?_
  simp only [↓rA,rB,buildOk,nt_is,Int.reduceEq,Int.reduceLE,Int.reduceLT,Int.reduceToNat,Nat.reduceAdd,Nat.reduceEqDiff,Nat.reduceLT,Nat.reduceLeDiff,Nat.reduceMul,Nat.reduceSub,reduceCtorEq,tbGX8,Tryz.results27,hb1,hb2,hb3,hn0]
  refine OkF_of _ (put3_ok s p hs.ok.2.2.2 h2 hv hn) ?_
  simp only [↓rA,rB,buildOk,nt_is,Int.reduceEq,Int.reduceLE,Int.reduceLT,Int.reduceToNat,Nat.reduceAdd,Nat.reduceEqDiff,Nat.reduceLT,Nat.reduceLeDiff,Nat.reduceMul,Nat.reduceSub,reduceCtorEq,tbGX8,Tryz.results27,hb1,hb2,hb3,hn0]
  exact ret_done rfl
 ·rw [show ifV 4=.iface 111 (.agg #[.bool false]) from rfl]
  simp only [↓rA,rB,buildOk,nt_is,Int.reduceEq,Int.reduceLE,Int.reduceLT,Int.reduceToNat,Nat.reduceAdd,Nat.reduceEqDiff,Nat.reduceLT,Nat.reduceLeDiff,Nat.reduceMul,Nat.reduceSub,reduceCtorEq,tbGX8,Tryz.results27,hb1,hb2,hb3,hn0]
  refine InvF_of 209 (.agg #[.bool false]) (fun w=>by kernel_rfl) (by kernel_rfl) ?_
  simp only [↓rA,rB,buildOk,nt_is,Int.reduceEq,Int.reduceLE,Int.reduceLT,Int.reduceToNat,Nat.reduceAdd,Nat.reduceEqDiff,Nat.reduceLT,Nat.reduceLeDiff,Nat.reduceMul,Nat.reduceSub,reduceCtorEq,tbGX8,Tryz.results27,hb1,hb2,hb3,hn0]
  refine OkF_of _ (put4_ok false s p hs.ok.2.2.1 (fun q hq=>by have:=hs.zids rfl q hq;show (zid,q.1.2)=q.1;rw [← this]) h1 hn hn0) ?_
  simp only [↓rA,rB,buildOk,nt_is,Int.reduceEq,Int.reduceLE,Int.reduceLT,Int.reduceToNat,Nat.reduceAdd,Nat.reduceEqDiff,Nat.reduceLT,Nat.reduceLeDiff,Nat.reduceMul,Nat.reduceSub,reduceCtorEq,tbGX8,Tryz.results27,hb1,hb2,hb3,hn0]
  exact ret_done rfl
 ·rw [show ifV 5=.iface 111 (.agg #[.bool true]) from rfl]
  simp only [↓rA,rB,buildOk,nt_is,Int.reduceEq,Int.reduceLE,Int.reduceLT,Int.reduceToNat,Nat.reduceAdd,Nat.reduceEqDiff,Nat.reduceLT,Nat.reduceLeDiff,Nat.reduceMul,Nat.reduceSub,reduceCtorEq,tbGX8,Tryz.results27,hb1,hb2,hb3,hn0]
  refine InvF_of 209 (.agg #[.bool true]) (fun w=>by kernel_rfl) (by kernel_rfl) ?_
  simp only [↓rA,rB,buildOk,nt_is,Int.reduceEq,Int.reduceLE,Int.reduceLT,Int.reduceToNat,Nat.reduceAdd,Nat.reduceEqDiff,Nat.reduceLT,Nat.reduceLeDiff,Nat.reduceMul,Nat.reduceSub,reduceCtorEq,tbGX8,Tryz.results27,hb1,hb2,hb3,hn0]
  refine OkF_of _ (put4_ok true s p hs.ok.2.2.1 (fun q hq=>rfl) h1 hn hn0) ?_
  simp only [↓rA,rB,buildOk,nt_is,Int.reduceEq,Int.reduceLE,Int.reduceLT,Int.reduceToNat,Nat.reduceAdd,Nat.reduceEqDiff,Nat.reduceLT,Nat.reduceLeDiff,Nat.reduceMul,Nat.reduceSub,reduceCtorEq,tbGX8,Tryz.results27,hb1,hb2,hb3,hn0]
  exact ret_done rfl
end Go.Proofs.YtjdggbanifineaaGreat
set_option linter.unusedSimpArgs false
set_option maxRecDepth 100000
set_option linter.defProp false
namespace Go.Proofs.YtjdggbanifineaaGreat
open Go.VL Go.Ar Go.Proofs.YtjdggbanifineaaGreat Go.Proofs.YtjdggbanifineaaGreat.Arr
theorem overlapsCe_ext (S:St) (cs g:List V) (b o n c:Nat) (own:Option Value) (hb:getB S.boxes b=some cs) (hg:g.length=6):ExtV Tryz.prog S 54 [.list own 6 [g],.lit (.slice (some ⟨b,o,none⟩) n c)] (vbool false):=by
 intro w I xs hH hr
 match xs,hr with
 | [x,y],hr =>
  simp only [V.reps,V.rep,and_true] at hr
  obtain⟨⟨_,a,ca,rfl,_,hl⟩,rfl⟩:=hr
  obtain⟨b',o',rfl,hq⟩:=hl.resolve_left (by simp)
  match g,hg,hq with
  | g0::gr,_,hq =>
   simp only [V.lies] at hq
   have hq:=hq.1
   simp only [V.ats] at hq
   obtain⟨⟨x0,hc,hI,_⟩,_⟩:=hq
   obtain⟨arr,e,h1,_,_,h4⟩:=hH.bx _ (getB_mem hb)
   have hne:b' ≠ b:=fun h=>h4 o' (h▸hI)
   have hs:∃ t k,w.shape? b'=some (t,k+1):=by
    unfold World.cell? at hc
    unfold World.shape?
    split at hc
    ·rename_i c0 e0 f0 h0
     rw [h0]
     simp only [Option.isSome_none,Bool.false_eq_true,if_false] at hc
     have:=(Array.getElem?_eq_some_iff.1 hc).1
     exact⟨e0,c0.size - 1,by simp only [Option.some.injEq,Prod.mk.injEq,true_and];omega⟩
    ·cases hc
   obtain⟨t,k,hs⟩:=hs
   have hs2:w.shape? b=some (e.1,arr.size):=by unfold World.shape?; rw [h1]
   have hf:∀ o,w.frozen? ⟨b,o,none⟩=false:=fun o=>by unfold World.frozen?; rw [h1];simp
   refine⟨.bool false,w,?_,.inl rfl,by simp only [V.rep]⟩
   rw [run_callFunc_extern Tryz.func54 (by kernel_rfl) (by kernel_rfl) (by kernel_rfl) (e:=Extern.SlicesOverlaps.overlaps #[31,31] #[4]) (by kernel_rfl)]
   have:=run_overlaps_box (P:=Tryz.prog) w 31 4 57 (by kernel_rfl) 6 (fun w=>by rfl) ⟨b',o',none⟩ ⟨b,o,none⟩ 1 ca n c hne t e.1 k arr.size hs hs2 hf rfl
   simp only [List.length_cons,List.length_nil] at this ⊢
   rw [this]
   rfl
 | [],hr=>simp [V.reps] at hr
 | [_],hr=>simp [V.reps] at hr
 | _::_::_::_,hr=>simp [V.reps] at hr
def tbGN0:=(aI (aI (aI (aI Ty.c54 Ty.c55) (aI Ty.t117 Ty.t26)) (aI (aI Ty.t28 Ty.t3) (aI Ty.t31 Ty.t4))) (aI (aI (aI Ty.t49 Ty.t51) (aI Ty.t52 Ty.t53)) (aI (aI Ty.t55 Ty.t57) (aI Ty.t65 Ty.t9))))
theorem insCeNil_ok (g:List V) (own:Option Value):Ok Tryz.prog 29 [nilS,vint 0,.list own 6 [g]] [] fun v bs rs=>rs=[]∧∃ b c,1≤c∧v=.lit (.slice (some ⟨b,0,none⟩) 1 c)∧bs=[(b,.c (g++anys ((c - 1) * 6)))]:=by
 refine Ok.of_ex Ty.mixed Tryz.func29 rfl (by simp [Tryz.ntmps29]) (by kernel_rfl) fun F w0 I0=>?_
 simp only [↓rA,rB,buildOk,nt_is,Int.reduceEq,Int.reduceLE,Int.reduceLT,Int.reduceToNat,Nat.reduceAdd,Nat.reduceEqDiff,Nat.reduceLT,Nat.reduceLeDiff,Nat.reduceMul,Nat.reduceSub,reduceCtorEq,tbGN0,Tryz.results29]
 simp only [↓rA,rB,buildOk,nt_is,Int.reduceEq,Int.reduceLE,Int.reduceLT,Int.reduceToNat,Nat.reduceAdd,Nat.reduceEqDiff,Nat.reduceLT,Nat.reduceLeDiff,Nat.reduceMul,Nat.reduceSub,reduceCtorEq,tbGN0,Tryz.results29,show ¬ ((1:Nat):Int)=0 by decide]
 refine Or2.r ?_
 simp only [↓rA,rB,buildOk,nt_is,Int.reduceEq,Int.reduceLE,Int.reduceLT,Int.reduceToNat,Nat.reduceAdd,Nat.reduceEqDiff,Nat.reduceLT,Nat.reduceLeDiff,Nat.reduceMul,Nat.reduceSub,reduceCtorEq,tbGN0,Tryz.results29]
 refine fun b c hb hc=>?_
 simp only [↓rA,rB,buildOk,nt_is,Int.reduceEq,Int.reduceLE,Int.reduceLT,Int.reduceToNat,Nat.reduceAdd,Nat.reduceEqDiff,Nat.reduceLT,Nat.reduceLeDiff,Nat.reduceMul,Nat.reduceSub,reduceCtorEq,tbGN0,Tryz.results29]
 exact⟨_,[_],[],Le.refl _,List.Sublist.refl _,List.nil_sublist _,rfl,b,c,hc,rfl,by simp⟩
def tbGN1:=(aI (aI (aI (aI Ty.c54 Ty.c55) (aI Ty.t117 Ty.t26)) (aI (aI Ty.t28 Ty.t3) (aI Ty.t31 Ty.t4))) (aI (aI (aI Ty.t49 Ty.t51) (aI Ty.t52 Ty.t53)) (aI (aI Ty.t55 Ty.t57) (aI Ty.t65 Ty.t9))))
theorem insCeEnd_ok (cs:List V) (n c ba:Nat) (g:List V) (own:Option Value) (_hg:g.length=6) (hcs:cs.length=c * 6) (hn:n≤c) (hnb:n≤1000000):Ok Tryz.prog 29 [.lit (.slice (some ⟨ba,0,none⟩) n c),vint n,.list own 6 [g]] [(ba,.c cs)] fun v bs rs=>rs=[]∧∃ b c',n+1≤c'∧v=.lit (.slice (some ⟨b,0,none⟩) (n+1) c')∧bs=[(b,.c (cs.take (n * 6)++g++anys ((c' - (n+1)) * 6)))]:=by
 refine Ok.of_ex Ty.mixed Tryz.func29 rfl (by simp [Tryz.ntmps29]) (by kernel_rfl) fun F w0 I0=>?_
 simp only [↓rA,rB,buildOk,nt_is,Int.reduceEq,Int.reduceLE,Int.reduceLT,Int.reduceToNat,Nat.reduceAdd,Nat.reduceEqDiff,Nat.reduceLT,Nat.reduceLeDiff,Nat.reduceMul,Nat.reduceSub,reduceCtorEq,tbGN1,Tryz.results29]
 refine⟨hn,?_⟩
 simp only [↓rA,rB,buildOk,nt_is,Int.reduceEq,Int.reduceLE,Int.reduceLT,Int.reduceToNat,Nat.reduceAdd,Nat.reduceEqDiff,Nat.reduceLT,Nat.reduceLeDiff,Nat.reduceMul,Nat.reduceSub,reduceCtorEq,tbGN1,Tryz.results29,show ¬ ((1:Nat):Int)=0 by decide]
 refine Or2.r ?_
 simp only [↓rA,rB,buildOk,nt_is,Int.reduceEq,Int.reduceLE,Int.reduceLT,Int.reduceToNat,Nat.reduceAdd,Nat.reduceEqDiff,Nat.reduceLT,Nat.reduceLeDiff,Nat.reduceMul,Nat.reduceSub,reduceCtorEq,tbGN1,Tryz.results29]
 refine⟨⟨hcs,hn,by omega⟩,fun b c' hb hc=>?_⟩
 simp only [↓rA,rB,buildOk,nt_is,Int.reduceEq,Int.reduceLE,Int.reduceLT,Int.reduceToNat,Nat.reduceAdd,Nat.reduceEqDiff,Nat.reduceLT,Nat.reduceLeDiff,Nat.reduceMul,Nat.reduceSub,reduceCtorEq,tbGN1,Tryz.results29,remB]
 exact⟨_,[_],[],Le.refl _,List.Sublist.refl _,List.nil_sublist _,rfl,b,c',hc,rfl,by simp⟩
def tbGN2:=(aI (aI (aI (aI Ty.c54 Ty.c55) (aI Ty.t117 Ty.t26)) (aI (aI Ty.t28 Ty.t3) (aI Ty.t31 Ty.t4))) (aI (aI (aI Ty.t49 Ty.t51) (aI Ty.t52 Ty.t53)) (aI (aI Ty.t55 Ty.t57) (aI Ty.t65 Ty.t9))))
theorem insCeMid_ok (cs:List V) (i n c ba:Nat) (g:List V) (own:Option Value) (hg:g.length=6) (hcs:cs.length=c * 6) (hi:i < n) (hn:n≤c) (hnb:n≤1000000):Ok Tryz.prog 29 [.lit (.slice (some ⟨ba,0,none⟩) n c),vint i,.list own 6 [g]] [(ba,.c cs)] fun v bs rs=>rs=[]∧∃ b c' rest,n+1≤c'∧v=.lit (.slice (some ⟨b,0,none⟩) (n+1) c')∧rest.length=(c' - (n+1)) * 6∧bs=[(b,.c (cs.take (i * 6)++g++(cs.take (n * 6)).drop (i * 6)++rest))]:=by
 have hne:¬ (i:Int)=(n:Int):=by omega
 have w1:IntKind.i64.wrap ((n:Int)+((1:Nat):Int))=((n+1:Nat):Int):=by rw [wrap_id (by omega) (by omega)];rfl
 have w2:IntKind.i64.wrap ((i:Int)+((1:Nat):Int))=((i+1:Nat):Int):=by rw [wrap_id (by omega) (by omega)];rfl
 have w3:IntKind.i64.wrap (((n+1:Nat):Int) - (i:Int))=((n+1 - i:Nat):Int):=by rw [wrap_id (by omega) (by omega)];omega
 refine Ok.of_ex Ty.mixed Tryz.func29 rfl (by simp [Tryz.ntmps29]) (by kernel_rfl) fun F w0 I0=>?_
 simp only [↓rA,rB,buildOk,nt_is,Int.reduceEq,Int.reduceLE,Int.reduceLT,Int.reduceToNat,Nat.reduceAdd,Nat.reduceEqDiff,Nat.reduceLT,Nat.reduceLeDiff,Nat.reduceMul,Nat.reduceSub,reduceCtorEq,tbGN2,Tryz.results29]
 refine⟨by omega,?_⟩
 simp only [↓rA,rB,buildOk,nt_is,Int.reduceEq,Int.reduceLE,Int.reduceLT,Int.reduceToNat,Nat.reduceAdd,Nat.reduceEqDiff,Nat.reduceLT,Nat.reduceLeDiff,Nat.reduceMul,Nat.reduceSub,reduceCtorEq,tbGN2,Tryz.results29,show ¬ ((1:Nat):Int)=0 by decide,hne,w1]
 refine⟨hn,?_⟩
 by_cases hgr:c < n+1
 ·have hgr':((c:Int) < ((n+1:Nat):Int)):=by omega
  have z1:¬ c=0:=by omega
  have z2:¬ c=i:=by omega
  have z3:i+(n+1 - i)=n+1:=by omega
  have z4:(0:Int) < ((n+1 - i:Nat):Int):=by omega
  have z5:i≤c:=by omega
  have z6:i * 6≤cs.length:=by omega
  have z7:c < n+1:=hgr
  have z8:(n+1) * 80≤140737488355328:=by omega
  simp only [↓rA,rB,buildOk,nt_is,Int.reduceEq,Int.reduceLE,Int.reduceLT,Int.reduceToNat,Nat.reduceAdd,Nat.reduceEqDiff,Nat.reduceLT,Nat.reduceLeDiff,Nat.reduceMul,Nat.reduceSub,reduceCtorEq,tbGN2,Tryz.results29,hgr',w1,w2,w3,z1,z2,z5]
  refine appZK_box ?_
  simp only [↓rA,rB,buildOk,nt_is,Int.reduceEq,Int.reduceLE,Int.reduceLT,Int.reduceToNat,Nat.reduceAdd,Nat.reduceEqDiff,Nat.reduceLT,Nat.reduceLeDiff,Nat.reduceMul,Nat.reduceSub,reduceCtorEq,tbGN2,Tryz.results29,z3,z4,z6,z7,z8,TypeDesc.int.injEq,exists_eq']
  refine fun b' c' hb hc'=>?_
  replace hb:=newb hb
  try simp only [Nb] at hb
  have y1:¬ c'=0:=by omega
  have y2:¬ c'=i:=by omega
  have y3:¬ c'=i+1:=by omega
  have y4:i≤n+1:=by omega
  have y5:i≤n:=by omega
  have y6:i+1≤n+1:=by omega
  simp only [↓rA,rB,buildOk,nt_is,Int.reduceEq,Int.reduceLE,Int.reduceLT,Int.reduceToNat,Nat.reduceAdd,Nat.reduceEqDiff,Nat.reduceLT,Nat.reduceLeDiff,Nat.reduceMul,Nat.reduceSub,reduceCtorEq,tbGN2,Tryz.results29,hb,z1,z2,z3,y1,y2,y3,y4,y5,y6,hn,hc',w2]
  have hl0:(List.take (i * 6) cs++anys ((c' - i) * 6)).length=c' * 6:=by rw [List.length_append,List.length_take,anys_len];omega
  refine⟨by rw [hl0];omega,by omega,?_⟩
  rw [grow1 cs g i n c' hg hi (by omega) hc']
  refine⟨?_,?_⟩
  ·rw [List.length_append,List.length_append,List.length_take,anys_len,hg];omega
  ·refine⟨_,[_],[],Le.refl _,List.Sublist.cons_cons _ (List.nil_sublist _),List.nil_sublist _,rfl,b',c',_,hc',rfl,anys_len _,?_⟩
   rw [grow2 cs g i n c' hg hi (by omega) hc']
 ·have hgr':¬ ((c:Int) < ((n+1:Nat):Int)):=by omega
  have z1:¬ c=0:=by omega
  have z2:¬ c=i:=by omega
  have z3:n+1≤c:=by omega
  have z4:¬ c=i+1:=by omega
  have z5:i≤n:=by omega
  simp only [↓rA,rB,buildOk,nt_is,Int.reduceEq,Int.reduceLE,Int.reduceLT,Int.reduceToNat,Nat.reduceAdd,Nat.reduceEqDiff,Nat.reduceLT,Nat.reduceLeDiff,Nat.reduceMul,Nat.reduceSub,reduceCtorEq,tbGN2,Tryz.results29,hgr',w1,w2,w3,z1,z2,z3,z4,z5]
  refine ExtF_of _ (overlapsCe_ext _ cs g ba _ _ _ own (by simp only [↓rA,rB,buildOk,nt_is,Int.reduceEq,Int.reduceLE,Int.reduceLT,Int.reduceToNat,Nat.reduceAdd,Nat.reduceEqDiff,Nat.reduceLT,Nat.reduceLeDiff,Nat.reduceMul,Nat.reduceSub,reduceCtorEq,tbGN2,Tryz.results29];try rfl) hg) ?_
  simp only [↓rA,rB,buildOk,nt_is,Int.reduceEq,Int.reduceLE,Int.reduceLT,Int.reduceToNat,Nat.reduceAdd,Nat.reduceEqDiff,Nat.reduceLT,Nat.reduceLeDiff,Nat.reduceMul,Nat.reduceSub,reduceCtorEq,tbGN2,Tryz.results29,w1,w2,w3,z1,z2,z3,z4,z5]
  refine⟨by omega,by omega,by omega,by omega,?_⟩
  have hm:min (n+1 - i) (n+1 - (i+1))=n - i:=by omega
  refine⟨?_,?_⟩
  ·rw [hm]
   simp only [List.length_append,List.length_take,List.length_drop]
   omega
  ·refine⟨_,[_],[],Le.refl _,List.Sublist.refl _,List.nil_sublist _,rfl,ba,c,cs.drop ((n+1) * 6),z3,rfl,by rw [List.length_drop,hcs];omega,?_⟩
   rw [place2 cs g i n c hg hi hcs z3]
theorem insCe_ok (cs:List V) (i n c ba:Nat) (g:List V) (own:Option Value) (hg:g.length=6) (hcs:cs.length=c * 6) (hi:i≤n) (hn:n≤c) (hnb:n≤1000000):Ok Tryz.prog 29 [.lit (.slice (some ⟨ba,0,none⟩) n c),vint i,.list own 6 [g]] [(ba,.c cs)] fun v bs rs=>rs=[]∧∃ b c' rest,n+1≤c'∧v=.lit (.slice (some ⟨b,0,none⟩) (n+1) c')∧rest.length=(c' - (n+1)) * 6∧bs=[(b,.c (cs.take (i * 6)++g++(cs.take (n * 6)).drop (i * 6)++rest))]:=by
 rcases Nat.lt_or_ge i n with h | h
 ·exact insCeMid_ok cs i n c ba g own hg hcs h hn hnb
 ·obtain rfl:i=n:=by omega
  refine(insCeEnd_ok cs i c ba g own hg hcs hn hnb).mono ?_
  rintro v bs rs ⟨rfl,b,c',h1,rfl,rfl⟩
  refine⟨rfl,b,c',_,h1,rfl,anys_len _,?_⟩
  rw [List.drop_eq_nil_of_le (by rw [List.length_take];omega),List.append_nil]
def tbGN3:=(aI (aI (aI Ty.t117 (aI Ty.t26 Ty.t28)) (aI (aI Ty.t3 Ty.t31) (aI Ty.t4 Ty.t49))) (aI (aI Ty.t51 (aI Ty.t52 Ty.t53)) (aI (aI Ty.t55 Ty.t57) (aI Ty.t65 Ty.t9))))
theorem delCe_ok (A B g rest:List V) (i n c b:Nat) (hA:A.length=i * 6) (hg:g.length=6) (hB:B.length=(n - (i+1)) * 6) (hi:i < n) (hn:n≤c) (hnb:n≤1000000) (hr:rest.length=(c - n) * 6):Ok Tryz.prog 26 [.lit (.slice (some ⟨b,0,none⟩) n c),vint i,vint ((i+1:Nat):Int)] [(b,.c (A++(g++(B++rest))))] fun v bs rs=>rs=[]∧∃ rest',v=.lit (.slice (some ⟨b,0,none⟩) (n - 1) c)∧rest'.length=(c - (n - 1)) * 6∧bs=[(b,.c (A++(B++rest')))]:=by
 have hlen:(A++(g++(B++rest))).length=c * 6:=by simp only [List.length_append,hA,hg,hB,hr];omega
 have hne:¬ (i:Int)=((i+1:Nat):Int):=by omega
 have q1:i≤i+1:=by omega
 have q2:i+1≤n:=by omega
 have q3:i≤c:=by omega
 have q4:i≤n:=by omega
 have q5:i+1≤c:=by omega
 refine Ok.of_ex Ty.mixed Tryz.func26 rfl (by simp [Tryz.ntmps26]) (by kernel_rfl) fun F w0 I0=>?_
 have z0:¬ c=0:=by omega
 have e1:i+(n - (i+1))=n - 1:=by omega
 have e2:n - 1≤c:=by omega
 have e3:n - 1≤n:=by omega
 have hd:=del6 A B g rest i n hA hg hB hi
 by_cases hc:c=i+1
 ·have hn1:n=i+1:=by omega
  subst hn1
  subst hc
  simp only [↓rA,rB,buildOk,nt_is,Int.reduceEq,Int.reduceLE,Int.reduceLT,Int.reduceToNat,Nat.reduceAdd,Nat.reduceEqDiff,Nat.reduceLT,Nat.reduceLeDiff,Nat.reduceMul,Nat.reduceSub,reduceCtorEq,tbGN3,Tryz.results26,hne,q1,q2,q3,q4,q5,hn]
  refine Or2.l ?_
  have e5:i+1 - 1=i:=by omega
  have e6:i+1 - i=1:=by omega
  have e7:¬ i+1=i:=by omega
  have e8:i≤i+1:=by omega
  have hB0:B=[]:=List.eq_nil_of_length_eq_zero (by omega)
  have hr0:rest=[]:=List.eq_nil_of_length_eq_zero (by omega)
  subst hB0 hr0
  simp only [List.nil_append,List.append_nil] at hlen hd ⊢
  simp only [Nat.sub_self,Nat.zero_mul,List.take_zero,List.append_nil,Nat.add_zero,List.drop_zero] at hd
  simp only [↓rA,rB,buildOk,nt_is,Int.reduceEq,Int.reduceLE,Int.reduceLT,Int.reduceToNat,Nat.reduceAdd,Nat.reduceEqDiff,Nat.reduceLT,Nat.reduceLeDiff,Nat.reduceMul,Nat.reduceSub,reduceCtorEq,tbGN3,Tryz.results26,hne,q1,q2,q3,q4,q5,hn,z0,e1,e2,e3,e5,Nat.sub_self,Nat.zero_mul,List.take_zero,List.append_nil,Nat.add_zero]
  refine⟨by rw [hlen];exact Nat.le_refl _,fun h=>absurd h (by omega),fun _=>?_⟩
  simp only [↓rA,rB,buildOk,nt_is,Int.reduceEq,Int.reduceLE,Int.reduceLT,Int.reduceToNat,Nat.reduceAdd,Nat.reduceEqDiff,Nat.reduceLT,Nat.reduceLeDiff,Nat.reduceMul,Nat.reduceSub,reduceCtorEq,tbGN3,Tryz.results26,hne,q1,q2,q3,q4,q5,hn,z0,e1,e2,e3,e5,e6,e7,e8,hd,Nat.sub_self,Nat.zero_mul,List.take_zero,List.append_nil,Nat.add_zero]
  have hk:=clr6 A [] g i (by rw [List.append_nil];exact hA)
  simp only [List.nil_append] at hk
  refine⟨by rw [hlen];omega,_,[_],[],Le.refl _,List.Sublist.refl _,List.nil_sublist _,rfl,anys (1 * 6)++g.drop (1 * 6),rfl,?_,?_⟩
  ·rw [List.length_append,anys_len,List.length_drop,hg]
  ·rw [← hk]
 ·simp only [↓rA,rB,buildOk,nt_is,Int.reduceEq,Int.reduceLE,Int.reduceLT,Int.reduceToNat,Nat.reduceAdd,Nat.reduceEqDiff,Nat.reduceLT,Nat.reduceLeDiff,Nat.reduceMul,Nat.reduceSub,reduceCtorEq,tbGN3,Tryz.results26,hne,q1,q2,q3,q4,q5,hn,hc]
  refine Or2.l ?_
  have z3:¬ c=n - 1:=by omega
  have e4:n - (n - 1)=1:=by omega
  simp only [↓rA,rB,buildOk,nt_is,Int.reduceEq,Int.reduceLE,Int.reduceLT,Int.reduceToNat,Nat.reduceAdd,Nat.reduceEqDiff,Nat.reduceLT,Nat.reduceLeDiff,Nat.reduceMul,Nat.reduceSub,reduceCtorEq,tbGN3,Tryz.results26,hne,q1,q2,q3,q4,q5,hn,z0,e1,e2,e3,hc]
  refine⟨by rw [hlen];omega,by rw [hlen];exact Nat.le_refl _,fun h=>absurd h (by omega),fun _=>?_⟩
  simp only [↓rA,rB,buildOk,nt_is,Int.reduceEq,Int.reduceLE,Int.reduceLT,Int.reduceToNat,Nat.reduceAdd,Nat.reduceEqDiff,Nat.reduceLT,Nat.reduceLeDiff,Nat.reduceMul,Nat.reduceSub,reduceCtorEq,tbGN3,Tryz.results26,hne,q1,q2,q3,q4,q5,hn,z0,z3,e1,e2,e3,e4,hc]
  rw [hd]
  have hAB:(A++B).length=(n - 1) * 6:=by rw [List.length_append,hA,hB];omega
  have hR:(List.drop ((n - (i+1)) * 6) (g++(B++rest))).length=(c - (n - 1)) * 6:=by simp only [List.length_drop,List.length_append,hg,hB,hr];omega
  generalize List.drop ((n - (i+1)) * 6) (g++(B++rest))=R at hR
  refine⟨by rw [← List.append_assoc,List.length_append,hAB,hR];omega,_,[_],[],Le.refl _,List.Sublist.refl _,List.nil_sublist _,rfl,anys (1 * 6)++R.drop (1 * 6),rfl,?_,?_⟩
  ·rw [List.length_append,anys_len,List.length_drop,hR];omega
  ·rw [clr6 A B R (n - 1) hAB]
end Go.Proofs.YtjdggbanifineaaGreat
set_option linter.unusedSimpArgs false
set_option maxRecDepth 100000
set_option linter.defProp false
namespace Go.Ar
open Go.VL Go.Sg Go.Lo
abbrev cCl (c:Cl):List V:=[vint c.1,vint c.2.1,vint (c.2.2.1 / 18446744073709551616),vu (c.2.2.1 % 18446744073709551616),vIts c.2.2.2.1,vBks c.2.2.2.2]
abbrev vCls (l:List Cl):V:=.list none 6 (l.map cCl)
theorem cells_lenC (L:List Cl):((L.map cCl).flatten).length=L.length * 6:=flatK_len (c:=cCl) (k:=6) (fun _=>rfl) L
theorem ltO {a b:Int}:ordI.lt a b=true↔a < b:=by
 show decide (cmpI a b < 0)=true↔_
 rw [decide_eq_true_eq,ltI]
end Go.Ar
namespace Go.Proofs.YtjdggbanifineaaGreat
open Go.VL Go.Ar Go.Sg Go.Lo Go.Proofs.YtjdggbanifineaaGreat Go.Proofs.YtjdggbanifineaaGreat.Arr
def tbGY0:=(aI (aI (aI Ty.c25 (aI Ty.t117 Ty.t26)) (aI Ty.t28 (aI Ty.t3 Ty.t49))) (aI (aI Ty.t51 (aI Ty.t52 Ty.t53)) (aI (aI Ty.t55 Ty.t57) (aI Ty.t65 Ty.t9))))
theorem cmpEv_ok (c:Cl) (e:Int):OkP Tryz.prog 24 [.agg (cCl c),vint e] (vint (cmpI c.1 e)):=by
 refine Ok.of_ex Ty.mixed Tryz.func24 rfl (by simp [Tryz.ntmps24]) (by kernel_rfl) fun F w0 I0=>?_
 simp only [↓rA,rB,buildOk,nt_is,Int.reduceEq,Int.reduceLE,Int.reduceLT,Int.reduceToNat,Nat.reduceAdd,Nat.reduceEqDiff,Nat.reduceLT,Nat.reduceLeDiff,Nat.reduceMul,Nat.reduceSub,reduceCtorEq,tbGY0,Tryz.results24]
 refine fun b1 h1=>?_;replace h1:=newb h1;try simp only [Nb] at h1
 simp only [↓rA,rB,buildOk,nt_is,Int.reduceEq,Int.reduceLE,Int.reduceLT,Int.reduceToNat,Nat.reduceAdd,Nat.reduceEqDiff,Nat.reduceLT,Nat.reduceLeDiff,Nat.reduceMul,Nat.reduceSub,reduceCtorEq,tbGY0,Tryz.results24,h1]
 refine OkF_of _ (cmpI_ok c.1 e) ?_
 simp only [↓rA,rB,buildOk,nt_is,Int.reduceEq,Int.reduceLE,Int.reduceLT,Int.reduceToNat,Nat.reduceAdd,Nat.reduceEqDiff,Nat.reduceLT,Nat.reduceLeDiff,Nat.reduceMul,Nat.reduceSub,reduceCtorEq,tbGY0,Tryz.results24]
 exact ret_done rfl
def tbGY1:=(aI (aI (aI (aI Ty.t113 Ty.t117) (aI Ty.t26 Ty.t28)) (aI (aI Ty.t3 Ty.t31) (aI Ty.t4 Ty.t49))) (aI (aI (aI Ty.t51 Ty.t52) (aI Ty.t53 Ty.t55)) (aI (aI Ty.t57 Ty.t61) (aI Ty.t65 Ty.t9))))
theorem bsearchNilC_ok (e:Int):OkP Tryz.prog 23 [nilS,vint e,fnG 24] (.tup [vint 0,vbool false]):=by
 refine Ok.of_ex Ty.mixed Tryz.func23 rfl (by simp [Tryz.ntmps23]) (by kernel_rfl) fun F w0 I0=>?_
 simp only [↓rA,rB,buildOk,nt_is,Int.reduceEq,Int.reduceLE,Int.reduceLT,Int.reduceToNat,Nat.reduceAdd,Nat.reduceEqDiff,Nat.reduceLT,Nat.reduceLeDiff,Nat.reduceMul,Nat.reduceSub,reduceCtorEq,tbGY1,Tryz.results23]
 refine EX_while Ty.mixed (by kernel_rfl) (fun _=>0) (fun(_:Unit) S=>S.σ 8=vint 0∧S.σ 9=vint 0∧S.σ 10=vint 0∧S.rows=[]∧S.boxes=[]) () ⟨0,?_⟩ (fun _ S ⟨g8,g9,g10,gr,gb⟩=>?_)
 ·simp only [↓rA,rB,buildOk,nt_is,Int.reduceEq,Int.reduceLE,Int.reduceLT,Int.reduceToNat,Nat.reduceAdd,Nat.reduceEqDiff,Nat.reduceLT,Nat.reduceLeDiff,Nat.reduceMul,Nat.reduceSub,reduceCtorEq,tbGY1,Tryz.results23]
 ·simp only [↓rA,rB,buildOk,nt_is,Int.reduceEq,Int.reduceLE,Int.reduceLT,Int.reduceToNat,Nat.reduceAdd,Nat.reduceEqDiff,Nat.reduceLT,Nat.reduceLeDiff,Nat.reduceMul,Nat.reduceSub,reduceCtorEq,tbGY1,Tryz.results23,g8,g9,g10,gr,gb]
  exact ret_done rfl
def tbGY2:=(aI (aI (aI (aI Ty.t113 Ty.t117) (aI Ty.t26 Ty.t28)) (aI (aI Ty.t3 Ty.t31) (aI Ty.t4 Ty.t49))) (aI (aI (aI Ty.t51 Ty.t52) (aI Ty.t53 Ty.t55)) (aI (aI Ty.t57 Ty.t61) (aI Ty.t65 Ty.t9))))
theorem bsearchC_ok (l:List Cl) (e:Int) (rest:List V) (ba c:Nat) (hl:l.length≤1000000) (hs:l.Pairwise fun a b=>a.1 < b.1) :
  Ok Tryz.prog 23 [.lit (.slice (some ⟨ba,0,none⟩) l.length c),vint e,fnG 24] [(ba,.c ((l.map cCl).flatten++rest))] fun v bs rs =>
   bs=[(ba,.c ((l.map cCl).flatten++rest))]∧rs=[]∧∃ i,i≤l.length∧(∀ j,(h:j < l.length)→(j < i↔l[j].1 < e))∧v=.tup [vint i,vbool (decide (l[i]?.map (·.1)=some e))]:=by
 have k1:callB Tryz.prog 24=true:=by kernel_rfl
 have hcmp:∀ a:Int,cmpI a e < 0↔a < e:=fun a=>by unfold cmpI;split <;> (try split) <;> omega
 refine Ok.of_ex Ty.mixed Tryz.func23 rfl (by simp [Tryz.ntmps23]) (by kernel_rfl) fun F w0 I0=>?_
 simp only [↓rA,rB,buildOk,nt_is,Int.reduceEq,Int.reduceLE,Int.reduceLT,Int.reduceToNat,Nat.reduceAdd,Nat.reduceEqDiff,Nat.reduceLT,Nat.reduceLeDiff,Nat.reduceMul,Nat.reduceSub,reduceCtorEq,tbGY2,Tryz.results23]
 refine EX_while Ty.mixed (by kernel_rfl) (fun x=>x.2 - x.1) (fun(x:Nat × Nat) S=>(x.1≤x.2∧x.2≤l.length∧(∀ j,(h:j < l.length)→j < x.1→l[j].1 < e)∧∀ j,(h:j < l.length)→x.2≤j→¬ l[j].1 < e)∧S.σ 0=.lit (.slice (some ⟨ba,0,none⟩) l.length c)∧S.σ 1=vint e∧S.σ 2=fnG 24∧S.σ 8=vint l.length∧S.σ 9=vint x.1∧S.σ 10=vint x.2∧S.rows=[]∧S.boxes=[(ba,.c ((l.map cCl).flatten++rest))]) (0,l.length) ⟨0,⟨Nat.zero_le _,Nat.le_refl _,fun j h h'=>absurd h' (Nat.not_lt_zero j),fun j h h'=>absurd h (Nat.not_lt.2 h')⟩,?_⟩ (fun⟨i,k⟩ S ⟨⟨hik,hk,hlo,hhi⟩,g0,g1,g2,g8,g9,g10,gr,gb⟩=>?_)
 ·simp only [↓rA,rB,buildOk,nt_is,Int.reduceEq,Int.reduceLE,Int.reduceLT,Int.reduceToNat,Nat.reduceAdd,Nat.reduceEqDiff,Nat.reduceLT,Nat.reduceLeDiff,Nat.reduceMul,Nat.reduceSub,reduceCtorEq,tbGY2,Tryz.results23]
 ·simp only at hik hk hlo hhi g9 g10
  by_cases hlt:i < k
  ·simp only [↓rA,rB,buildOk,nt_is,Int.reduceEq,Int.reduceLE,Int.reduceLT,Int.reduceToNat,Nat.reduceAdd,Nat.reduceEqDiff,Nat.reduceLT,Nat.reduceLeDiff,Nat.reduceMul,Nat.reduceSub,reduceCtorEq,tbGY2,Tryz.results23,g0,g1,g2,g8,g9,g10,gr,gb,k1,Int.ofNat_lt,hlt]
   have hm:=mid_eq hik (show k≤4500000 by omega)
   generalize hmd:(i+k) / 2=m at hm
   have hml:m < l.length:=by omega
   have hdl:=left_cells (k:=6) (c:=cCl) (fun _=>rfl) l rest m hml
   have hcl:=get_cells (k:=6) (c:=cCl) (fun _=>rfl) l rest m hml
   rw [hm,Int.toNat_natCast]
   refine⟨by omega,by omega,hdl,?_⟩
   rw [hcl]
   refine OkF_with [] [_] (List.Perm.refl _) (cmpEv_ok l[m] e) ?_
   rintro v bs rs ⟨rfl,rfl,rfl⟩
   by_cases hc:l[m].1 < e
   ·have hc':=(hcmp _).2 hc
    simp only [↓rA,rB,buildOk,nt_is,Int.reduceEq,Int.reduceLE,Int.reduceLT,Int.reduceToNat,Nat.reduceAdd,Nat.reduceEqDiff,Nat.reduceLT,Nat.reduceLeDiff,Nat.reduceMul,Nat.reduceSub,reduceCtorEq,tbGY2,Tryz.results23,g0,g1,g2,g8,g9,g10,gr,gb,hc',hm,wrap_succ hml (show l.length≤9223372036854775807 by omega)]
    refine⟨(m+1,k),by simp only;omega,0,⟨by omega,by omega,fun j h hj=>?_,hhi⟩,rfl,rfl,rfl⟩
    rcases Nat.lt_or_ge j m with h' | h'
    ·exact Int.lt_trans ((List.pairwise_iff_getElem.1 hs) j m h hml h') hc
    ·obtain rfl:j=m:=by simp only at hj;omega
     exact hc
   ·have hc':¬ cmpI l[m].1 e < 0:=fun h=>hc ((hcmp _).1 h)
    simp only [↓rA,rB,buildOk,nt_is,Int.reduceEq,Int.reduceLE,Int.reduceLT,Int.reduceToNat,Nat.reduceAdd,Nat.reduceEqDiff,Nat.reduceLT,Nat.reduceLeDiff,Nat.reduceMul,Nat.reduceSub,reduceCtorEq,tbGY2,Tryz.results23,g0,g1,g2,g8,g9,g10,gr,gb,hc',hm]
    refine⟨(i,m),by simp only;omega,0,⟨by omega,by omega,hlo,fun j h hj=>?_⟩,rfl,rfl,rfl⟩
    rcases Nat.lt_or_ge m j with h' | h'
    ·have:=(List.pairwise_iff_getElem.1 hs) m j hml h h'
     omega
    ·obtain rfl:j=m:=by simp only at hj;omega
     exact hc
  ·simp only [↓rA,rB,buildOk,nt_is,Int.reduceEq,Int.reduceLE,Int.reduceLT,Int.reduceToNat,Nat.reduceAdd,Nat.reduceEqDiff,Nat.reduceLT,Nat.reduceLeDiff,Nat.reduceMul,Nat.reduceSub,reduceCtorEq,tbGY2,Tryz.results23,g0,g1,g2,g8,g9,g10,gr,gb,k1,Int.ofNat_lt,hlt]
   obtain rfl:i=k:=by omega
   have hspec:∀ j,(h:j < l.length)→(j < i↔l[j].1 < e):=fun j h=>by
    constructor
    ·exact hlo j h
    ·intro hj
     rcases Nat.lt_or_ge j i with h' | h'
     ·exact h'
     ·exact absurd hj (hhi j h h')
   by_cases hil:i < l.length
   ·have hdl:=left_cells (k:=6) (c:=cCl) (fun _=>rfl) l rest i hil
    have hcl:=get_cells (k:=6) (c:=cCl) (fun _=>rfl) l rest i hil
    simp only [↓rA,rB,buildOk,nt_is,Int.reduceEq,Int.reduceLE,Int.reduceLT,Int.reduceToNat,Nat.reduceAdd,Nat.reduceEqDiff,Nat.reduceLT,Nat.reduceLeDiff,Nat.reduceMul,Nat.reduceSub,reduceCtorEq,tbGY2,Tryz.results23,g0,g1,g2,g8,g9,g10,gr,gb,k1,hil,Int.ofNat_lt,hdl,hcl]
    refine OkF_with [] [_] (List.Perm.refl _) (cmpEv_ok l[i] e) ?_
    rintro v bs rs ⟨rfl,rfl,rfl⟩
    simp only [↓rA,rB,buildOk,nt_is,Int.reduceEq,Int.reduceLE,Int.reduceLT,Int.reduceToNat,Nat.reduceAdd,Nat.reduceEqDiff,Nat.reduceLT,Nat.reduceLeDiff,Nat.reduceMul,Nat.reduceSub,reduceCtorEq,tbGY2,Tryz.results23,g0,g1,g2,g8,g9,g10,gr,gb,hil]
    refine⟨_,[_],[],Le.refl _,List.Sublist.refl _,List.nil_sublist _,rfl,rfl,i,by omega,hspec,?_⟩
    have:decide (l[i]?.map (·.1)=some e)=decide (cmpI l[i].1 e=0):=by
     rw [List.getElem?_eq_getElem hil]
     refine decide_eq_decide.2 ?_
     simp [cmpI_eq0]
    rw [this]
   ·simp only [↓rA,rB,buildOk,nt_is,Int.reduceEq,Int.reduceLE,Int.reduceLT,Int.reduceToNat,Nat.reduceAdd,Nat.reduceEqDiff,Nat.reduceLT,Nat.reduceLeDiff,Nat.reduceMul,Nat.reduceSub,reduceCtorEq,tbGY2,Tryz.results23,g0,g1,g2,g8,g9,g10,gr,gb,hil,Int.ofNat_lt]
    refine⟨_,[_],[],Le.refl _,List.Sublist.refl _,List.nil_sublist _,rfl,rfl,i,by omega,hspec,?_⟩
    rw [List.getElem?_eq_none (by omega)]
    rfl
def tbGY3:=(aI (aI (aI Ty.t117 (aI Ty.t26 Ty.t28)) (aI (aI Ty.t3 Ty.t31) (aI Ty.t4 Ty.t49))) (aI (aI Ty.t51 (aI Ty.t52 Ty.t53)) (aI (aI Ty.t55 Ty.t57) (aI Ty.t65 Ty.t9))))
theorem cloneC_ok (l:List Cl) (hl:l.length≤100000):Ok Tryz.prog 22 [vCls l] [] fun v bs rs=>rs=[]∧((l=[]∧v=nilS∧bs=[])∨∃ b c,l.length≤c∧v=.lit (.slice (some ⟨b,0,none⟩) l.length c)∧bs=[(b,.c ((l.map cCl).flatten++anys ((c - l.length) * 6)))]):=by
 cases l with
 | nil =>
  refine Ok.list0 (fun c=>?_) (fun p c=>?_)
  ·refine Ok.of_ex Ty.mixed Tryz.func22 rfl (by simp [Tryz.ntmps22]) (by kernel_rfl) fun F w0 I0=>?_
   simp only [↓rA,rB,buildOk,nt_is,Int.reduceEq,Int.reduceLE,Int.reduceLT,Int.reduceToNat,Nat.reduceAdd,Nat.reduceEqDiff,Nat.reduceLT,Nat.reduceLeDiff,Nat.reduceMul,Nat.reduceSub,reduceCtorEq,tbGY3,Tryz.results22]
   exact⟨nilS,[],[],Le.refl _,List.nil_sublist _,List.nil_sublist _,rfl,.inl ⟨rfl,rfl⟩⟩
  ·refine Ok.of_ex Ty.mixed Tryz.func22 rfl (by simp [Tryz.ntmps22]) (by kernel_rfl) fun F w0 I0=>?_
   simp only [↓rA,rB,buildOk,nt_is,Int.reduceEq,Int.reduceLE,Int.reduceLT,Int.reduceToNat,Nat.reduceAdd,Nat.reduceEqDiff,Nat.reduceLT,Nat.reduceLeDiff,Nat.reduceMul,Nat.reduceSub,reduceCtorEq,tbGY3,Tryz.results22]
   refine Or2.r ?_
   simp only [↓rA,rB,buildOk,nt_is,Int.reduceEq,Int.reduceLE,Int.reduceLT,Int.reduceToNat,Nat.reduceAdd,Nat.reduceEqDiff,Nat.reduceLT,Nat.reduceLeDiff,Nat.reduceMul,Nat.reduceSub,reduceCtorEq,tbGY3,Tryz.results22]
   refine fun b1 h1=>?_;replace h1:=newb h1;try simp only [Nb] at h1
   simp only [↓rA,rB,buildOk,nt_is,Int.reduceEq,Int.reduceLE,Int.reduceLT,Int.reduceToNat,Nat.reduceAdd,Nat.reduceEqDiff,Nat.reduceLT,Nat.reduceLeDiff,Nat.reduceMul,Nat.reduceSub,reduceCtorEq,tbGY3,Tryz.results22,h1]
   refine Or2.r ?_
   simp only [↓rA,rB,buildOk,nt_is,Int.reduceEq,Int.reduceLE,Int.reduceLT,Int.reduceToNat,Nat.reduceAdd,Nat.reduceEqDiff,Nat.reduceLT,Nat.reduceLeDiff,Nat.reduceMul,Nat.reduceSub,reduceCtorEq,tbGY3,Tryz.results22,h1,remB]
   refine⟨by simp,fun b c' hb hc=>?_⟩
   simp only [↓rA,rB,buildOk,nt_is,Int.reduceEq,Int.reduceLE,Int.reduceLT,Int.reduceToNat,Nat.reduceAdd,Nat.reduceEqDiff,Nat.reduceLT,Nat.reduceLeDiff,Nat.reduceMul,Nat.reduceSub,reduceCtorEq,tbGY3,Tryz.results22,h1,remB]
   refine⟨_,[_],[],Le.refl _,List.Sublist.refl _,List.nil_sublist _,rfl,?_⟩
   first | exact .inr ⟨b,c',rfl,by simp⟩ | exact⟨b,c',rfl,by simp⟩
 | cons x l =>
  refine Ok.of_ex Ty.mixed Tryz.func22 rfl (by simp [Tryz.ntmps22]) (by kernel_rfl) fun F w0 I0=>?_
  simp only [↓rA,rB,buildOk,nt_is,Int.reduceEq,Int.reduceLE,Int.reduceLT,Int.reduceToNat,Nat.reduceAdd,Nat.reduceEqDiff,Nat.reduceLT,Nat.reduceLeDiff,Nat.reduceMul,Nat.reduceSub,reduceCtorEq,tbGY3,Tryz.results22]
  refine Or2.r ?_
  simp only [↓rA,rB,buildOk,nt_is,Int.reduceEq,Int.reduceLE,Int.reduceLT,Int.reduceToNat,Nat.reduceAdd,Nat.reduceEqDiff,Nat.reduceLT,Nat.reduceLeDiff,Nat.reduceMul,Nat.reduceSub,reduceCtorEq,tbGY3,Tryz.results22]
  refine fun b1 h1=>?_;replace h1:=newb h1;try simp only [Nb] at h1
  simp only [↓rA,rB,buildOk,nt_is,Int.reduceEq,Int.reduceLE,Int.reduceLT,Int.reduceToNat,Nat.reduceAdd,Nat.reduceEqDiff,Nat.reduceLT,Nat.reduceLeDiff,Nat.reduceMul,Nat.reduceSub,reduceCtorEq,tbGY3,Tryz.results22,h1]
  refine Or2.r ?_
  simp only [↓rA,rB,buildOk,nt_is,Int.reduceEq,Int.reduceLE,Int.reduceLT,Int.reduceToNat,Nat.reduceAdd,Nat.reduceEqDiff,Nat.reduceLT,Nat.reduceLeDiff,Nat.reduceMul,Nat.reduceSub,reduceCtorEq,tbGY3,Tryz.results22,h1,remB]
  refine⟨⟨by simp,by rw [List.length_map];simp only [List.length_cons] at hl;omega⟩,fun b c' hb hc=>?_⟩
  simp only [↓rA,rB,buildOk,nt_is,Int.reduceEq,Int.reduceLE,Int.reduceLT,Int.reduceToNat,Nat.reduceAdd,Nat.reduceEqDiff,Nat.reduceLT,Nat.reduceLeDiff,Nat.reduceMul,Nat.reduceSub,reduceCtorEq,tbGY3,Tryz.results22,h1,remB]
  refine⟨_,[_],[],Le.refl _,List.Sublist.refl _,List.nil_sublist _,rfl,b,c',by simpa using hc,by simp,by simp⟩
end Go.Proofs.YtjdggbanifineaaGreat
set_option linter.unusedSimpArgs false
set_option maxRecDepth 100000
namespace Go.Ar
open Go.VL Go.Sg Go.Lo
def FamC (f:Nat) (l:List Cl):Prop:=∀ c ∈ l,FamS f c.2
theorem addF_eq {f:Nat} {s:Stt} (h0:¬ f=0) (h:FamS f s) (v:Val) (id:FID) {n:Int} (hn:inW n):addF f s v id n=addSt.add s (dItem f v id n):=by
 unfold addF
 by_cases e:n=0
 ·subst e
  rw [if_pos (.inr rfl),dItem_zero]
  exact(addSt.addz h.ok).symm
 ·rw [if_neg fun h=>h.elim h0 e,addM_eq h v id hn]
theorem FamS.addF {f:Nat} {s:Stt} (h:FamS f s) (v:Val) (id:FID) {n:Int} (hn:inW n):FamS f (addF f s v id n):=by
 unfold Go.Ar.addF
 split
 ·exact h
 ·exact h.addM v id hn
theorem addF_len (f:Nat) (s:Stt) (v:Val) (id:FID) (n:Int) {k:Nat} (h1:s.2.2.1.length≤k) (h2:s.2.2.2.length≤k):(addF f s v id n).2.2.1.length≤k+1∧(addF f s v id n).2.2.2.length≤k+1:=by
 unfold addF addM
 split
 ·exact⟨by omega,by omega⟩
 ·refine⟨?_,?_⟩
  ·show (if f=4∨f=5 then _ else _:Its).length≤_
   split
   ·exact Nat.le_trans (put_len ordM addW _ _ _) (by omega)
   ·simp
  ·show (if f=3 then _ else _:Bks).length≤_
   split
   ·exact Nat.le_trans (put_len ordI addW _ _ _) (by omega)
   ·simp
theorem put_zeroS {K G:Type} [DecidableEq K] [DecidableEq G] {O:Sg.Ord K} {A:Sg.Add G} {k:K} {m:List (K × G)} (h:∀ p ∈ m,O.lt k p.1=true):put O A k A.z m=m:=by
 cases m with
 | nil=>unfold put;rw [if_pos rfl]
 | cons p m =>
  have h1:=h p List.mem_cons_self
  unfold put
  rw [if_neg (by rw [O.asym h1];decide),if_neg (fun e=>O.ne h1 e.symm),if_pos rfl]
abbrev stepM (f:Nat) (l:List Cl) (p:Pk):List Cl:=put ordI addSt p.1.event (dItem f p.1.val p.1.id p.2) l
theorem updM_take (f:Nat) (l:List Cl) (ps:List Pk) (i:Nat) (h:i < ps.length):updM f l (ps.take (i+1))=stepM f (updM f l (ps.take i)) ps[i]:=by
 rw [List.take_succ_eq_append_getElem h,updM_append];rfl
section
variable {f:Nat} {l:List Cl} {p:Pk} {i:Nat} (h0:¬ f=0) (hc:Canon ordI addSt l) (hF:FamC f l) (hn:inW p.2) (hi:i≤l.length) (hs:∀ j,(h:j < l.length)→(j < i↔l[j].1 < p.1.event))
include h0 hc hF hn hi hs
omit h0 hc hF hn in
theorem step_ahead:∀ q ∈ l.take i,ordI.lt q.1 p.1.event=true:=fun q hq=>by
 obtain⟨j,hj,rfl⟩:=List.getElem_of_mem hq
 rw [List.length_take] at hj
 rw [List.getElem_take]
 exact ltO.2 ((hs j (by omega)).1 (by omega))
omit hc in
theorem step_hit (h:i < l.length) (he:l[i].1=p.1.event):stepM f l p=if addF f l[i].2 p.1.val p.1.id p.2=zSt then l.take i++l.drop (i+1) else l.take i++(p.1.event,addF f l[i].2 p.1.val p.1.id p.2)::l.drop (i+1):=by
 have hd:l=l.take i++(p.1.event,l[i].2)::l.drop (i+1):=by
  rw [← he]
  conv=>lhs;rw [← List.take_append_drop i l,List.drop_eq_getElem_cons h]
 unfold stepM
 rw [addF_eq h0 (hF _ (List.getElem_mem h)) _ _ hn]
 conv=>lhs;rw [hd]
 rw [put_ahead (step_ahead hi hs),put_hit]
 show (_++if addSt.add l[i].2 _=zSt then _ else _)=_
 split <;> rfl
omit hF in
theorem step_miss (h:i=l.length∨∃ h:i < l.length,l[i].1 ≠ p.1.event):stepM f l p=if addF f zSt p.1.val p.1.id p.2=zSt then l else l.take i++(p.1.event,addF f zSt p.1.val p.1.id p.2)::l.drop i:=by
 have hb:∀ q ∈ l.drop i,ordI.lt p.1.event q.1=true:=fun q hq=>by
  rcases h with e | ⟨h,hne⟩
  ·rw [e,List.drop_length] at hq;cases hq
  ·have hp:=hc.sorted
   rw [← List.take_append_drop i l,List.drop_eq_getElem_cons h] at hp
   have hk:ordI.lt p.1.event l[i].1=true:=ltO.2 (by have:=mt (hs i h).2 (Nat.lt_irrefl i);omega)
   rw [List.drop_eq_getElem_cons h] at hq
   rcases List.mem_cons.1 hq with rfl | hq
   ·exact hk
   ·exact ordI.tr hk ((List.pairwise_cons.1 (List.pairwise_append.1 hp).2.1).1 q hq)
 have e1:addF f zSt p.1.val p.1.id p.2=dItem f p.1.val p.1.id p.2:=by
  rw [addF_eq h0 (FamS.zero f) _ _ hn];exact addSt.zadd (dItem_ok hn)
 rw [e1]
 unfold stepM
 conv=>lhs;rw [← List.take_append_drop i l]
 rw [put_ahead (step_ahead hi hs)]
 split
 ·rename_i hz
  rw [hz,show zSt=addSt.z from rfl,put_zeroS hb,List.take_append_drop]
 ·rename_i hz
  rw [put_miss hz hb]
end
theorem FamC.step {f:Nat} {l:List Cl} {p:Pk} (h0:¬ f=0) (hF:FamC f l) (hn:inW p.2):FamC f (stepM f l p):=by
 have main:∀ {l:List Cl},FamC f l→FamC f (stepM f l p):=by
  intro l
  induction l with
  | nil =>
   intro _ c hc
   unfold stepM put at hc
   split at hc
   ·cases hc
   ·rw [List.mem_singleton.1 hc]
    have:=(FamS.zero f).addF p.1.val p.1.id hn
    rw [addF_eq h0 (FamS.zero f) _ _ hn,show addSt.add zSt _=_ from addSt.zadd (dItem_ok hn)] at this
    exact this
  | cons q l ih =>
   intro hF c hc
   have hl:FamC f l:=fun c hc=>hF c (List.mem_cons_of_mem _ hc)
   have hq:=hF q List.mem_cons_self
   unfold stepM put at hc
   split at hc
   ·rcases List.mem_cons.1 hc with rfl | hc
    ·exact hq
    ·exact ih hl c hc
   ·split at hc
    ·split at hc
     ·exact hl c hc
     ·rcases List.mem_cons.1 hc with rfl | hc
      ·have:=hq.addF p.1.val p.1.id hn
       rw [addF_eq h0 hq _ _ hn] at this
       exact this
      ·exact hl c hc
    ·split at hc
     ·exact hF c hc
     ·rcases List.mem_cons.1 hc with rfl | hc
      ·have:=(FamS.zero f).addF p.1.val p.1.id hn
       rw [addF_eq h0 (FamS.zero f) _ _ hn,show addSt.add zSt _=_ from addSt.zadd (dItem_ok hn)] at this
       exact this
      ·exact hF c hc
 exact main hF
theorem Bd.step {f n:Nat} {l:List Cl} {p:Pk} (h0:¬ f=0) (hF:FamC f l) (hn:inW p.2) (hb:Bd n l):Bd (n+1) (stepM f l p):=by
 refine⟨Nat.le_trans (put_len ordI addSt _ _ _) (Nat.add_le_add_right hb.1 1),?_⟩
 have main:∀ {l:List Cl},FamC f l→(∀ c ∈ l,c.2.2.2.1.length≤n∧c.2.2.2.2.length≤n)→∀ c ∈ stepM f l p,c.2.2.2.1.length≤n+1∧c.2.2.2.2.length≤n+1:=by
  have up:∀ c:Cl,(c.2.2.2.1.length≤n∧c.2.2.2.2.length≤n)→c.2.2.2.1.length≤n+1∧c.2.2.2.2.length≤n+1:=fun c h=>⟨by omega,by omega⟩
  have new:∀ s:Stt,FamS f s→s.2.2.1.length≤n→s.2.2.2.length≤n→(addSt.add s (dItem f p.1.val p.1.id p.2)).2.2.1.length≤n+1∧(addSt.add s (dItem f p.1.val p.1.id p.2)).2.2.2.length≤n+1:=fun s hs h1 h2=>by
   have:=addF_len f s p.1.val p.1.id p.2 h1 h2
   rwa [addF_eq h0 hs _ _ hn] at this
  have new0:=new zSt (FamS.zero f) (Nat.zero_le _) (Nat.zero_le _)
  rw [show addSt.add zSt _=_ from addSt.zadd (dItem_ok hn)] at new0
  intro l
  induction l with
  | nil =>
   intro _ _ c hc
   unfold stepM put at hc
   split at hc
   ·cases hc
   ·rw [List.mem_singleton.1 hc];exact new0
  | cons q l ih =>
   intro hF hb c hc
   have hl:FamC f l:=fun c hc=>hF c (List.mem_cons_of_mem _ hc)
   have hbl:∀ c ∈ l,c.2.2.2.1.length≤n∧c.2.2.2.2.length≤n:=fun c hc=>hb c (List.mem_cons_of_mem _ hc)
   unfold stepM put at hc
   split at hc
   ·rcases List.mem_cons.1 hc with rfl | hc
    ·exact up _ (hb _ List.mem_cons_self)
    ·exact ih hl hbl c hc
   ·split at hc
    ·split at hc
     ·exact up _ (hbl c hc)
     ·rcases List.mem_cons.1 hc with rfl | hc
      ·exact new q.2 (hF q List.mem_cons_self) (hb q List.mem_cons_self).1 (hb q List.mem_cons_self).2
      ·exact up _ (hbl c hc)
    ·split at hc
     ·exact up _ (hb c hc)
     ·rcases List.mem_cons.1 hc with rfl | hc
      ·exact new0
      ·exact up _ (hb c hc)
 exact main hF hb.2
structure GoodC (f n:Nat) (l:List Cl):Prop where
 can:Canon ordI addSt l
 fam:FamC f l
 bd:Bd n l
theorem GoodC.step {f n:Nat} {l:List Cl} {p:Pk} (h0:¬ f=0) (h:GoodC f n l) (hn:inW p.2):GoodC f (n+1) (stepM f l p):=⟨h.can.put (dItem_ok hn),h.fam.step h0 hn,h.bd.step h0 h.fam hn⟩
theorem GoodC.nil (f n:Nat):GoodC f n []:=⟨Canon.nil,fun _ hc=>absurd hc List.not_mem_nil,Nat.zero_le _,fun _ hc=>absurd hc List.not_mem_nil⟩
theorem GoodC.upd {f:Nat} (h0:¬ f=0):∀ {ps:List Pk} {n:Nat} {l:List Cl},GoodC f n l→(∀ p ∈ ps,inW p.2)→GoodC f (n+ps.length) (updM f l ps)
 | [],_,_,h,_=>h
 | p::ps,n,l,h,hp=>by
  have:=GoodC.upd h0 (ps:=ps) (h.step h0 (hp p List.mem_cons_self)) fun q hq=>hp q (List.mem_cons_of_mem _ hq)
  rw [List.length_cons,show n+(ps.length+1)=n+1+ps.length by omega]
  exact this
theorem GoodC.sorted {f n:Nat} {l:List Cl} (h:GoodC f n l):l.Pairwise fun a b=>a.1 < b.1:=h.can.sorted.imp fun h=>ltO.1 h
end Go.Ar
set_option linter.unusedSimpArgs false
set_option maxRecDepth 100000
set_option linter.defProp false
namespace Go.Ar
open Go.VL Go.Sg Go.Lo
theorem cell_cut (l:List Cl) (i:Nat) (h:i < l.length) (rest:List V):(l.map cCl).flatten++rest=((l.take i).map cCl).flatten++(cCl l[i]++(((l.drop (i+1)).map cCl).flatten++rest)):=by
 conv=>lhs;rw [← List.take_append_drop i l,List.drop_eq_getElem_cons h]
 simp only [List.map_append,List.map_cons,List.flatten_append,List.flatten_cons,List.append_assoc]
theorem ins_cellsC (l:List Cl) (j:Nat) (hj:j≤l.length) (rest0 rest:List V) (g:Cl):List.take (j * 6) ((l.map cCl).flatten++rest0)++cCl g++List.drop (j * 6) (List.take (l.length * 6) ((l.map cCl).flatten++rest0))++rest=((l.take j++g::l.drop j).map cCl).flatten++rest:=by
 have h1:=cells_lenC l
 have h2:(((l.take j).map cCl).flatten).length=j * 6:=by rw [cells_lenC,List.length_take,Nat.min_eq_left hj]
 have h3:(l.map cCl).flatten=((l.take j).map cCl).flatten++((l.drop j).map cCl).flatten:=by rw [← List.flatten_append,← List.map_append,List.take_append_drop]
 rw [List.take_left' h1,List.take_append_of_le_length (by rw [h1];omega),h3,List.take_left' h2,List.drop_left' h2]
 simp only [List.map_append,List.map_cons,List.flatten_append,List.flatten_cons,List.append_assoc]
end Go.Ar
namespace Go.Proofs.YtjdggbanifineaaGreat
open Go.VL Go.Ar Go.Sg Go.Lo Go.Proofs.YtjdggbanifineaaGreat Go.Proofs.YtjdggbanifineaaGreat.Arr
def CellsAt (L:List Cl) (v:V) (bs:List (Nat × B)):Prop:=(L=[]∧v=nilS∧bs=[])∨∃ b c rest,(L.length≤c∧rest.length=(c - L.length) * 6)∧v=.lit (.slice (some ⟨b,0,none⟩) L.length c)∧bs=[(b,.c ((L.map cCl).flatten++rest))]
def tbH00:=(aI (aI (aI (aI Ty.c22 (aI Ty.c23 Ty.c24)) (aI Ty.c26 (aI Ty.c27 Ty.c28))) (aI (aI Ty.c29 (aI Ty.c7 Ty.t117)) (aI (aI Ty.t22 Ty.t26) (aI Ty.t28 Ty.t3)))) (aI (aI (aI Ty.t30 (aI Ty.t31 Ty.t4)) (aI Ty.t49 (aI Ty.t51 Ty.t52))) (aI (aI Ty.t53 (aI Ty.t55 Ty.t57)) (aI (aI Ty.t58 Ty.t61) (aI Ty.t65 Ty.t9)))))
set_option maxHeartbeats 1000000 in
theorem update_raw (op:Str) (l:List Cl) (ps:List Pk) (h0:¬ fam op=0) (hg:GoodC (fam op) 10000 l) (hp:∀ p ∈ ps,inW p.2∧inW p.1.val.n) (hl:ps.length≤10000):Ok Tryz.prog 9 [vstr op,vCls l,vPks ps] [] fun v bs rs=>rs=[]∧CellsAt (updM (fam op) l ps) v bs:=by
 refine Ok.of_ex Ty.mixed Tryz.func9 rfl (by simp [Tryz.ntmps9]) (by kernel_rfl) fun F w0 I0=>?_
 simp only [↓rA,rB,buildOk,nt_is,Int.reduceEq,Int.reduceLE,Int.reduceLT,Int.reduceToNat,Nat.reduceAdd,Nat.reduceEqDiff,Nat.reduceLT,Nat.reduceLeDiff,Nat.reduceMul,Nat.reduceSub,reduceCtorEq,tbH00,Tryz.results9]
 refine OkF_of _ (known_ok op) ?_
 simp only [↓rA,rB,buildOk,nt_is,Int.reduceEq,Int.reduceLE,Int.reduceLT,Int.reduceToNat,Nat.reduceAdd,Nat.reduceEqDiff,Nat.reduceLT,Nat.reduceLeDiff,Nat.reduceMul,Nat.reduceSub,reduceCtorEq,tbH00,Tryz.results9,h0]
 refine OkF_with [] [] (List.Perm.refl _) (cloneC_ok l (by have:=hg.bd.1;omega)) ?_
 intro v bs rs hcl
 obtain⟨hr0,hcl2⟩:rs=[]∧CellsAt l v bs:=by
  obtain⟨h1,⟨h2,h3,h4⟩ | ⟨b,c,h2,h3,h4⟩⟩:=hcl
  ·exact⟨h1,.inl ⟨h2,h3,h4⟩⟩
  ·exact⟨h1,.inr ⟨b,c,_,⟨h2,anys_len _⟩,h3,h4⟩⟩
 subst hr0
 clear hcl
 simp only [↓rA,rB,buildOk,nt_is,Int.reduceEq,Int.reduceLE,Int.reduceLT,Int.reduceToNat,Nat.reduceAdd,Nat.reduceEqDiff,Nat.reduceLT,Nat.reduceLeDiff,Nat.reduceMul,Nat.reduceSub,reduceCtorEq,tbH00,Tryz.results9]
 refine EX_forS Ty.mixed (by kernel_rfl) ps.length (fun i S=>CellsAt (updM (fam op) l (ps.take i)) (S.σ 6) S.boxes∧S.rows=[]∧S.σ 0=vstr op∧S.σ 18=vPks ps∧S.σ 19=vint ps.length∧S.σ 20=vint i) ⟨_,_,List.Sublist.refl _,List.Sublist.refl _,?_⟩ (fun i S hi ⟨hc,gr,g0,g18,g19,g20⟩=>?_) (fun S ⟨hc,gr,g0,g18,g19,g20⟩=>?_)
 ·simp only [↓rA,rB,buildOk,nt_is,Int.reduceEq,Int.reduceLE,Int.reduceLT,Int.reduceToNat,Nat.reduceAdd,Nat.reduceEqDiff,Nat.reduceLT,Nat.reduceLeDiff,Nat.reduceMul,Nat.reduceSub,reduceCtorEq,tbH00,Tryz.results9,List.length_map]
  exact hcl2
 ·have hgi:=(hg.upd h0 (ps:=ps.take i) fun q hq=>(hp q (List.mem_of_mem_take hq)).1)
  rw [updM_take _ _ _ _ hi]
  generalize updM (fam op) l (ps.take i)=L at hc hgi ⊢
  obtain⟨hpn,hpv⟩:=hp ps[i] (List.getElem_mem hi)
  have hLl:L.length≤20000:=by have:=hgi.bd.1;rw [List.length_take] at this;omega
  have hbd:∀ c ∈ L,c.2.2.2.1.length≤20000∧c.2.2.2.2.length≤20000:=fun c hc=>by have:=hgi.bd.2 c hc;rw [List.length_take] at this;omega
  have w1:=wrap_succ hi (by omega)
  rcases hc with⟨rfl,g6,gb⟩ | ⟨b,c,rest,⟨hlc,hrl⟩,g6,gb⟩
  ·have hst:=step_miss h0 Canon.nil hpn (Nat.le_refl 0) (fun j h=>absurd h (Nat.not_lt_zero j)) (.inl rfl) (p:=ps[i])
   simp only [↓rA,rB,buildOk,nt_is,Int.reduceEq,Int.reduceLE,Int.reduceLT,Int.reduceToNat,Nat.reduceAdd,Nat.reduceEqDiff,Nat.reduceLT,Nat.reduceLeDiff,Nat.reduceMul,Nat.reduceSub,reduceCtorEq,tbH00,Tryz.results9,gb,gr,g0,g6,g18,g19,g20,Int.ofNat_lt,hi,List.length_map,getD_map _ _ _ hi]
   generalize ps[i]=p at hpn hpv hst ⊢
   refine fun b8 h8=>?_;replace h8:=newb h8;try simp only [Nb] at h8
   simp only [↓rA,rB,buildOk,nt_is,Int.reduceEq,Int.reduceLE,Int.reduceLT,Int.reduceToNat,Nat.reduceAdd,Nat.reduceEqDiff,Nat.reduceLT,Nat.reduceLeDiff,Nat.reduceMul,Nat.reduceSub,reduceCtorEq,tbH00,Tryz.results9,gb,gr,g0,g6,g18,g19,g20,h8]
   refine OkF_of _ (bsearchNilC_ok p.1.event) ?_
   simp only [↓rA,rB,buildOk,nt_is,Int.reduceEq,Int.reduceLE,Int.reduceLT,Int.reduceToNat,Nat.reduceAdd,Nat.reduceEqDiff,Nat.reduceLT,Nat.reduceLeDiff,Nat.reduceMul,Nat.reduceSub,reduceCtorEq,tbH00,Tryz.results9,gb,gr,g0,g6,g18,g19,g20,h8]
   refine fun b11 h11=>?_;replace h11:=newb h11;try simp only [Nb] at h11
   simp only [↓rA,rB,buildOk,nt_is,Int.reduceEq,Int.reduceLE,Int.reduceLT,Int.reduceToNat,Nat.reduceAdd,Nat.reduceEqDiff,Nat.reduceLT,Nat.reduceLeDiff,Nat.reduceMul,Nat.reduceSub,reduceCtorEq,tbH00,Tryz.results9,gb,gr,g0,g6,g18,g19,g20,h8,h11]
   have hE:Le (V.agg [vint 0,vint 0,vu 0,nilS,nilS]) (.agg (cSt zSt)):=LeSt (Le.nil 6) (Le.nil 2)
   refine OkF_le (.cons (Le.refl _) (.cons hE (.cons (Le.refl _) .nil))) _ (add_ok op zSt ((p.1.id,p.1.val),p.2) (FamS.zero _) hpv hpn (by simp) (by simp)) ?_
   show _
   generalize addF (fam op) zSt p.1.val p.1.id p.2=s at hst ⊢
   simp only [↓rA,rB,buildOk,nt_is,Int.reduceEq,Int.reduceLE,Int.reduceLT,Int.reduceToNat,Nat.reduceAdd,Nat.reduceEqDiff,Nat.reduceLT,Nat.reduceLeDiff,Nat.reduceMul,Nat.reduceSub,reduceCtorEq,tbH00,Tryz.results9,gb,gr,g0,g6,g18,g19,g20,h8,h11]
   refine OkF_of _ (zero_ok s) ?_
   by_cases hz:s=zSt
   ·rw [if_pos hz] at hst
    simp only [↓rA,rB,buildOk,nt_is,Int.reduceEq,Int.reduceLE,Int.reduceLT,Int.reduceToNat,Nat.reduceAdd,Nat.reduceEqDiff,Nat.reduceLT,Nat.reduceLeDiff,Nat.reduceMul,Nat.reduceSub,reduceCtorEq,tbH00,Tryz.results9,gb,gr,g0,g6,g18,g19,g20,h8,h11,hz,w1]
    refine⟨[],_,List.nil_sublist _,List.Sublist.refl _,?_⟩
    simp only [↓rA,rB,buildOk,nt_is,Int.reduceEq,Int.reduceLE,Int.reduceLT,Int.reduceToNat,Nat.reduceAdd,Nat.reduceEqDiff,Nat.reduceLT,Nat.reduceLeDiff,Nat.reduceMul,Nat.reduceSub,reduceCtorEq,tbH00,Tryz.results9,gr,g0,g6,g18,g19,g20]
    exact .inl ⟨hst,rfl,rfl⟩
   ·rw [if_neg hz] at hst
    simp only [↓rA,rB,buildOk,nt_is,Int.reduceEq,Int.reduceLE,Int.reduceLT,Int.reduceToNat,Nat.reduceAdd,Nat.reduceEqDiff,Nat.reduceLT,Nat.reduceLeDiff,Nat.reduceMul,Nat.reduceSub,reduceCtorEq,tbH00,Tryz.results9,gb,gr,g0,g6,g18,g19,g20,h8,h11,hz,w1]
    refine fun y=>OkF_with [] [_,_] (List.Perm.refl _) (insCeNil_ok (cCl (p.1.event,s)) (some y)) ?_
    rintro v bs rs ⟨rfl,b,c,hc1,rfl,rfl⟩
    simp only [↓rA,rB,buildOk,nt_is,Int.reduceEq,Int.reduceLE,Int.reduceLT,Int.reduceToNat,Nat.reduceAdd,Nat.reduceEqDiff,Nat.reduceLT,Nat.reduceLeDiff,Nat.reduceMul,Nat.reduceSub,reduceCtorEq,tbH00,Tryz.results9,gb,gr,g0,g6,g18,g19,g20,h8,h11,w1]
    refine⟨[_],[],List.Sublist.cons_cons _ (List.nil_sublist _),List.nil_sublist _,?_⟩
    simp only [↓rA,rB,buildOk,nt_is,Int.reduceEq,Int.reduceLE,Int.reduceLT,Int.reduceToNat,Nat.reduceAdd,Nat.reduceEqDiff,Nat.reduceLT,Nat.reduceLeDiff,Nat.reduceMul,Nat.reduceSub,reduceCtorEq,tbH00,Tryz.results9,gr,g0,g6,g18,g19,g20]
    rw [hst]
    exact .inr ⟨b,c,anys ((c - 1) * 6),⟨hc1,anys_len _⟩,rfl,by simp⟩
  ·skip
   simp only [↓rA,rB,buildOk,nt_is,Int.reduceEq,Int.reduceLE,Int.reduceLT,Int.reduceToNat,Nat.reduceAdd,Nat.reduceEqDiff,Nat.reduceLT,Nat.reduceLeDiff,Nat.reduceMul,Nat.reduceSub,reduceCtorEq,tbH00,Tryz.results9,gb,gr,g0,g6,g18,g19,g20,Int.ofNat_lt,hi,List.length_map,getD_map _ _ _ hi]
   generalize ps[i]=p at hpn hpv ⊢
   refine fun b8 h8=>?_;replace h8:=newb h8;try simp only [Nb] at h8
   simp only [↓rA,rB,buildOk,nt_is,Int.reduceEq,Int.reduceLE,Int.reduceLT,Int.reduceToNat,Nat.reduceAdd,Nat.reduceEqDiff,Nat.reduceLT,Nat.reduceLeDiff,Nat.reduceMul,Nat.reduceSub,reduceCtorEq,tbH00,Tryz.results9,gb,gr,g0,g6,g18,g19,g20,h8]
   refine OkF_with [_] [_] (List.Perm.swap _ _ _) (bsearchC_ok L p.1.event rest b c (by omega) hgi.sorted) ?_
   rintro v bs rs ⟨rfl,rfl,k,hk,hsp,rfl⟩
   generalize hfd:decide (L[k]?.map (·.1)=some p.1.event)=fd
   simp only [↓rA,rB,buildOk,nt_is,Int.reduceEq,Int.reduceLE,Int.reduceLT,Int.reduceToNat,Nat.reduceAdd,Nat.reduceEqDiff,Nat.reduceLT,Nat.reduceLeDiff,Nat.reduceMul,Nat.reduceSub,reduceCtorEq,tbH00,Tryz.results9,gb,gr,g0,g6,g18,g19,g20,h8]
   refine fun b11 h11=>?_;replace h11:=newb h11;try simp only [Nb] at h11
   have hh:=And.intro h8 h11
   have wk:IntKind.i64.wrap ((k:Int)+1)=((k+1:Nat):Int):=by rw [wrap_id (by omega) (by omega)];rfl
   cases fd with
   | true =>
    have hfe:=of_decide_eq_true hfd
    have hil:k < L.length:=by
     rcases Nat.lt_or_ge k L.length with h | h
     ·exact h
     ·rw [List.getElem?_eq_none h] at hfe;cases hfe
    rw [List.getElem?_eq_getElem hil] at hfe
    have he:L[k].1=p.1.event:=Option.some.inj hfe
    have hst:=step_hit h0 hgi.fam hpn hk hsp hil he
    have hcl:=get_cells (k:=6) (c:=cCl) (fun _=>rfl) L rest k hil
    have hdl:=left_cells (k:=6) (c:=cCl) (fun _=>rfl) L rest k hil
    have hFs:=hgi.fam _ (List.getElem_mem hil)
    have hbs:=hbd _ (List.getElem_mem hil)
    simp only [↓rA,rB,buildOk,nt_is,Int.reduceEq,Int.reduceLE,Int.reduceLT,Int.reduceToNat,Nat.reduceAdd,Nat.reduceEqDiff,Nat.reduceLT,Nat.reduceLeDiff,Nat.reduceMul,Nat.reduceSub,reduceCtorEq,tbH00,Tryz.results9,gb,gr,g0,g6,g18,g19,g20,hh,Int.ofNat_lt,hil,hcl,hdl,wk]
    rw [cell_cut L k hil rest]
    refine OkF_with [_] [_,_] (List.Perm.swap _ _ _) (delCe_ok ((L.take k).map cCl).flatten ((L.drop (k+1)).map cCl).flatten (cCl L[k]) rest k L.length c b (by rw [cells_lenC,List.length_take,Nat.min_eq_left (by omega)]) rfl (by rw [cells_lenC,List.length_drop]) hil hlc (by omega) hrl) ?_
    rintro v bs rs ⟨rfl,rest',rfl,hr',rfl⟩
    have hap:((L.take k).map cCl).flatten++(((L.drop (k+1)).map cCl).flatten++rest')=((L.take k++L.drop (k+1)).map cCl).flatten++rest':=by simp only [List.map_append,List.flatten_append,List.append_assoc]
    rw [hap]
    clear hap
    have hl':(L.take k++L.drop (k+1)).length=L.length - 1:=by rw [List.length_append,List.length_take,List.length_drop];omega
    have ht':(L.take k++L.drop (k+1)).take k=L.take k:=List.take_left' (by rw [List.length_take];omega)
    have hd':(L.take k++L.drop (k+1)).drop k=L.drop (k+1):=List.drop_left' (by rw [List.length_take];omega)
    rw [← hl'] at hr' ⊢
    have hst':stepM (fam op) L p=if addF (fam op) L[k].2 p.1.val p.1.id p.2=zSt then L.take k++L.drop (k+1) else (L.take k++L.drop (k+1)).take k++(p.1.event,addF (fam op) L[k].2 p.1.val p.1.id p.2)::(L.take k++L.drop (k+1)).drop k:=by
     rw [hst,ht',hd']
    have hk':k≤(L.take k++L.drop (k+1)).length:=by omega
    have hlc':(L.take k++L.drop (k+1)).length≤c:=by omega
    have hll':(L.take k++L.drop (k+1)).length≤20000:=by omega
    clear hst ht' hd' hl' hcl hdl
    generalize L.take k++L.drop (k+1)=L' at *
    have hFs':=hFs
    clear hFs
    generalize L[k]=cc at he hst' hbs hFs' ⊢
    obtain⟨ce,cs⟩:=cc
    simp only at he hst' hbs hFs'
    subst he
    simp only [↓rA,rB,buildOk,nt_is,Int.reduceEq,Int.reduceLE,Int.reduceLT,Int.reduceToNat,Nat.reduceAdd,Nat.reduceEqDiff,Nat.reduceLT,Nat.reduceLeDiff,Nat.reduceMul,Nat.reduceSub,reduceCtorEq,tbH00,Tryz.results9,gb,gr,g0,g6,g18,g19,g20,hh]
    refine OkF_of _ (add_ok op cs ((p.1.id,p.1.val),p.2) hFs' hpv hpn (by omega) (by omega)) ?_
    show _
    generalize addF (fam op) cs p.1.val p.1.id p.2=s at hst' ⊢
    simp only [↓rA,rB,buildOk,nt_is,Int.reduceEq,Int.reduceLE,Int.reduceLT,Int.reduceToNat,Nat.reduceAdd,Nat.reduceEqDiff,Nat.reduceLT,Nat.reduceLeDiff,Nat.reduceMul,Nat.reduceSub,reduceCtorEq,tbH00,Tryz.results9,gb,gr,g0,g6,g18,g19,g20,hh]
    refine OkF_of _ (zero_ok s) ?_
    by_cases hz:s=zSt
    ·rw [if_pos hz] at hst'
     simp only [↓rA,rB,buildOk,nt_is,Int.reduceEq,Int.reduceLE,Int.reduceLT,Int.reduceToNat,Nat.reduceAdd,Nat.reduceEqDiff,Nat.reduceLT,Nat.reduceLeDiff,Nat.reduceMul,Nat.reduceSub,reduceCtorEq,tbH00,Tryz.results9,gb,gr,g0,g6,g18,g19,g20,hh,hz,w1]
     refine⟨[_],_,List.Sublist.cons_cons _ (List.nil_sublist _),List.Sublist.refl _,?_⟩
     simp only [↓rA,rB,buildOk,nt_is,Int.reduceEq,Int.reduceLE,Int.reduceLT,Int.reduceToNat,Nat.reduceAdd,Nat.reduceEqDiff,Nat.reduceLT,Nat.reduceLeDiff,Nat.reduceMul,Nat.reduceSub,reduceCtorEq,tbH00,Tryz.results9,gr,g0,g6,g18,g19,g20]
     rw [hst']
     exact .inr ⟨b,c,rest',⟨hlc',hr'⟩,rfl,rfl⟩
    ·rw [if_neg hz] at hst'
     have hcs:((L'.map cCl).flatten++rest').length=c * 6:=by rw [List.length_append,cells_lenC,hr',← Nat.add_mul];congr 1;omega
     simp only [↓rA,rB,buildOk,nt_is,Int.reduceEq,Int.reduceLE,Int.reduceLT,Int.reduceToNat,Nat.reduceAdd,Nat.reduceEqDiff,Nat.reduceLT,Nat.reduceLeDiff,Nat.reduceMul,Nat.reduceSub,reduceCtorEq,tbH00,Tryz.results9,gb,gr,g0,g6,g18,g19,g20,hh,hz,w1]
     refine fun y=>OkF_with [_] [_,_] (List.Perm.refl _) (insCe_ok _ k L'.length c b (cCl (p.1.event,s)) (some y) rfl hcs hk' hlc' (by omega)) ?_
     rintro v bs rs ⟨rfl,b',c',rest'',h1,rfl,h2,rfl⟩
     simp only [↓rA,rB,buildOk,nt_is,Int.reduceEq,Int.reduceLE,Int.reduceLT,Int.reduceToNat,Nat.reduceAdd,Nat.reduceEqDiff,Nat.reduceLT,Nat.reduceLeDiff,Nat.reduceMul,Nat.reduceSub,reduceCtorEq,tbH00,Tryz.results9,gb,gr,g0,g6,g18,g19,g20,hh,w1]
     refine⟨[_],[],List.Sublist.cons_cons _ (List.nil_sublist _),List.nil_sublist _,?_⟩
     simp only [↓rA,rB,buildOk,nt_is,Int.reduceEq,Int.reduceLE,Int.reduceLT,Int.reduceToNat,Nat.reduceAdd,Nat.reduceEqDiff,Nat.reduceLT,Nat.reduceLeDiff,Nat.reduceMul,Nat.reduceSub,reduceCtorEq,tbH00,Tryz.results9,gr,g0,g6,g18,g19,g20]
     rw [hst',ins_cellsC L' k hk']
     have hlen:(L'.take k++(p.1.event,s)::L'.drop k).length=L'.length+1:=by simp;omega
     exact .inr ⟨b',c',rest'',⟨by rw [hlen];exact h1,by rw [hlen];exact h2⟩,by rw [hlen],rfl⟩
   | false =>
    have hfe:=of_decide_eq_false hfd
    have hst:=step_miss h0 hgi.can hpn hk hsp (by
     rcases Nat.lt_or_ge k L.length with h | h
     ·refine .inr ⟨h,fun e=>hfe ?_⟩
      rw [List.getElem?_eq_getElem h,Option.map_some,e]
     ·exact .inl (by omega))
    simp only [↓rA,rB,buildOk,nt_is,Int.reduceEq,Int.reduceLE,Int.reduceLT,Int.reduceToNat,Nat.reduceAdd,Nat.reduceEqDiff,Nat.reduceLT,Nat.reduceLeDiff,Nat.reduceMul,Nat.reduceSub,reduceCtorEq,tbH00,Tryz.results9,gb,gr,g0,g6,g18,g19,g20,hh]
    have hE:Le (V.agg [vint 0,vint 0,vu 0,nilS,nilS]) (.agg (cSt zSt)):=LeSt (Le.nil 6) (Le.nil 2)
    refine OkF_le (.cons (Le.refl _) (.cons hE (.cons (Le.refl _) .nil))) _ (add_ok op zSt ((p.1.id,p.1.val),p.2) (FamS.zero _) hpv hpn (by simp) (by simp)) ?_
    show _
    generalize addF (fam op) zSt p.1.val p.1.id p.2=s at hst ⊢
    simp only [↓rA,rB,buildOk,nt_is,Int.reduceEq,Int.reduceLE,Int.reduceLT,Int.reduceToNat,Nat.reduceAdd,Nat.reduceEqDiff,Nat.reduceLT,Nat.reduceLeDiff,Nat.reduceMul,Nat.reduceSub,reduceCtorEq,tbH00,Tryz.results9,gb,gr,g0,g6,g18,g19,g20,hh]
    refine OkF_of _ (zero_ok s) ?_
    by_cases hz:s=zSt
    ·rw [if_pos hz] at hst
     simp only [↓rA,rB,buildOk,nt_is,Int.reduceEq,Int.reduceLE,Int.reduceLT,Int.reduceToNat,Nat.reduceAdd,Nat.reduceEqDiff,Nat.reduceLT,Nat.reduceLeDiff,Nat.reduceMul,Nat.reduceSub,reduceCtorEq,tbH00,Tryz.results9,gb,gr,g0,g6,g18,g19,g20,hh,hz,w1]
     refine⟨[_],_,List.Sublist.cons _ (List.Sublist.cons_cons _ (List.nil_sublist _)),List.Sublist.refl _,?_⟩
     simp only [↓rA,rB,buildOk,nt_is,Int.reduceEq,Int.reduceLE,Int.reduceLT,Int.reduceToNat,Nat.reduceAdd,Nat.reduceEqDiff,Nat.reduceLT,Nat.reduceLeDiff,Nat.reduceMul,Nat.reduceSub,reduceCtorEq,tbH00,Tryz.results9,gr,g0,g6,g18,g19,g20]
     rw [hst]
     exact .inr ⟨b,c,rest,⟨hlc,hrl⟩,rfl,rfl⟩
    ·rw [if_neg hz] at hst
     have hcs:((L.map cCl).flatten++rest).length=c * 6:=by rw [List.length_append,cells_lenC,hrl,← Nat.add_mul];congr 1;omega
     simp only [↓rA,rB,buildOk,nt_is,Int.reduceEq,Int.reduceLE,Int.reduceLT,Int.reduceToNat,Nat.reduceAdd,Nat.reduceEqDiff,Nat.reduceLT,Nat.reduceLeDiff,Nat.reduceMul,Nat.reduceSub,reduceCtorEq,tbH00,Tryz.results9,gb,gr,g0,g6,g18,g19,g20,hh,hz,w1]
     refine fun y=>OkF_with [_] [_,_] (List.Perm.swap _ _ _) (insCe_ok _ k L.length c b (cCl (p.1.event,s)) (some y) rfl hcs hk hlc (by omega)) ?_
     rintro v bs rs ⟨rfl,b',c',rest',h1,rfl,h2,rfl⟩
     simp only [↓rA,rB,buildOk,nt_is,Int.reduceEq,Int.reduceLE,Int.reduceLT,Int.reduceToNat,Nat.reduceAdd,Nat.reduceEqDiff,Nat.reduceLT,Nat.reduceLeDiff,Nat.reduceMul,Nat.reduceSub,reduceCtorEq,tbH00,Tryz.results9,gb,gr,g0,g6,g18,g19,g20,hh,w1]
     refine⟨[_],[],List.Sublist.cons_cons _ (List.nil_sublist _),List.nil_sublist _,?_⟩
     simp only [↓rA,rB,buildOk,nt_is,Int.reduceEq,Int.reduceLE,Int.reduceLT,Int.reduceToNat,Nat.reduceAdd,Nat.reduceEqDiff,Nat.reduceLT,Nat.reduceLeDiff,Nat.reduceMul,Nat.reduceSub,reduceCtorEq,tbH00,Tryz.results9,gr,g0,g6,g18,g19,g20]
     rw [hst,ins_cellsC L k hk]
     have hlen:(L.take k++(p.1.event,s)::L.drop k).length=L.length+1:=by simp;omega
     exact .inr ⟨b',c',rest',⟨by rw [hlen];exact h1,by rw [hlen];exact h2⟩,by rw [hlen],rfl⟩
 ·rw [List.take_length] at hc
  simp only [↓rA,rB,buildOk,nt_is,Int.reduceEq,Int.reduceLE,Int.reduceLT,Int.reduceToNat,Nat.reduceAdd,Nat.reduceEqDiff,Nat.reduceLT,Nat.reduceLeDiff,Nat.reduceMul,Nat.reduceSub,reduceCtorEq,tbH00,Tryz.results9,gr,g0,g18,g19,g20,Int.ofNat_lt,Nat.lt_irrefl]
  exact⟨_,_,[],Le.refl _,List.Sublist.refl _,List.nil_sublist _,rfl,hc⟩
end Go.Proofs.YtjdggbanifineaaGreat
set_option linter.unusedSimpArgs false
set_option maxRecDepth 100000
set_option linter.defProp false
namespace Go.Ar
open Go.VL Go.Sg Go.Lo
theorem pm3 {α:Type} (a b c d:α):[a,b,c,d].Perm [b,c,a,d]:=(List.perm_middle (l₁:=[b,c]) (a:=a) (l₂:=[d])).symm
theorem pmr {α:Type} (a b c:α):[a,b,c].Perm [c,b,a]:=(List.reverse_perm [a,b,c]).symm
abbrev outP (key:Str) (tick:Int) (p:Pk):Bool:=!selB key tick p
theorem cells_lenP (L:List Pk):((L.map cPk).flatten).length=L.length * 9:=flatK_len (c:=cPk) (k:=9) (fun _=>rfl) L
theorem pick_cells (l:List Pk) (i:Nat) (hi:i < l.length) (rest:List V):∃ A B:List V,A.length=i * 9∧(l.map cPk).flatten++rest=A++(cPk l[i]++B):=by
 refine⟨((l.take i).map cPk).flatten,((l.drop (i+1)).map cPk).flatten++rest,?_,?_⟩
 ·rw [cells_lenP,List.length_take,Nat.min_eq_left (by omega)]
 ·conv=>lhs;rw [← List.take_append_drop i l,List.drop_eq_getElem_cons hi]
  simp only [List.map_append,List.map_cons,List.flatten_append,List.flatten_cons,List.append_assoc]
theorem sel_take (key:Str) (tick:Int) (l:List Pk) (i:Nat) (h:i < l.length):(l.take (i+1)).filter (selB key tick)=(l.take i).filter (selB key tick)++(if outP key tick l[i]=true then [] else [l[i]]):=by
 rw [List.take_succ_eq_append_getElem h,List.filter_append]
 unfold outP
 cases hx:selB key tick l[i] <;> simp [List.filter_cons,hx]
theorem sel_none {key:Str} {tick:Int} {l:List Pk} (h:∀ p ∈ l,outP key tick p=false):l.filter (selB key tick)=l:=by
 rw [List.filter_eq_self]
 intro x hx
 have:=h x hx
 unfold outP at this
 simpa using this
theorem sel_take_none {key:Str} {tick:Int} {l:List Pk} {i:Nat} (hi:i < l.length) (h:∀ j (h':j < i),outP key tick (l[j]'(by omega))=false):(l.take i).filter (selB key tick)=l.take i:=by
 refine sel_none fun p hp=>?_
 obtain⟨j,hj,rfl⟩:=List.getElem_of_mem hp
 rw [List.length_take] at hj
 rw [List.getElem_take]
 exact h j (by omega)
theorem del_cellsP (K l:List Pk) (G:List V) (j:Nat) (hj:j < l.length) (rest:List V):∃ X Y:List V,X.length=K.length * 9+G.length∧(K.map cPk).flatten++(G++(((l.drop j).map cPk).flatten++rest))=X++(cPk l[j]++Y)∧X=(K.map cPk).flatten++G∧Y=((l.drop (j+1)).map cPk).flatten++rest:=by
 refine⟨(K.map cPk).flatten++G,((l.drop (j+1)).map cPk).flatten++rest,by rw [List.length_append,cells_lenP],?_,rfl,rfl⟩
 rw [List.drop_eq_getElem_cons hj]
 simp only [List.map_cons,List.flatten_cons,List.append_assoc]
theorem put_cells9 (kc G Z row:List V) {m:Nat} (h:kc.length=m) (hG:9≤G.length):(kc++G++Z).take m++row++(kc++G++Z).drop (m+9)=kc++(row++(G.drop 9++Z)):=by
 subst h
 rw [List.append_assoc kc G Z,List.take_left',← List.drop_drop,List.drop_left',List.drop_append_of_le_length hG,List.append_assoc] <;> rfl
end Go.Ar
namespace Go.Proofs.YtjdggbanifineaaGreat
open Go.VL Go.Ar Go.Sg Go.Lo Go.Proofs.YtjdggbanifineaaGreat Go.Proofs.YtjdggbanifineaaGreat.Arr
theorem update_ok (op:Str) (l:List Cl) (ps:List Pk) (h0:¬ fam op=0) (hg:GoodC (fam op) 10000 l) (hp:∀ p ∈ ps,inW p.2∧inW p.1.val.n) (hl:ps.length≤10000):OkP Tryz.prog 9 [vstr op,vCls l,vPks ps] (vCls (updM (fam op) l ps)):=by
 have hraw:=update_raw op l ps h0 hg hp hl
 generalize updM (fam op) l ps=L at hraw
 refine norowsO (Q:=fun v bs rs=>bs=[]∧rs=[]∧((v=nilS∧L=[])∨∃ y,v=.list (some y) 6 (L.map cCl))) (Ok.freeze hraw fun v bs rs h=>?_) fun v bs rs h=>?_
 ·obtain⟨rfl,⟨h1,rfl,rfl⟩ | ⟨b,c,rest,⟨hc,hr⟩,rfl,rfl⟩⟩:=h
  ·exact .inl ⟨rfl,rfl,.inl ⟨rfl,h1⟩⟩
  ·exact .inr ⟨b,L.length,c,6,_,L.map cCl,[],_,List.Perm.refl _,⟨List.take_left' (cells_lenC L),fun e he=>by obtain⟨x,_,rfl⟩:=List.mem_map.1 he;rfl,by simp,hc⟩,.here,rfl,rfl,.inr ⟨_,rfl⟩⟩
 ·obtain⟨rfl,rfl,⟨rfl,h⟩ | ⟨y,rfl⟩⟩:=h
  ·exact⟨vCls L,[],[],by rw [h];exact Le.nil 6,List.nil_sublist _,List.nil_sublist _,rfl,rfl,rfl⟩
  ·exact⟨vCls L,[],[],Le.list _ _ _,List.nil_sublist _,List.nil_sublist _,rfl,rfl,rfl⟩
def tbH11:=(aI (aI Ty.t26 (aI Ty.t28 Ty.t3)) (aI Ty.t30 (aI Ty.t4 Ty.t9)))
theorem outP_ok (p:Pk) (key:Str) (tick:Int) (bk bt:Nat) (hb:bk ≠ bt∧bt ≠ bk):Ok Tryz.prog 21 [.agg (cPk p),ptr bk,ptr bt] [(bk,.c [vstr key]),(bt,.c [vint tick])] fun v bs rs=>v=vbool (outP key tick p)∧bs=[(bk,.c [vstr key]),(bt,.c [vint tick])]∧rs=[]:=by
 refine Ok.of_ex Ty.mixed Tryz.func21 rfl (by simp [Tryz.ntmps21]) (by kernel_rfl) fun F w0 I0=>?_
 simp only [↓rA,rB,buildOk,nt_is,Int.reduceEq,Int.reduceLE,Int.reduceLT,Int.reduceToNat,Nat.reduceAdd,Nat.reduceEqDiff,Nat.reduceLT,Nat.reduceLeDiff,Nat.reduceMul,Nat.reduceSub,reduceCtorEq,tbH11,Tryz.results21]
 refine fun b3 h3=>?_;replace h3:=newb h3;try simp only [Nb] at h3
 by_cases hk:p.1.key=key
 ·by_cases ht:tick < p.1.tick
  ·simp only [↓rA,rB,buildOk,nt_is,Int.reduceEq,Int.reduceLE,Int.reduceLT,Int.reduceToNat,Nat.reduceAdd,Nat.reduceEqDiff,Nat.reduceLT,Nat.reduceLeDiff,Nat.reduceMul,Nat.reduceSub,reduceCtorEq,tbH11,Tryz.results21,h3,hb,hk,ht]
   exact⟨_,[_,_],[],Le.refl _,List.Sublist.cons _ (List.Sublist.refl _),List.nil_sublist _,by simp [selB,hk,ht],rfl,rfl⟩
  ·simp only [↓rA,rB,buildOk,nt_is,Int.reduceEq,Int.reduceLE,Int.reduceLT,Int.reduceToNat,Nat.reduceAdd,Nat.reduceEqDiff,Nat.reduceLT,Nat.reduceLeDiff,Nat.reduceMul,Nat.reduceSub,reduceCtorEq,tbH11,Tryz.results21,h3,hb,hk,ht]
   exact⟨_,[_,_],[],Le.refl _,List.Sublist.cons _ (List.Sublist.refl _),List.nil_sublist _,by simp [selB,hk];omega,rfl,rfl⟩
 ·simp only [↓rA,rB,buildOk,nt_is,Int.reduceEq,Int.reduceLE,Int.reduceLT,Int.reduceToNat,Nat.reduceAdd,Nat.reduceEqDiff,Nat.reduceLT,Nat.reduceLeDiff,Nat.reduceMul,Nat.reduceSub,reduceCtorEq,tbH11,Tryz.results21,h3,hb,hk]
  exact⟨_,[_,_],[],Le.refl _,List.Sublist.cons _ (List.Sublist.refl _),List.nil_sublist _,by simp [selB,hk],rfl,rfl⟩
abbrev fnC (bk bt:Nat):V:=.lit (.func (.func 21) #[] #[.pointer (some ⟨bk,0,none⟩),.pointer (some ⟨bt,0,none⟩)])
def tbH12:=(aI (aI (aI Ty.t22 Ty.t26) (aI Ty.t28 Ty.t3)) (aI (aI Ty.t30 Ty.t4) (aI Ty.t47 Ty.t9)))
theorem indexP_ok (l:List Pk) (key:Str) (tick:Int) (bk bt b c:Nat) (h1:bk ≠ bt∧bt ≠ bk) (h2:b ≠ bk∧bk ≠ b) (h3:b ≠ bt∧bt ≠ b) (rest:List V) (hl:l.length≤1000000) :
  Ok Tryz.prog 52 [.lit (.slice (some ⟨b,0,none⟩) l.length c),fnC bk bt] [(bk,.c [vstr key]),(bt,.c [vint tick]),(b,.c ((l.map cPk).flatten++rest))] fun v bs rs =>
   bs=[(bk,.c [vstr key]),(bt,.c [vint tick]),(b,.c ((l.map cPk).flatten++rest))]∧rs=[]∧((v=vint (-1)∧∀ i (h:i < l.length),outP key tick l[i]=false)∨∃ i,∃ h:i < l.length,v=vint i∧outP key tick l[i]=true∧∀ j (h':j < i),outP key tick (l[j]'(by omega))=false):=by
 have k1:callB Tryz.prog 21=true:=by kernel_rfl
 refine Ok.of_ex Ty.mixed Tryz.func52 rfl (by simp [Tryz.ntmps52]) (by kernel_rfl) fun F w0 I0=>?_
 simp only [↓rA,rB,buildOk,nt_is,Int.reduceEq,Int.reduceLE,Int.reduceLT,Int.reduceToNat,Nat.reduceAdd,Nat.reduceEqDiff,Nat.reduceLT,Nat.reduceLeDiff,Nat.reduceMul,Nat.reduceSub,reduceCtorEq,tbH12,Tryz.results52]
 refine EX_for Ty.mixed (by kernel_rfl) l.length (fun i S=>(∀ j (h:j < l.length),j < i→outP key tick l[j]=false)∧S.boxes=[(bk,.c [vstr key]),(bt,.c [vint tick]),(b,.c ((l.map cPk).flatten++rest))]∧S.rows=[]∧S.σ 0=.lit (.slice (some ⟨b,0,none⟩) l.length c)∧S.σ 1=fnC bk bt∧S.σ 7=vint l.length∧S.σ 8=vint i) ⟨0,?_⟩ (fun i S hi ⟨hf,gb,gr,g0,g1,g7,g8⟩=>?_) (fun S ⟨hf,gb,gr,g0,g1,g7,g8⟩=>?_)
 ·simp only [↓rA,rB,buildOk,nt_is,Int.reduceEq,Int.reduceLE,Int.reduceLT,Int.reduceToNat,Nat.reduceAdd,Nat.reduceEqDiff,Nat.reduceLT,Nat.reduceLeDiff,Nat.reduceMul,Nat.reduceSub,reduceCtorEq,tbH12,Tryz.results52]
  try exact fun j h h'=>absurd h' (Nat.not_lt_zero j)
 ·obtain⟨X,Y,hX,e⟩:=pick_cells l i hi rest
  rw [e] at gb
  have w1:=wrap_id (n:=(i:Int)+1) (by omega) (by omega)
  simp only [↓rA,rB,buildOk,nt_is,Int.reduceEq,Int.reduceLE,Int.reduceLT,Int.reduceToNat,Nat.reduceAdd,Nat.reduceEqDiff,Nat.reduceLT,Nat.reduceLeDiff,Nat.reduceMul,Nat.reduceSub,reduceCtorEq,tbH12,Tryz.results52,gb,gr,g0,g1,g7,g8,h1,h2,h3,Int.ofNat_lt,hi,List.drop_left' hX,k1]
  refine OkF_with [_,_] [_] (List.Perm.refl _) (outP_ok l[i] key tick bk bt h1) ?_
  rintro v bs rs ⟨rfl,rfl,rfl⟩
  cases hx:outP key tick l[i]
  ·simp only [↓rA,rB,buildOk,nt_is,Int.reduceEq,Int.reduceLE,Int.reduceLT,Int.reduceToNat,Nat.reduceAdd,Nat.reduceEqDiff,Nat.reduceLT,Nat.reduceLeDiff,Nat.reduceMul,Nat.reduceSub,reduceCtorEq,tbH12,Tryz.results52,gb,gr,g0,g1,g7,g8,h1,h2,h3,Int.ofNat_lt,hi,w1]
   exact⟨0,fun j h h'=>if h2:j=i then by subst h2;exact hx else hf j h (by omega),by rw [e];rfl,rfl⟩
  ·simp only [↓rA,rB,buildOk,nt_is,Int.reduceEq,Int.reduceLE,Int.reduceLT,Int.reduceToNat,Nat.reduceAdd,Nat.reduceEqDiff,Nat.reduceLT,Nat.reduceLeDiff,Nat.reduceMul,Nat.reduceSub,reduceCtorEq,tbH12,Tryz.results52,gb,gr,g0,g1,g7,g8,h1,h2,h3,Int.ofNat_lt,hi]
   exact⟨_,[_,_,_],[],Le.refl _,List.Sublist.refl _,List.nil_sublist _,by rw [e];rfl,rfl,.inr ⟨i,hi,rfl,hx,fun j h'=>hf j (by omega) h'⟩⟩
 ·simp only [↓rA,rB,buildOk,nt_is,Int.reduceEq,Int.reduceLE,Int.reduceLT,Int.reduceToNat,Nat.reduceAdd,Nat.reduceEqDiff,Nat.reduceLT,Nat.reduceLeDiff,Nat.reduceMul,Nat.reduceSub,reduceCtorEq,tbH12,Tryz.results52,gb,gr,g0,g1,g7,g8,Int.ofNat_lt,Nat.lt_irrefl]
  exact⟨_,[_,_,_],[],Le.refl _,List.Sublist.refl _,List.nil_sublist _,rfl,rfl,.inl ⟨rfl,fun i h=>hf i h h⟩⟩
def tbH13:=(aI (aI (aI Ty.t22 Ty.t26) (aI Ty.t28 Ty.t3)) (aI (aI Ty.t30 Ty.t4) (aI Ty.t47 Ty.t9)))
theorem indexPNil_ok (fv:V):Ok Tryz.prog 52 [nilS,fv] [] fun v bs rs=>v=vint (-1)∧bs=[]∧rs=[]:=by
 refine Ok.of_ex Ty.mixed Tryz.func52 rfl (by simp [Tryz.ntmps52]) (by kernel_rfl) fun F w0 I0=>?_
 simp only [↓rA,rB,buildOk,nt_is,Int.reduceEq,Int.reduceLE,Int.reduceLT,Int.reduceToNat,Nat.reduceAdd,Nat.reduceEqDiff,Nat.reduceLT,Nat.reduceLeDiff,Nat.reduceMul,Nat.reduceSub,reduceCtorEq,tbH13,Tryz.results52]
 refine EX_for Ty.mixed (by kernel_rfl) 0 (fun i S=>S.boxes=[]∧S.rows=[]∧S.σ 0=nilS∧S.σ 7=vint 0∧S.σ 8=vint i) ⟨0,?_⟩ (fun i S hi=>absurd hi (Nat.not_lt_zero i)) (fun S ⟨gb,gr,g0,g7,g8⟩=>?_)
 ·simp only [↓rA,rB,buildOk,nt_is,Int.reduceEq,Int.reduceLE,Int.reduceLT,Int.reduceToNat,Nat.reduceAdd,Nat.reduceEqDiff,Nat.reduceLT,Nat.reduceLeDiff,Nat.reduceMul,Nat.reduceSub,reduceCtorEq,tbH13,Tryz.results52]
 ·simp only [↓rA,rB,buildOk,nt_is,Int.reduceEq,Int.reduceLE,Int.reduceLT,Int.reduceToNat,Nat.reduceAdd,Nat.reduceEqDiff,Nat.reduceLT,Nat.reduceLeDiff,Nat.reduceMul,Nat.reduceSub,reduceCtorEq,tbH13,Tryz.results52,gb,gr,g0,g7,g8]
  exact⟨_,[],[],Le.refl _,List.Sublist.refl _,List.nil_sublist _,rfl,rfl,rfl⟩
def tbH14:=(aI (aI (aI Ty.c52 Ty.t22) (aI Ty.t26 Ty.t28)) (aI (aI Ty.t3 Ty.t30) (aI Ty.t4 (aI Ty.t47 Ty.t9))))
theorem deletePNil_ok (fv:V):OkP Tryz.prog 19 [nilS,fv] nilS:=by
 refine Ok.of_ex Ty.mixed Tryz.func19 rfl (by simp [Tryz.ntmps19]) (by kernel_rfl) fun F w0 I0=>?_
 simp only [↓rA,rB,buildOk,nt_is,Int.reduceEq,Int.reduceLE,Int.reduceLT,Int.reduceToNat,Nat.reduceAdd,Nat.reduceEqDiff,Nat.reduceLT,Nat.reduceLeDiff,Nat.reduceMul,Nat.reduceSub,reduceCtorEq,tbH14,Tryz.results19]
 refine OkF_with [] [] (List.Perm.refl _) (indexPNil_ok fv) ?_
 rintro v bs rs ⟨rfl,rfl,rfl⟩
 simp only [↓rA,rB,buildOk,nt_is,Int.reduceEq,Int.reduceLE,Int.reduceLT,Int.reduceToNat,Nat.reduceAdd,Nat.reduceEqDiff,Nat.reduceLT,Nat.reduceLeDiff,Nat.reduceMul,Nat.reduceSub,reduceCtorEq,tbH14,Tryz.results19,Int.reduceEq]
 exact ret_done rfl
def tbH15:=(aI (aI (aI Ty.c52 Ty.t22) (aI Ty.t26 Ty.t28)) (aI (aI Ty.t3 Ty.t30) (aI Ty.t4 (aI Ty.t47 Ty.t9))))
theorem deleteP_ok (l:List Pk) (key:Str) (tick:Int) (bk bt b c:Nat) (h1:bk ≠ bt∧bt ≠ bk) (h2:b ≠ bk∧bk ≠ b) (h3:b ≠ bt∧bt ≠ b) (rest:List V) (hl:l.length≤1000000) (hc:l.length≤c) :
  Ok Tryz.prog 19 [.lit (.slice (some ⟨b,0,none⟩) l.length c),fnC bk bt] [(bk,.c [vstr key]),(bt,.c [vint tick]),(b,.c ((l.map cPk).flatten++rest))] fun v bs rs =>
   rs=[]∧∃ r',v=.lit (.slice (some ⟨b,0,none⟩) (l.filter (selB key tick)).length c)∧bs=[(b,.c (((l.filter (selB key tick)).map cPk).flatten++r'))]:=by
 have k1:callB Tryz.prog 21=true:=by kernel_rfl
 refine Ok.of_ex Ty.mixed Tryz.func19 rfl (by simp [Tryz.ntmps19]) (by kernel_rfl) fun F w0 I0=>?_
 simp only [↓rA,rB,buildOk,nt_is,Int.reduceEq,Int.reduceLE,Int.reduceLT,Int.reduceToNat,Nat.reduceAdd,Nat.reduceEqDiff,Nat.reduceLT,Nat.reduceLeDiff,Nat.reduceMul,Nat.reduceSub,reduceCtorEq,tbH15,Tryz.results19]
 refine OkF_with [_,_,_] [] (List.Perm.refl _) (indexP_ok l key tick bk bt b c h1 h2 h3 rest hl) ?_
 rintro v bs rs ⟨rfl,rfl,⟨rfl,hno⟩ | ⟨i0,hi0,rfl,hdel,hbef⟩⟩
 ·have hk:l.filter (selB key tick)=l:=sel_none fun p hp=>by
   obtain⟨j,hj,rfl⟩:=List.getElem_of_mem hp
   exact hno j hj
  simp only [↓rA,rB,buildOk,nt_is,Int.reduceEq,Int.reduceLE,Int.reduceLT,Int.reduceToNat,Nat.reduceAdd,Nat.reduceEqDiff,Nat.reduceLT,Nat.reduceLeDiff,Nat.reduceMul,Nat.reduceSub,reduceCtorEq,tbH15,Tryz.results19,h1,h2,h3]
  rw [hk]
  exact⟨_,[_],[],Le.refl _,List.Sublist.cons _ (List.Sublist.cons _ (List.Sublist.refl _)),List.nil_sublist _,rfl,rest,rfl,rfl⟩
 ·have hneg:¬ ((i0:Int)=-1):=by omega
  have hk0:=sel_take_none hi0 hbef
  have hk1:(l.take (i0+1)).filter (selB key tick)=l.take i0:=by rw [sel_take key tick l i0 hi0,hk0,if_pos hdel,List.append_nil]
  simp only [↓rA,rB,buildOk,nt_is,Int.reduceEq,Int.reduceLE,Int.reduceLT,Int.reduceToNat,Nat.reduceAdd,Nat.reduceEqDiff,Nat.reduceLT,Nat.reduceLeDiff,Nat.reduceMul,Nat.reduceSub,reduceCtorEq,tbH15,Tryz.results19,h1,h2,h3,hneg,wrap_id (n:=(i0:Int)+1) (by omega) (by omega)]
  refine EX_forP Ty.mixed (by kernel_rfl) (l.length - (i0+1)) (fun i S=>∃ G:List V,G.length=(i0+1+i - ((l.take (i0+1+i)).filter (selB key tick)).length) * 9∧((l.take (i0+1+i)).filter (selB key tick)).length < i0+1+i∧S.boxes=[(bk,.c [vstr key]),(bt,.c [vint tick]),(b,.c ((((l.take (i0+1+i)).filter (selB key tick)).map cPk).flatten++(G++(((l.drop (i0+1+i)).map cPk).flatten++rest))))]∧S.rows=[]∧S.σ 0=.lit (.slice (some ⟨b,0,none⟩) l.length c)∧S.σ 1=fnC bk bt∧S.σ 5=vint ((l.take (i0+1+i)).filter (selB key tick)).length∧S.σ 6=vint ((i0+1+i:Nat):Int)) ⟨_,_,_,_,List.Sublist.refl _,List.Sublist.refl _,List.Perm.refl _,List.Perm.refl _,?_⟩ (fun i S hi ⟨G,hG,hlt,gb,gr,g0,g1,g5,g6⟩=>?_) (fun S ⟨G,hG,hlt,gb,gr,g0,g1,g5,g6⟩=>?_)
  ·simp only [↓rA,rB,buildOk,nt_is,Int.reduceEq,Int.reduceLE,Int.reduceLT,Int.reduceToNat,Nat.reduceAdd,Nat.reduceEqDiff,Nat.reduceLT,Nat.reduceLeDiff,Nat.reduceMul,Nat.reduceSub,reduceCtorEq,tbH15,Tryz.results19,h1,h2,h3]
   refine⟨cPk l[i0],?_,?_,?_,?_,rfl⟩
   ·rw [hk1,List.length_take,Nat.min_eq_left (by omega),Nat.add_sub_cancel_left]
    rfl
   ·rw [hk1,List.length_take];omega
   ·rw [hk1]
    conv=>lhs;rw [← List.take_append_drop i0 l,List.drop_eq_getElem_cons hi0]
    simp only [List.map_append,List.map_cons,List.flatten_append,List.flatten_cons,List.append_assoc]
   ·rw [hk1,List.length_take,Nat.min_eq_left (by omega)]
  ·generalize hj:i0+1+i=j at hG hlt gb g5 g6
   have hjl:j < l.length:=by omega
   have hkt:=sel_take key tick l j hjl
   generalize hK:(l.take j).filter (selB key tick)=K at hG hlt gb g5 hkt
   obtain⟨X,Y,hX,e,eX,eY⟩:=del_cellsP K l G j hjl rest
   have hX2:X.length=j * 9:=by rw [hX,hG];omega
   rw [e] at gb
   simp only [↓rA,rB,buildOk,nt_is,Int.reduceEq,Int.reduceLE,Int.reduceLT,Int.reduceToNat,Nat.reduceAdd,Nat.reduceEqDiff,Nat.reduceLT,Nat.reduceLeDiff,Nat.reduceMul,Nat.reduceSub,reduceCtorEq,tbH15,Tryz.results19,gb,gr,g0,g1,g5,g6,h1,h2,h3,Int.ofNat_lt,hjl,List.drop_left' hX2,k1]
   refine fun b7 h7=>?_;replace h7:=newb h7;try simp only [Nb] at h7
   simp only [↓rA,rB,buildOk,nt_is,Int.reduceEq,Int.reduceLE,Int.reduceLT,Int.reduceToNat,Nat.reduceAdd,Nat.reduceEqDiff,Nat.reduceLT,Nat.reduceLeDiff,Nat.reduceMul,Nat.reduceSub,reduceCtorEq,tbH15,Tryz.results19,gb,gr,g0,g1,g5,g6,h1,h2,h3,Int.ofNat_lt,hjl,List.drop_left' hX2,h7,k1]
   refine OkF_with [(bk,.c [vstr key]),(bt,.c [vint tick])] [_,_] (pm3 _ _ _ _) (outP_ok l[j] key tick bk bt h1) ?_
   rintro v bs rs ⟨rfl,rfl,rfl⟩
   have hw1:=wrap_id (n:=(j:Int)+1) (by omega) (by omega)
   cases hx:outP key tick l[j]
   ·have hw2:=wrap_id (n:=(K.length:Int)+1) (by omega) (by omega)
    rw [if_neg (by rw [hx];decide)] at hkt
    subst eX
    have hG8:9≤G.length:=by omega
    simp only [↓rA,rB,buildOk,nt_is,Int.reduceEq,Int.reduceLE,Int.reduceLT,Int.reduceToNat,Nat.reduceAdd,Nat.reduceEqDiff,Nat.reduceLT,Nat.reduceLeDiff,Nat.reduceMul,Nat.reduceSub,reduceCtorEq,tbH15,Tryz.results19,gr,g0,g1,g5,g6,h1,h2,h3,Int.ofNat_lt,hjl,List.drop_left' hX2,h7,hw1,hw2]
    refine⟨by omega,?_,?_⟩
    ·simp only [List.length_append,List.length_cons]
     rw [cells_lenP]
     omega
    refine⟨[_,_,_],[],[_,_,_],[],List.Sublist.cons_cons _ (List.Sublist.cons_cons _ (List.Sublist.cons _ (List.Sublist.refl _))),List.nil_sublist _,List.Perm.refl _,List.Perm.refl _,?_⟩
    simp only [↓rA,rB,buildOk,nt_is,Int.reduceEq,Int.reduceLE,Int.reduceLT,Int.reduceToNat,Nat.reduceAdd,Nat.reduceEqDiff,Nat.reduceLT,Nat.reduceLeDiff,Nat.reduceMul,Nat.reduceSub,reduceCtorEq,tbH15,Tryz.results19,gr,g0,g1,g5,g6,h1,h2,h3,Int.ofNat_lt,hjl,List.drop_left' hX2,h7,hw1,hw2]
    have hj1:i0+1+(i+1)=j+1:=by omega
    rw [hj1,hkt]
    refine⟨G.drop 9++cPk l[j],?_,?_,?_,?_,?_⟩
    ·rw [List.length_append,List.length_append,List.length_drop,hG]
     show _+9=(j+1 - (K.length+1)) * 9
     omega
    ·rw [List.length_append]
     show K.length+1 < _
     omega
    ·refine congrArg (fun c=>[(bk,B.c [vstr key]),(bt,B.c [vint tick]),(b,B.c c)]) ((put_cells9 _ G (cPk l[j]++Y) (cPk l[j]) (cells_lenP K) hG8).trans ?_)
     subst eY
     simp only [List.map_append,List.map_cons,List.map_nil,List.flatten_append,List.flatten_cons,List.flatten_nil,List.append_nil,List.append_assoc]
    ·rw [List.length_append]
     rfl
    ·rfl
   ·rw [if_pos hx,List.append_nil] at hkt
    simp only [↓rA,rB,buildOk,nt_is,Int.reduceEq,Int.reduceLE,Int.reduceLT,Int.reduceToNat,Nat.reduceAdd,Nat.reduceEqDiff,Nat.reduceLT,Nat.reduceLeDiff,Nat.reduceMul,Nat.reduceSub,reduceCtorEq,tbH15,Tryz.results19,gr,g0,g1,g5,g6,h1,h2,h3,Int.ofNat_lt,hjl,List.drop_left' hX2,h7,hw1]
    refine⟨[_,_,_],[],[_,_,_],[],List.Sublist.cons_cons _ (List.Sublist.cons_cons _ (List.Sublist.cons _ (List.Sublist.refl _))),List.nil_sublist _,List.Perm.refl _,List.Perm.refl _,?_⟩
    simp only [↓rA,rB,buildOk,nt_is,Int.reduceEq,Int.reduceLE,Int.reduceLT,Int.reduceToNat,Nat.reduceAdd,Nat.reduceEqDiff,Nat.reduceLT,Nat.reduceLeDiff,Nat.reduceMul,Nat.reduceSub,reduceCtorEq,tbH15,Tryz.results19,gr,g0,g1,g5,g6,h1,h2,h3,Int.ofNat_lt,hjl,List.drop_left' hX2,h7,hw1]
    have hj1:i0+1+(i+1)=j+1:=by omega
    rw [hj1,hkt]
    refine⟨G++cPk l[j],?_,by omega,?_,rfl,?_⟩
    ·rw [List.length_append,hG]
     show _+9=_
     omega
    ·subst eX eY
     simp only [List.append_assoc]
     rfl
    ·simp only [vint,Int.natCast_add,Int.cast_ofNat_Int]
  ·have hn:i0+1+(l.length - (i0+1))=l.length:=by omega
   rw [hn] at hG hlt gb g5 g6
   rw [List.take_of_length_le (Nat.le_refl _)] at hG hlt gb g5
   rw [List.drop_eq_nil_of_le (Nat.le_refl _)] at gb
   generalize hK:l.filter (selB key tick)=K at hG hlt gb g5
   simp only [↓rA,rB,buildOk,nt_is,Int.reduceEq,Int.reduceLE,Int.reduceLT,Int.reduceToNat,Nat.reduceAdd,Nat.reduceEqDiff,Nat.reduceLT,Nat.reduceLeDiff,Nat.reduceMul,Nat.reduceSub,reduceCtorEq,tbH15,Tryz.results19,gb,gr,g0,g1,g5,g6,h1,h2,h3,Int.ofNat_lt,Nat.lt_irrefl]
   refine⟨by omega,hc,⟨fun h=>absurd h (by omega),fun h=>?_⟩⟩
   simp only [↓rA,rB,buildOk,nt_is,Int.reduceEq,Int.reduceLE,Int.reduceLT,Int.reduceToNat,Nat.reduceAdd,Nat.reduceEqDiff,Nat.reduceLT,Nat.reduceLeDiff,Nat.reduceMul,Nat.reduceSub,reduceCtorEq,tbH15,Tryz.results19,gb,gr,g0,g1,g5,g6,h1,h2,h3]
   rw [if_neg (by omega)]
   refine⟨?_,by omega,?_⟩
   ·simp only [List.length_append,cells_lenP,hG]
    omega
   exact⟨_,[_],[],Le.refl _,List.Sublist.cons _ (List.Sublist.cons _ (List.Sublist.refl _)),List.nil_sublist _,rfl,_,by rw [ite_self],by rw [List.take_left' (cells_lenP K),List.append_assoc]⟩
def tbH16:=(aI (aI (aI (aI Ty.c19 Ty.c20) (aI Ty.c21 (aI Ty.c9 Ty.t117))) (aI (aI Ty.t22 Ty.t26) (aI Ty.t28 (aI Ty.t3 Ty.t30)))) (aI (aI (aI Ty.t31 Ty.t47) (aI Ty.t49 (aI Ty.t51 Ty.t52))) (aI (aI Ty.t53 Ty.t55) (aI Ty.t57 (aI Ty.t65 Ty.t9)))))
theorem cells_ok (op:Str) (ps:List Pk) (key:Str) (tick:Int) (h0:¬ fam op=0) (hp:∀ p ∈ ps,inW p.2∧inW p.1.val.n) (hl:ps.length≤10000):OkP Tryz.prog 8 [vstr op,vPks ps,vstr key,vint tick] (vCls (cellsM (fam op) ps key tick)):=by
 have hu:=update_ok op [] (ps.filter (selB key tick)) h0 (GoodC.nil _ _) (fun p hp'=>hp p (List.mem_filter.1 hp').1) (Nat.le_trans (List.length_filter_le _ _) hl)
 refine Ok.of_ex Ty.mixed Tryz.func8 rfl (by simp [Tryz.ntmps8]) (by kernel_rfl) fun F w0 I0=>?_
 simp only [↓rA,rB,buildOk,nt_is,Int.reduceEq,Int.reduceLE,Int.reduceLT,Int.reduceToNat,Nat.reduceAdd,Nat.reduceEqDiff,Nat.reduceLT,Nat.reduceLeDiff,Nat.reduceMul,Nat.reduceSub,reduceCtorEq,tbH16,Tryz.results8]
 refine fun b6 h6=>?_;replace h6:=newb h6;try simp only [Nb] at h6
 simp only [↓rA,rB,buildOk,nt_is,Int.reduceEq,Int.reduceLE,Int.reduceLT,Int.reduceToNat,Nat.reduceAdd,Nat.reduceEqDiff,Nat.reduceLT,Nat.reduceLeDiff,Nat.reduceMul,Nat.reduceSub,reduceCtorEq,tbH16,Tryz.results8,h6]
 refine fun b7 h7=>?_;replace h7:=newb h7;try simp only [Nb] at h7
 simp only [↓rA,rB,buildOk,nt_is,Int.reduceEq,Int.reduceLE,Int.reduceLT,Int.reduceToNat,Nat.reduceAdd,Nat.reduceEqDiff,Nat.reduceLT,Nat.reduceLeDiff,Nat.reduceMul,Nat.reduceSub,reduceCtorEq,tbH16,Tryz.results8,h6,h7]
 refine OkF_withN [] [_,_] (List.Perm.refl _) (cloneP_ok ps (by omega)) ?_
 rintro v bs rs ⟨rfl,⟨rfl,rfl,rfl⟩ | ⟨b,c,hlc,rfl,rfl⟩⟩ hN
 ·simp only [↓rA,rB,buildOk,nt_is,Int.reduceEq,Int.reduceLE,Int.reduceLT,Int.reduceToNat,Nat.reduceAdd,Nat.reduceEqDiff,Nat.reduceLT,Nat.reduceLeDiff,Nat.reduceMul,Nat.reduceSub,reduceCtorEq,tbH16,Tryz.results8,h6,h7]
  refine OkF_of _ (deletePNil_ok _) ?_
  simp only [↓rA,rB,buildOk,nt_is,Int.reduceEq,Int.reduceLE,Int.reduceLT,Int.reduceToNat,Nat.reduceAdd,Nat.reduceEqDiff,Nat.reduceLT,Nat.reduceLeDiff,Nat.reduceMul,Nat.reduceSub,reduceCtorEq,tbH16,Tryz.results8,h6,h7]
  refine OkF_le (.cons (Le.refl _) (.cons (Le.nil 6) (.cons (Le.nil 9) .nil))) _ hu ?_
  simp only [↓rA,rB,buildOk,nt_is,Int.reduceEq,Int.reduceLE,Int.reduceLT,Int.reduceToNat,Nat.reduceAdd,Nat.reduceEqDiff,Nat.reduceLT,Nat.reduceLeDiff,Nat.reduceMul,Nat.reduceSub,reduceCtorEq,tbH16,Tryz.results8]
  exact ret_done rfl
 ·simp only [List.cons_append,List.nil_append,List.map_cons,List.map_nil,List.nodup_cons,List.mem_cons,List.not_mem_nil,or_false,not_or,List.nodup_nil,not_false_eq_true,and_true] at hN
  simp only [↓rA,rB,buildOk,nt_is,Int.reduceEq,Int.reduceLE,Int.reduceLT,Int.reduceToNat,Nat.reduceAdd,Nat.reduceEqDiff,Nat.reduceLT,Nat.reduceLeDiff,Nat.reduceMul,Nat.reduceSub,reduceCtorEq,tbH16,Tryz.results8,h6,h7]
  refine OkF_with [_,_,_] [] (pmr _ _ _) (deleteP_ok ps key tick b6 b7 b c (by simp only [Dum,and_true] at h7;exact h7) ⟨hN.1.2,fun e=>hN.1.2 e.symm⟩ ⟨hN.1.1,fun e=>hN.1.1 e.symm⟩ _ (by omega) hlc) ?_
  rintro v bs rs ⟨rfl,r',rfl,rfl⟩
  simp only [↓rA,rB,buildOk,nt_is,Int.reduceEq,Int.reduceLE,Int.reduceLT,Int.reduceToNat,Nat.reduceAdd,Nat.reduceEqDiff,Nat.reduceLT,Nat.reduceLeDiff,Nat.reduceMul,Nat.reduceSub,reduceCtorEq,tbH16,Tryz.results8]
  have hcap:(ps.filter (selB key tick)).length≤c:=Nat.le_trans (List.length_filter_le _ _) hlc
  have hcm:cellsM (fam op) ps key tick=updM (fam op) [] (ps.filter (selB key tick)):=rfl
  rw [hcm]
  generalize ps.filter (selB key tick)=fl at hu hcap ⊢
  refine OkF_with [_] [] (List.Perm.refl _) (Ok.consume (n:=fl.length) (c:=c) (k:=9) (es:=fl.map cPk) ⟨List.take_left' (cells_lenP fl),fun e he=>by obtain⟨x,_,rfl⟩:=List.mem_map.1 he;rfl,by simp,hcap⟩ (.cons (.same _) (.cons (.same _) (.cons .here .nil))) (Ok.le (.cons (Le.refl _) (.cons (Le.nil 6) (.cons (Le.list _ _ _) .nil))) hu)) ?_
  rintro v bs rs ⟨rfl,rfl,rfl⟩
  simp only [↓rA,rB,buildOk,nt_is,Int.reduceEq,Int.reduceLE,Int.reduceLT,Int.reduceToNat,Nat.reduceAdd,Nat.reduceEqDiff,Nat.reduceLT,Nat.reduceLeDiff,Nat.reduceMul,Nat.reduceSub,reduceCtorEq,tbH16,Tryz.results8]
  exact ret_done rfl
end Go.Proofs.YtjdggbanifineaaGreat
namespace Go.Lo
open Go.VL Go.Ar
structure Fac where
 name:Str
 exp:Int
 deriving DecidableEq
structure Hd where
 kind:Int
 op:Str
 name:Str
 table:Str
 val:Val
 unit:List Fac
 param:Int
 wk:Int
 ws:Int
 deriving DecidableEq
inductive E where
 | mk (h:Hd) (args:List E)
def E.hd:E→Hd
 | .mk h _=>h
def E.args:E→List E
 | .mk _ l=>l
theorem E.ext' {x y:E} (h:x.hd=y.hd) (h':x.args=y.args):x=y:=by cases x;cases y;simp_all [E.hd,E.args]
noncomputable instance:DecidableEq E:=fun a b=>Classical.propDecidable (a=b)
abbrev es0:Str:=⟨#[]⟩
structure Nd where
 kind:Int
 table:Str
 expr:E
 op:Str
 param:Int
 wk:Int
 ws:Int
 val:Val
 name:Str
 inn:List Int
noncomputable instance:DecidableEq Nd:=fun a b=>Classical.propDecidable (a=b)
end Go.Lo
set_option linter.unusedSimpArgs false
set_option maxRecDepth 100000
namespace Go.Lo
open Go.VL Go.Ar
structure Typ where
 kind:Int
 unit:List Fac
 of:Str
 deriving DecidableEq
structure Fld where
 name:Str
 typ:Typ
 deriving DecidableEq
structure Tab where
 name:Str
 entity:Str
 fields:List Fld
 keep:Int
 deriving DecidableEq
structure Ftr where
 name:Str
 entity:Str
 typ:Typ
 body:E
 version:Int
structure Cat where
 tables:List Tab
 features:List Ftr
 drafts:List Ftr
 past:List Ftr
noncomputable instance:DecidableEq Ftr:=fun a b=>Classical.propDecidable (a=b)
noncomputable instance:DecidableEq Cat:=fun a b=>Classical.propDecidable (a=b)
end Go.Lo
namespace Go.Proofs.YtjdggbanifineaaGreat
open Go.VL Go.Ar Go.Lo Go.Proofs.YtjdggbanifineaaGreat
theorem all_take {α:Type} {p:α→Bool} {l:List α} {i:Nat} (h:i < l.length):(l.take (i+1)).all p=((l.take i).all p && p l[i]):=by
 rw [List.take_succ_eq_append_getElem h,List.all_append];simp
theorem all_fail {α:Type} {p:α→Bool} {l:List α} {i:Nat} (h:i < l.length) (hp:p l[i]=false):l.all p=false:=by
 rw [List.all_eq_false]
 exact⟨l[i],List.getElem_mem h,by rw [hp];decide⟩
theorem getD_str (s:Str) (i:Nat) (h:i < s.size):s.data.toList.getD i 0=s.data.toList[i]'(by simpa using h):=by
 have h':i < s.data.toList.length:=by simpa using h
 rw [List.getD_eq_getElem?_getD,List.getElem?_eq_getElem h',Option.getD_some]
def okCh (low:Int) (c:UInt8):Bool:=if (c.toNat:Int) < low then false else if (126:Int) < c.toNat then false else if (c.toNat:Int)=34 then false else decide (¬ (c.toNat:Int)=92)
def valC (v:Val):Int :=
 if v.kind < 0 then 1 else if 5 < v.kind then 1 else if ¬ v.kind=4∧¬ v.kind=5∧¬ v.s=es0 then 1
 else if ¬ v.kind=2∧¬ v.kind=3∧¬ v.n=0∧(¬ v.kind=1∨¬ v.n=1) then 1
 else if v.n < -1152921504606846976 then 2 else if 1152921504606846976 < v.n then 2
 else if ¬ v.kind=4∧¬ v.kind=5 then 0
 else if v.kind=5 then (if 32 < v.s.size then 2 else if v.s=es0 then 3 else if v.s.data.toList.all (okCh 33)=true then 0 else 3)
 else if 64 < v.s.size then 2 else if v.s.data.toList.all (okCh 32)=true then 0 else 3
def big:Nat:=1099511627776
inductive Fit:E→Prop
 | mk (h:Hd) (l:List E) (hu:h.unit.length≤big) (hl:l.length≤big) (ha:∀ x ∈ l,Fit x):Fit (.mk h l)
theorem Fit.unit {x:E} (h:Fit x):x.hd.unit.length≤big:=by cases h;assumption
theorem Fit.len {x:E} (h:Fit x):x.args.length≤big:=by cases h;assumption
theorem Fit.args {x:E} (h:Fit x):∀ y ∈ x.args,Fit y:=by cases h;assumption
abbrev sQuant:Str:=⟨#[113,117,97,110,116,105,108,101]⟩
abbrev sDecay:Str:=⟨#[100,101,99,97,121]⟩
abbrev sCount:Str:=⟨#[99,111,117,110,116]⟩
end Go.Proofs.YtjdggbanifineaaGreat
set_option linter.unusedSimpArgs false
set_option maxRecDepth 100000
namespace Go.Lo
open Go.VL Go.Ar
end Go.Lo
namespace Go.Proofs.YtjdggbanifineaaGreat.Arr
open Go.VL Go.Ar Go.Lo Go.Proofs.YtjdggbanifineaaGreat Go.Proofs.YtjdggbanifineaaGreat.Arr
end Go.Proofs.YtjdggbanifineaaGreat.Arr
set_option linter.unusedSimpArgs false
set_option maxRecDepth 100000
set_option linter.defProp false
namespace Go.Proofs.YtjdggbanifineaaGreat.Arr
open Go.VL Go.Ar Go.Lo Go.Proofs.YtjdggbanifineaaGreat Go.Proofs.YtjdggbanifineaaGreat.Arr
def tbO80:=(aI (aI Ty.t3 Ty.t4) (aI Ty.t5 Ty.t9))
theorem printable32_ok (s:Str) (hs:s.size≤64):OkP Tryz.prog 73 [vstr s,.lit (.int .u8 32)] (vbool (s.data.toList.all (okCh 32))):=by
 have fb:∀ {a b:Bool},a=b→V.lit (.bool a)=vbool b:=fun h=>by rw [h]
 refine Ok.of_ex Ty.mixed Tryz.func73 rfl (by simp [Tryz.ntmps73]) (by kernel_rfl) fun F w0 I0=>?_
 simp only [↓rA,rB,buildOk,nt_is,Int.reduceEq,Int.reduceLE,Int.reduceLT,Int.reduceToNat,Nat.reduceAdd,Nat.reduceEqDiff,Nat.reduceLT,Nat.reduceLeDiff,Nat.reduceMul,Nat.reduceSub,reduceCtorEq,tbO80,Tryz.results73]
 refine EX_for Ty.mixed (by kernel_rfl) s.size (fun i S=>(s.data.toList.take i).all (okCh 32)=true∧S.boxes=[]∧S.rows=[]∧S.σ 0=vstr s∧S.σ 1=.lit (.int .u8 32)∧S.σ 5=vint i) ⟨0,?_⟩ (fun i S hi ⟨hf,gb,gr,g0,g1,g5⟩=>?_) (fun S ⟨hf,gb,gr,g0,g1,g5⟩=>?_)
 ·simp only [↓rA,rB,buildOk,nt_is,Int.reduceEq,Int.reduceLE,Int.reduceLT,Int.reduceToNat,Nat.reduceAdd,Nat.reduceEqDiff,Nat.reduceLT,Nat.reduceLeDiff,Nat.reduceMul,Nat.reduceSub,reduceCtorEq,tbO80,Tryz.results73]
  try exact rfl
 ·have hl:i < s.data.toList.length:=by simpa using hi
  have ht:=all_take (p:=okCh 32) hl
  have hb:=all_fail (p:=okCh 32) hl
  rw [← getD_str s i hi] at ht hb
  generalize hcd:s.data.toList.getD i 0=c at ht hb
  have hwi:=wrap_succ (i:=i) (N:=s.size) hi (by omega)
  have cs:(c.toNat:Int) < 32∨(¬ (c.toNat:Int) < 32∧(126:Int) < c.toNat)∨(¬ (c.toNat:Int) < 32∧¬ (126:Int) < c.toNat∧(c.toNat:Int)=34)∨(¬ (c.toNat:Int) < 32∧¬ (126:Int) < c.toNat∧¬ (c.toNat:Int)=34∧(c.toNat:Int)=92)∨(¬ (c.toNat:Int) < 32∧¬ (126:Int) < c.toNat∧¬ (c.toNat:Int)=34∧¬ (c.toNat:Int)=92):=by omega
  rcases cs with cs | cs | cs | cs | cs <;>
  first
  | (
    have hc:okCh 32 c=false:=by simp [okCh,cs]
    simp only [↓rA,rB,buildOk,nt_is,Int.reduceEq,Int.reduceLE,Int.reduceLT,Int.reduceToNat,Nat.reduceAdd,Nat.reduceEqDiff,Nat.reduceLT,Nat.reduceLeDiff,Nat.reduceMul,Nat.reduceSub,reduceCtorEq,tbO80,Tryz.results73,gb,gr,g0,g1,g5,Int.ofNat_lt,hi,hcd,cs]
    exact ret_done (fb (by rw [hb hc])))
  | (
    have hc:okCh 32 c=true:=by simp [okCh,cs]
    simp only [↓rA,rB,buildOk,nt_is,Int.reduceEq,Int.reduceLE,Int.reduceLT,Int.reduceToNat,Nat.reduceAdd,Nat.reduceEqDiff,Nat.reduceLT,Nat.reduceLeDiff,Nat.reduceMul,Nat.reduceSub,reduceCtorEq,tbO80,Tryz.results73,gb,gr,g0,g1,g5,Int.ofNat_lt,hi,hcd,cs,hwi]
    exact⟨0,by rw [ht,hf,hc];rfl⟩)
 ·simp only [↓rA,rB,buildOk,nt_is,Int.reduceEq,Int.reduceLE,Int.reduceLT,Int.reduceToNat,Nat.reduceAdd,Nat.reduceEqDiff,Nat.reduceLT,Nat.reduceLeDiff,Nat.reduceMul,Nat.reduceSub,reduceCtorEq,tbO80,Tryz.results73,gb,gr,g0,g1,g5,Int.ofNat_lt,Nat.lt_irrefl]
  rw [List.take_of_length_le (by simp)] at hf
  exact ret_done (fb hf.symm)
def tbO81:=(aI (aI Ty.t3 Ty.t4) (aI Ty.t5 Ty.t9))
theorem printable33_ok (s:Str) (hs:s.size≤64):OkP Tryz.prog 73 [vstr s,.lit (.int .u8 33)] (vbool (s.data.toList.all (okCh 33))):=by
 have fb:∀ {a b:Bool},a=b→V.lit (.bool a)=vbool b:=fun h=>by rw [h]
 refine Ok.of_ex Ty.mixed Tryz.func73 rfl (by simp [Tryz.ntmps73]) (by kernel_rfl) fun F w0 I0=>?_
 simp only [↓rA,rB,buildOk,nt_is,Int.reduceEq,Int.reduceLE,Int.reduceLT,Int.reduceToNat,Nat.reduceAdd,Nat.reduceEqDiff,Nat.reduceLT,Nat.reduceLeDiff,Nat.reduceMul,Nat.reduceSub,reduceCtorEq,tbO81,Tryz.results73]
 refine EX_for Ty.mixed (by kernel_rfl) s.size (fun i S=>(s.data.toList.take i).all (okCh 33)=true∧S.boxes=[]∧S.rows=[]∧S.σ 0=vstr s∧S.σ 1=.lit (.int .u8 33)∧S.σ 5=vint i) ⟨0,?_⟩ (fun i S hi ⟨hf,gb,gr,g0,g1,g5⟩=>?_) (fun S ⟨hf,gb,gr,g0,g1,g5⟩=>?_)
 ·simp only [↓rA,rB,buildOk,nt_is,Int.reduceEq,Int.reduceLE,Int.reduceLT,Int.reduceToNat,Nat.reduceAdd,Nat.reduceEqDiff,Nat.reduceLT,Nat.reduceLeDiff,Nat.reduceMul,Nat.reduceSub,reduceCtorEq,tbO81,Tryz.results73]
  try exact rfl
 ·have hl:i < s.data.toList.length:=by simpa using hi
  have ht:=all_take (p:=okCh 33) hl
  have hb:=all_fail (p:=okCh 33) hl
  rw [← getD_str s i hi] at ht hb
  generalize hcd:s.data.toList.getD i 0=c at ht hb
  have hwi:=wrap_succ (i:=i) (N:=s.size) hi (by omega)
  have cs:(c.toNat:Int) < 33∨(¬ (c.toNat:Int) < 33∧(126:Int) < c.toNat)∨(¬ (c.toNat:Int) < 33∧¬ (126:Int) < c.toNat∧(c.toNat:Int)=34)∨(¬ (c.toNat:Int) < 33∧¬ (126:Int) < c.toNat∧¬ (c.toNat:Int)=34∧(c.toNat:Int)=92)∨(¬ (c.toNat:Int) < 33∧¬ (126:Int) < c.toNat∧¬ (c.toNat:Int)=34∧¬ (c.toNat:Int)=92):=by omega
  rcases cs with cs | cs | cs | cs | cs <;>
  first
  | (
    have hc:okCh 33 c=false:=by simp [okCh,cs]
    simp only [↓rA,rB,buildOk,nt_is,Int.reduceEq,Int.reduceLE,Int.reduceLT,Int.reduceToNat,Nat.reduceAdd,Nat.reduceEqDiff,Nat.reduceLT,Nat.reduceLeDiff,Nat.reduceMul,Nat.reduceSub,reduceCtorEq,tbO81,Tryz.results73,gb,gr,g0,g1,g5,Int.ofNat_lt,hi,hcd,cs]
    exact ret_done (fb (by rw [hb hc])))
  | (
    have hc:okCh 33 c=true:=by simp [okCh,cs]
    simp only [↓rA,rB,buildOk,nt_is,Int.reduceEq,Int.reduceLE,Int.reduceLT,Int.reduceToNat,Nat.reduceAdd,Nat.reduceEqDiff,Nat.reduceLT,Nat.reduceLeDiff,Nat.reduceMul,Nat.reduceSub,reduceCtorEq,tbO81,Tryz.results73,gb,gr,g0,g1,g5,Int.ofNat_lt,hi,hcd,cs,hwi]
    exact⟨0,by rw [ht,hf,hc];rfl⟩)
 ·simp only [↓rA,rB,buildOk,nt_is,Int.reduceEq,Int.reduceLE,Int.reduceLT,Int.reduceToNat,Nat.reduceAdd,Nat.reduceEqDiff,Nat.reduceLT,Nat.reduceLeDiff,Nat.reduceMul,Nat.reduceSub,reduceCtorEq,tbO81,Tryz.results73,gb,gr,g0,g1,g5,Int.ofNat_lt,Nat.lt_irrefl]
  rw [List.take_of_length_le (by simp)] at hf
  exact ret_done (fb hf.symm)
def tbO82:=(aI (aI Ty.c73 Ty.t3) (aI Ty.t4 (aI Ty.t5 Ty.t9)))
theorem text_ok (s:Str):OkP Tryz.prog 50 [vstr s] (vbool (decide (s.size≤64) && s.data.toList.all (okCh 32))):=by
 have fb:∀ {a b:Bool},a=b→V.lit (.bool a)=vbool b:=fun h=>by rw [h]
 refine Ok.of_ex Ty.mixed Tryz.func50 rfl (by simp [Tryz.ntmps50]) (by kernel_rfl) fun F w0 I0=>?_
 by_cases h:s.size≤64
 ·have h':(s.size:Int)≤64:=by omega
  simp only [↓rA,rB,buildOk,nt_is,Int.reduceEq,Int.reduceLE,Int.reduceLT,Int.reduceToNat,Nat.reduceAdd,Nat.reduceEqDiff,Nat.reduceLT,Nat.reduceLeDiff,Nat.reduceMul,Nat.reduceSub,reduceCtorEq,tbO82,Tryz.results50,h']
  refine OkF_of _ (printable32_ok s h) ?_
  simp only [↓rA,rB,buildOk,nt_is,Int.reduceEq,Int.reduceLE,Int.reduceLT,Int.reduceToNat,Nat.reduceAdd,Nat.reduceEqDiff,Nat.reduceLT,Nat.reduceLeDiff,Nat.reduceMul,Nat.reduceSub,reduceCtorEq,tbO82,Tryz.results50]
  exact ret_done (fb (by simp [h]))
 ·have h':¬ (s.size:Int)≤64:=by omega
  simp only [↓rA,rB,buildOk,nt_is,Int.reduceEq,Int.reduceLE,Int.reduceLT,Int.reduceToNat,Nat.reduceAdd,Nat.reduceEqDiff,Nat.reduceLT,Nat.reduceLeDiff,Nat.reduceMul,Nat.reduceSub,reduceCtorEq,tbO82,Tryz.results50,h']
  exact ret_done (fb (by simp [h]))
def tbO83:=(aI (aI Ty.c73 Ty.t3) (aI Ty.t4 (aI Ty.t5 Ty.t9)))
theorem key_ok (s:Str):OkP Tryz.prog 51 [vstr s] (vbool (!decide (s=es0) && (decide (s.size≤32) && s.data.toList.all (okCh 33)))):=by
 have fb:∀ {a b:Bool},a=b→V.lit (.bool a)=vbool b:=fun h=>by rw [h]
 refine Ok.of_ex Ty.mixed Tryz.func51 rfl (by simp [Tryz.ntmps51]) (by kernel_rfl) fun F w0 I0=>?_
 by_cases e:s=es0
 ·subst e
  simp only [↓rA,rB,buildOk,nt_is,Int.reduceEq,Int.reduceLE,Int.reduceLT,Int.reduceToNat,Nat.reduceAdd,Nat.reduceEqDiff,Nat.reduceLT,Nat.reduceLeDiff,Nat.reduceMul,Nat.reduceSub,reduceCtorEq,tbO83,Tryz.results51]
  exact ret_done (fb (by simp))
 by_cases h:s.size≤32
 ·have h':(s.size:Int)≤32:=by omega
  simp only [↓rA,rB,buildOk,nt_is,Int.reduceEq,Int.reduceLE,Int.reduceLT,Int.reduceToNat,Nat.reduceAdd,Nat.reduceEqDiff,Nat.reduceLT,Nat.reduceLeDiff,Nat.reduceMul,Nat.reduceSub,reduceCtorEq,tbO83,Tryz.results51,e,h']
  refine OkF_of _ (printable33_ok s (by omega)) ?_
  simp only [↓rA,rB,buildOk,nt_is,Int.reduceEq,Int.reduceLE,Int.reduceLT,Int.reduceToNat,Nat.reduceAdd,Nat.reduceEqDiff,Nat.reduceLT,Nat.reduceLeDiff,Nat.reduceMul,Nat.reduceSub,reduceCtorEq,tbO83,Tryz.results51]
  exact ret_done (fb (by simp [e,h]))
 ·have h':¬ (s.size:Int)≤32:=by omega
  simp only [↓rA,rB,buildOk,nt_is,Int.reduceEq,Int.reduceLE,Int.reduceLT,Int.reduceToNat,Nat.reduceAdd,Nat.reduceEqDiff,Nat.reduceLT,Nat.reduceLeDiff,Nat.reduceMul,Nat.reduceSub,reduceCtorEq,tbO83,Tryz.results51,e,h']
  exact ret_done (fb (by simp [e,h]))
def rngB (n:Int):Bool:=decide (-1152921504606846976≤n) && decide (n≤1152921504606846976)
def tbO84:=(aI Ty.t3 Ty.t4)
theorem inRange_ok (n:Int):OkP Tryz.prog 49 [vint n] (vbool (rngB n)):=by
 have fb:∀ {a b:Bool},a=b→V.lit (.bool a)=vbool b:=fun h=>by rw [h]
 refine Ok.of_ex Ty.mixed Tryz.func49 rfl (by simp [Tryz.ntmps49]) (by kernel_rfl) fun F w0 I0=>?_
 by_cases h:(-1152921504606846976:Int)≤n
 ·simp only [↓rA,rB,buildOk,nt_is,Int.reduceEq,Int.reduceLE,Int.reduceLT,Int.reduceToNat,Nat.reduceAdd,Nat.reduceEqDiff,Nat.reduceLT,Nat.reduceLeDiff,Nat.reduceMul,Nat.reduceSub,reduceCtorEq,tbO84,Tryz.results49,h]
  exact ret_done (fb (by simp [rngB,h]))
 ·simp only [↓rA,rB,buildOk,nt_is,Int.reduceEq,Int.reduceLE,Int.reduceLT,Int.reduceToNat,Nat.reduceAdd,Nat.reduceEqDiff,Nat.reduceLT,Nat.reduceLeDiff,Nat.reduceMul,Nat.reduceSub,reduceCtorEq,tbO84,Tryz.results49,h]
  exact ret_done (fb (by simp [rngB,h]))
def fldB (v:Val):Bool :=
 if v.kind=0 then decide (v.n=0) && decide (v.s=es0) else if v.kind=1 then (decide (v.n=0) || decide (v.n=1)) && decide (v.s=es0)
 else if v.kind=2∨v.kind=3 then decide (v.s=es0) else if v.kind=4∨v.kind=5 then decide (v.n=0) else false
def tbO85:=(aI (aI Ty.t28 Ty.t3) (aI Ty.t4 Ty.t9))
theorem fields_ok (v:Val):OkP Tryz.prog 48 [.agg (cVal v)] (vbool (fldB v)):=by
 have fb:∀ {a b:Bool},a=b→V.lit (.bool a)=vbool b:=fun h=>by rw [h]
 obtain⟨k,n,s⟩:=v
 refine Ok.of_ex Ty.mixed Tryz.func48 rfl (by simp [Tryz.ntmps48]) (by kernel_rfl) fun F w0 I0=>?_
 simp only [↓rA,rB,buildOk,nt_is,Int.reduceEq,Int.reduceLE,Int.reduceLT,Int.reduceToNat,Nat.reduceAdd,Nat.reduceEqDiff,Nat.reduceLT,Nat.reduceLeDiff,Nat.reduceMul,Nat.reduceSub,reduceCtorEq,tbO85,Tryz.results48]
 refine fun b1 h1=>?_;replace h1:=newb h1;try simp only [Nb] at h1
 by_cases k0:k=0
 ·subst k0
  by_cases e:n=0
  ·simp only [↓rA,rB,buildOk,nt_is,Int.reduceEq,Int.reduceLE,Int.reduceLT,Int.reduceToNat,Nat.reduceAdd,Nat.reduceEqDiff,Nat.reduceLT,Nat.reduceLeDiff,Nat.reduceMul,Nat.reduceSub,reduceCtorEq,tbO85,Tryz.results48,h1,e]
   exact ret_done (fb (by simp [fldB,e]))
  ·simp only [↓rA,rB,buildOk,nt_is,Int.reduceEq,Int.reduceLE,Int.reduceLT,Int.reduceToNat,Nat.reduceAdd,Nat.reduceEqDiff,Nat.reduceLT,Nat.reduceLeDiff,Nat.reduceMul,Nat.reduceSub,reduceCtorEq,tbO85,Tryz.results48,h1,e]
   exact ret_done (fb (by simp [fldB,e]))
 by_cases k1:k=1
 ·subst k1
  by_cases e:n=0
  ·simp only [↓rA,rB,buildOk,nt_is,Int.reduceEq,Int.reduceLE,Int.reduceLT,Int.reduceToNat,Nat.reduceAdd,Nat.reduceEqDiff,Nat.reduceLT,Nat.reduceLeDiff,Nat.reduceMul,Nat.reduceSub,reduceCtorEq,tbO85,Tryz.results48,h1,e]
   exact ret_done (fb (by simp [fldB,e]))
  ·by_cases e1:n=1
   ·simp only [↓rA,rB,buildOk,nt_is,Int.reduceEq,Int.reduceLE,Int.reduceLT,Int.reduceToNat,Nat.reduceAdd,Nat.reduceEqDiff,Nat.reduceLT,Nat.reduceLeDiff,Nat.reduceMul,Nat.reduceSub,reduceCtorEq,tbO85,Tryz.results48,h1,e1]
    exact ret_done (fb (by simp [fldB,e1]))
   ·simp only [↓rA,rB,buildOk,nt_is,Int.reduceEq,Int.reduceLE,Int.reduceLT,Int.reduceToNat,Nat.reduceAdd,Nat.reduceEqDiff,Nat.reduceLT,Nat.reduceLeDiff,Nat.reduceMul,Nat.reduceSub,reduceCtorEq,tbO85,Tryz.results48,h1,e,e1]
    exact ret_done (fb (by simp [fldB,e,e1]))
 by_cases k2:k=2
 ·subst k2
  simp only [↓rA,rB,buildOk,nt_is,Int.reduceEq,Int.reduceLE,Int.reduceLT,Int.reduceToNat,Nat.reduceAdd,Nat.reduceEqDiff,Nat.reduceLT,Nat.reduceLeDiff,Nat.reduceMul,Nat.reduceSub,reduceCtorEq,tbO85,Tryz.results48,h1]
  exact ret_done (fb (by simp [fldB]))
 by_cases k3:k=3
 ·subst k3
  simp only [↓rA,rB,buildOk,nt_is,Int.reduceEq,Int.reduceLE,Int.reduceLT,Int.reduceToNat,Nat.reduceAdd,Nat.reduceEqDiff,Nat.reduceLT,Nat.reduceLeDiff,Nat.reduceMul,Nat.reduceSub,reduceCtorEq,tbO85,Tryz.results48,h1]
  exact ret_done (fb (by simp [fldB]))
 by_cases k4:k=4
 ·subst k4
  simp only [↓rA,rB,buildOk,nt_is,Int.reduceEq,Int.reduceLE,Int.reduceLT,Int.reduceToNat,Nat.reduceAdd,Nat.reduceEqDiff,Nat.reduceLT,Nat.reduceLeDiff,Nat.reduceMul,Nat.reduceSub,reduceCtorEq,tbO85,Tryz.results48,h1]
  exact ret_done (fb (by simp [fldB]))
 by_cases k5:k=5
 ·subst k5
  simp only [↓rA,rB,buildOk,nt_is,Int.reduceEq,Int.reduceLE,Int.reduceLT,Int.reduceToNat,Nat.reduceAdd,Nat.reduceEqDiff,Nat.reduceLT,Nat.reduceLeDiff,Nat.reduceMul,Nat.reduceSub,reduceCtorEq,tbO85,Tryz.results48,h1]
  exact ret_done (fb (by simp [fldB]))
 simp only [↓rA,rB,buildOk,nt_is,Int.reduceEq,Int.reduceLE,Int.reduceLT,Int.reduceToNat,Nat.reduceAdd,Nat.reduceEqDiff,Nat.reduceLT,Nat.reduceLeDiff,Nat.reduceMul,Nat.reduceSub,reduceCtorEq,tbO85,Tryz.results48,h1,k0,k1,k2,k3,k4,k5]
 exact ret_done (fb (by simp [fldB,k0,k1,k2,k3,k4,k5]))
theorem valC_f {v:Val} (h:fldB v=false):valC v=1:=by
 unfold fldB at h
 unfold valC
 by_cases k0:v.kind=0
 ·rw [if_pos k0] at h
  rw [if_neg (by omega),if_neg (by omega)]
  by_cases hs:v.s=es0
  ·have hn:¬ v.n=0:=by intro e;rw [decide_eq_true e,decide_eq_true hs] at h;cases h
   rw [if_neg (fun h=>h.2.2 hs),if_pos ⟨by omega,by omega,hn,.inl (by omega)⟩]
  ·rw [if_pos ⟨by omega,by omega,hs⟩]
 by_cases k1:v.kind=1
 ·rw [if_neg k0,if_pos k1] at h
  rw [if_neg (by omega),if_neg (by omega)]
  by_cases hs:v.s=es0
  ·rw [decide_eq_true hs,Bool.and_true,Bool.or_eq_false_iff] at h
   rw [if_neg (fun h=>h.2.2 hs),if_pos ⟨by omega,by omega,of_decide_eq_false h.1,.inr (of_decide_eq_false h.2)⟩]
  ·rw [if_pos ⟨by omega,by omega,hs⟩]
 by_cases k2:v.kind=2∨v.kind=3
 ·rw [if_neg k0,if_neg k1,if_pos k2] at h
  rw [if_neg (by omega),if_neg (by omega),if_pos ⟨by omega,by omega,of_decide_eq_false h⟩]
 by_cases k4:v.kind=4∨v.kind=5
 ·rw [if_neg k0,if_neg k1,if_neg k2,if_pos k4] at h
  rw [if_neg (by omega),if_neg (by omega),if_neg (by omega),if_pos ⟨by omega,by omega,of_decide_eq_false h,.inl (by omega)⟩]
 by_cases hk:v.kind < 0
 ·rw [if_pos hk]
 ·rw [if_neg hk,if_pos (by omega)]
theorem valC_t {v:Val} (h:fldB v=true):valC v=if rngB v.n=false then 2 else if v.kind=4 then (if 64 < v.s.size then 2 else if v.s.data.toList.all (okCh 32)=true then 0 else 3)
  else if v.kind=5 then (if 32 < v.s.size then 2 else if v.s=es0 then 3 else if v.s.data.toList.all (okCh 33)=true then 0 else 3) else 0:=by
 have hr:rngB v.n=false↔(v.n < -1152921504606846976∨1152921504606846976 < v.n):=by
  unfold rngB
  rw [Bool.and_eq_false_iff,decide_eq_false_iff_not,decide_eq_false_iff_not]
  omega
 have hk:v.kind=0∨v.kind=1∨v.kind=2∨v.kind=3∨v.kind=4∨v.kind=5:=by
  unfold fldB at h
  by_cases a:v.kind=0
  ·exact .inl a
  by_cases b:v.kind=1
  ·exact .inr (.inl b)
  rw [if_neg a,if_neg b] at h
  by_cases c:v.kind=2∨v.kind=3
  ·omega
  by_cases d:v.kind=4∨v.kind=5
  ·omega
  rw [if_neg c,if_neg d] at h
  cases h
 have h3:¬ (¬ v.kind=4∧¬ v.kind=5∧¬ v.s=es0):=by
  rintro⟨a,b,c⟩
  unfold fldB at h
  rw [decide_eq_false c] at h
  rcases hk with e | e | e | e | e | e <;> simp [e] at h a b
 have h4:¬ (¬ v.kind=2∧¬ v.kind=3∧¬ v.n=0∧(¬ v.kind=1∨¬ v.n=1)):=by
  rintro⟨a,b,c,d⟩
  unfold fldB at h
  rw [decide_eq_false c] at h
  rcases hk with e | e | e | e | e | e <;> simp [e] at h a b d
  exact d h.1
 unfold valC
 rw [if_neg (by omega),if_neg (by omega),if_neg h3,if_neg h4]
 by_cases r:rngB v.n=false
 ·rw [if_pos r]
  rcases hr.1 r with r | r
  ·rw [if_pos r]
  ·split
   ·rfl
   ·first | rfl | rw [if_pos r]
 ·have r':=fun h=>r (hr.2 h)
  rw [if_neg r,if_neg (fun h=>r' (.inl h)),if_neg (fun h=>r' (.inr h))]
  by_cases k4:v.kind=4
  ·rw [if_neg (fun h=>h.1 k4),if_neg (by omega),if_pos k4]
  ·by_cases k5:v.kind=5
   ·rw [if_neg (fun h=>h.2 k5),if_pos k5,if_neg k4,if_pos k5]
   ·rw [if_pos ⟨k4,k5⟩,if_neg k4,if_neg k5]
def tbO86:=(aI (aI (aI Ty.c48 Ty.c49) (aI Ty.c50 Ty.c51)) (aI (aI Ty.t28 Ty.t3) (aI Ty.t4 (aI Ty.t40 Ty.t9))))
theorem valR_ok (v:Val):OkP Tryz.prog 17 [.agg (cVal v)] (vint (valC v)):=by
 have fi:∀ {a b:Int},a=b→V.lit (.int .i64 a)=vint b:=fun h=>by rw [h]
 have hf:=fields_ok v
 obtain⟨k,n,s⟩:=v
 refine Ok.of_ex Ty.mixed Tryz.func17 rfl (by simp [Tryz.ntmps17]) (by kernel_rfl) fun F w0 I0=>?_
 simp only [↓rA,rB,buildOk,nt_is,Int.reduceEq,Int.reduceLE,Int.reduceLT,Int.reduceToNat,Nat.reduceAdd,Nat.reduceEqDiff,Nat.reduceLT,Nat.reduceLeDiff,Nat.reduceMul,Nat.reduceSub,reduceCtorEq,tbO86,Tryz.results17]
 refine fun b1 h1=>?_;replace h1:=newb h1;try simp only [Nb] at h1
 simp only [↓rA,rB,buildOk,nt_is,Int.reduceEq,Int.reduceLE,Int.reduceLT,Int.reduceToNat,Nat.reduceAdd,Nat.reduceEqDiff,Nat.reduceLT,Nat.reduceLeDiff,Nat.reduceMul,Nat.reduceSub,reduceCtorEq,tbO86,Tryz.results17,h1]
 refine OkF_of _ hf ?_
 cases e:fldB ⟨k,n,s⟩
 ·simp only [↓rA,rB,buildOk,nt_is,Int.reduceEq,Int.reduceLE,Int.reduceLT,Int.reduceToNat,Nat.reduceAdd,Nat.reduceEqDiff,Nat.reduceLT,Nat.reduceLeDiff,Nat.reduceMul,Nat.reduceSub,reduceCtorEq,tbO86,Tryz.results17]
  exact ret_done (fi (valC_f e).symm)
 rw [valC_t e]
 simp only [↓rA,rB,buildOk,nt_is,Int.reduceEq,Int.reduceLE,Int.reduceLT,Int.reduceToNat,Nat.reduceAdd,Nat.reduceEqDiff,Nat.reduceLT,Nat.reduceLeDiff,Nat.reduceMul,Nat.reduceSub,reduceCtorEq,tbO86,Tryz.results17,h1]
 refine OkF_of _ (inRange_ok n) ?_
 cases r:rngB n
 ·simp only [↓rA,rB,buildOk,nt_is,Int.reduceEq,Int.reduceLE,Int.reduceLT,Int.reduceToNat,Nat.reduceAdd,Nat.reduceEqDiff,Nat.reduceLT,Nat.reduceLeDiff,Nat.reduceMul,Nat.reduceSub,reduceCtorEq,tbO86,Tryz.results17,h1]
  exact ret_done rfl
 by_cases k4:k=4
 ·subst k4
  by_cases z:64 < s.size
  ·have z':(64:Int) < s.size:=by omega
   simp only [↓rA,rB,buildOk,nt_is,Int.reduceEq,Int.reduceLE,Int.reduceLT,Int.reduceToNat,Nat.reduceAdd,Nat.reduceEqDiff,Nat.reduceLT,Nat.reduceLeDiff,Nat.reduceMul,Nat.reduceSub,reduceCtorEq,tbO86,Tryz.results17,h1,z']
   exact ret_done (fi (by simp [z]))
  ·have z':¬ (64:Int) < s.size:=by omega
   simp only [↓rA,rB,buildOk,nt_is,Int.reduceEq,Int.reduceLE,Int.reduceLT,Int.reduceToNat,Nat.reduceAdd,Nat.reduceEqDiff,Nat.reduceLT,Nat.reduceLeDiff,Nat.reduceMul,Nat.reduceSub,reduceCtorEq,tbO86,Tryz.results17,h1,z']
   refine OkF_of _ (text_ok s) ?_
   have hz:decide (s.size≤64)=true:=decide_eq_true (by omega)
   cases q:s.data.toList.all (okCh 32)
   ·simp only [↓rA,rB,buildOk,nt_is,Int.reduceEq,Int.reduceLE,Int.reduceLT,Int.reduceToNat,Nat.reduceAdd,Nat.reduceEqDiff,Nat.reduceLT,Nat.reduceLeDiff,Nat.reduceMul,Nat.reduceSub,reduceCtorEq,tbO86,Tryz.results17,h1,hz,q]
    exact ret_done (fi (by simp [z]))
   ·simp only [↓rA,rB,buildOk,nt_is,Int.reduceEq,Int.reduceLE,Int.reduceLT,Int.reduceToNat,Nat.reduceAdd,Nat.reduceEqDiff,Nat.reduceLT,Nat.reduceLeDiff,Nat.reduceMul,Nat.reduceSub,reduceCtorEq,tbO86,Tryz.results17,h1,hz,q]
    exact ret_done (fi (by simp [z]))
 by_cases k5:k=5
 ·subst k5
  by_cases z:32 < s.size
  ·have z':(32:Int) < s.size:=by omega
   simp only [↓rA,rB,buildOk,nt_is,Int.reduceEq,Int.reduceLE,Int.reduceLT,Int.reduceToNat,Nat.reduceAdd,Nat.reduceEqDiff,Nat.reduceLT,Nat.reduceLeDiff,Nat.reduceMul,Nat.reduceSub,reduceCtorEq,tbO86,Tryz.results17,h1,z']
   exact ret_done (fi (by simp [z]))
  ·have z':¬ (32:Int) < s.size:=by omega
   simp only [↓rA,rB,buildOk,nt_is,Int.reduceEq,Int.reduceLE,Int.reduceLT,Int.reduceToNat,Nat.reduceAdd,Nat.reduceEqDiff,Nat.reduceLT,Nat.reduceLeDiff,Nat.reduceMul,Nat.reduceSub,reduceCtorEq,tbO86,Tryz.results17,h1,z']
   refine OkF_of _ (key_ok s) ?_
   have hz:decide (s.size≤32)=true:=decide_eq_true (by omega)
   by_cases hs:s=es0
   ·simp only [↓rA,rB,buildOk,nt_is,Int.reduceEq,Int.reduceLE,Int.reduceLT,Int.reduceToNat,Nat.reduceAdd,Nat.reduceEqDiff,Nat.reduceLT,Nat.reduceLeDiff,Nat.reduceMul,Nat.reduceSub,reduceCtorEq,tbO86,Tryz.results17,h1,hz,hs]
    exact ret_done (fi (by simp [hs];decide))
   cases q:s.data.toList.all (okCh 33)
   ·simp only [↓rA,rB,buildOk,nt_is,Int.reduceEq,Int.reduceLE,Int.reduceLT,Int.reduceToNat,Nat.reduceAdd,Nat.reduceEqDiff,Nat.reduceLT,Nat.reduceLeDiff,Nat.reduceMul,Nat.reduceSub,reduceCtorEq,tbO86,Tryz.results17,h1,hz,q,hs]
    exact ret_done (fi (by simp [z,hs]))
   ·simp only [↓rA,rB,buildOk,nt_is,Int.reduceEq,Int.reduceLE,Int.reduceLT,Int.reduceToNat,Nat.reduceAdd,Nat.reduceEqDiff,Nat.reduceLT,Nat.reduceLeDiff,Nat.reduceMul,Nat.reduceSub,reduceCtorEq,tbO86,Tryz.results17,h1,hz,q,hs]
    exact ret_done (fi (by simp [z,hs]))
 simp only [↓rA,rB,buildOk,nt_is,Int.reduceEq,Int.reduceLE,Int.reduceLT,Int.reduceToNat,Nat.reduceAdd,Nat.reduceEqDiff,Nat.reduceLT,Nat.reduceLeDiff,Nat.reduceMul,Nat.reduceSub,reduceCtorEq,tbO86,Tryz.results17,h1,k4,k5]
 exact ret_done (fi (by simp [k4,k5]))
end Go.Proofs.YtjdggbanifineaaGreat.Arr
set_option linter.unusedSimpArgs false
set_option maxRecDepth 100000
set_option linter.defProp false
namespace Go.Proofs.YtjdggbanifineaaGreat
open Go.VL Go.Ar Go.Sg Go.Lo Go.Proofs.YtjdggbanifineaaGreat Go.Proofs.YtjdggbanifineaaGreat.Arr
def propM (l:List Pk):Bool:=decide (l.length≤60) && l.all fun p=>decide (valC p.1.val=0) && (decide (-1000≤p.2) && decide (p.2≤1000))
theorem valC0 {v:Val} (h:valC v=0):-1152921504606846976≤v.n∧v.n≤1152921504606846976:=by
 unfold valC at h
 by_cases h1:v.n < -1152921504606846976
 ·simp only [h1,if_true] at h
  repeat' split at h
  all_goals contradiction
 ·by_cases h2:1152921504606846976 < v.n
  ·simp only [h1,h2,if_true,if_false] at h
   repeat' split at h
   all_goals contradiction
  ·omega
theorem prop_few {l:List Pk} (h:propM l=true):l.length≤60∧Few 1000 l∧∀ p ∈ l,inW p.2∧inW p.1.val.n:=by
 unfold propM at h
 rw [Bool.and_eq_true,decide_eq_true_eq,List.all_eq_true] at h
 refine⟨h.1,fun p hp=>?_,fun p hp=>?_⟩
 ·have:=h.2 p hp
  simp only [Bool.and_eq_true,decide_eq_true_eq] at this
  exact this.2
 ·have:=h.2 p hp
  simp only [Bool.and_eq_true,decide_eq_true_eq] at this
  have h2:=valC0 this.1
  unfold inW
  omega
def tbH20:=(aI (aI (aI Ty.c17 Ty.t22) (aI Ty.t26 Ty.t28)) (aI (aI Ty.t3 Ty.t30) (aI Ty.t4 (aI Ty.t40 Ty.t9))))
theorem proper_ok (l:List Pk) (hl:l.length≤9223372036854775807):OkP Tryz.prog 6 [vPks l] (vbool (propM l)):=by
 have fb:∀ {a b:Bool},a=b→V.lit (.bool a)=vbool b:=fun h=>by rw [h]
 have hb:∀ i,(h:i < l.length)→¬ (valC l[i].1.val=0∧-1000≤l[i].2∧l[i].2≤1000)→propM l=false:=fun i h hn=>by
  unfold propM
  rw [← Bool.not_eq_true,Bool.and_eq_true,List.all_eq_true]
  rintro⟨_,h2⟩
  have:=h2 l[i] (List.getElem_mem h)
  simp only [Bool.and_eq_true,decide_eq_true_eq] at this
  exact hn this
 refine Ok.of_ex Ty.mixed Tryz.func6 rfl (by simp [Tryz.ntmps6]) (by kernel_rfl) fun F w0 I0=>?_
 by_cases h60:(60:Int) < l.length
 ·simp only [↓rA,rB,buildOk,nt_is,Int.reduceEq,Int.reduceLE,Int.reduceLT,Int.reduceToNat,Nat.reduceAdd,Nat.reduceEqDiff,Nat.reduceLT,Nat.reduceLeDiff,Nat.reduceMul,Nat.reduceSub,reduceCtorEq,tbH20,Tryz.results6,List.length_map,h60]
  exact ret_done (fb (by simp [propM];omega))
 ·simp only [↓rA,rB,buildOk,nt_is,Int.reduceEq,Int.reduceLE,Int.reduceLT,Int.reduceToNat,Nat.reduceAdd,Nat.reduceEqDiff,Nat.reduceLT,Nat.reduceLeDiff,Nat.reduceMul,Nat.reduceSub,reduceCtorEq,tbH20,Tryz.results6,List.length_map,h60]
  refine EX_for Ty.mixed (by kernel_rfl) l.length (fun i S=>(∀ j (h:j < l.length),j < i→valC l[j].1.val=0∧-1000≤l[j].2∧l[j].2≤1000)∧S.rows=[]∧S.boxes=[]∧S.σ 0=vPks l∧S.σ 3=vint i) ⟨0,?_⟩ (fun i S hi ⟨hf,gr,gb,g0,g3⟩=>?_) (fun S ⟨hf,gr,gb,g0,g3⟩=>?_)
  ·simp only [↓rA,rB,buildOk,nt_is,Int.reduceEq,Int.reduceLE,Int.reduceLT,Int.reduceToNat,Nat.reduceAdd,Nat.reduceEqDiff,Nat.reduceLT,Nat.reduceLeDiff,Nat.reduceMul,Nat.reduceSub,reduceCtorEq,tbH20,Tryz.results6]
   exact fun j h h'=>absurd h' (Nat.not_lt_zero j)
  ·have w1:=wrap_succ hi hl
   simp only [↓rA,rB,buildOk,nt_is,Int.reduceEq,Int.reduceLE,Int.reduceLT,Int.reduceToNat,Nat.reduceAdd,Nat.reduceEqDiff,Nat.reduceLT,Nat.reduceLeDiff,Nat.reduceMul,Nat.reduceSub,reduceCtorEq,tbH20,Tryz.results6,gr,gb,g0,g3,Int.ofNat_lt,hi,List.length_map,getD_map _ _ _ hi]
   refine OkF_of _ (valR_ok l[i].1.val) ?_
   by_cases c1:valC l[i].1.val=0
   ·by_cases c2:l[i].2 < -1000
    ·simp only [↓rA,rB,buildOk,nt_is,Int.reduceEq,Int.reduceLE,Int.reduceLT,Int.reduceToNat,Nat.reduceAdd,Nat.reduceEqDiff,Nat.reduceLT,Nat.reduceLeDiff,Nat.reduceMul,Nat.reduceSub,reduceCtorEq,tbH20,Tryz.results6,gr,gb,g0,g3,Int.ofNat_lt,hi,List.length_map,getD_map _ _ _ hi,c1,c2]
     exact ret_done (fb (hb i hi (by omega)).symm)
    ·by_cases c3:1000 < l[i].2
     ·simp only [↓rA,rB,buildOk,nt_is,Int.reduceEq,Int.reduceLE,Int.reduceLT,Int.reduceToNat,Nat.reduceAdd,Nat.reduceEqDiff,Nat.reduceLT,Nat.reduceLeDiff,Nat.reduceMul,Nat.reduceSub,reduceCtorEq,tbH20,Tryz.results6,gr,gb,g0,g3,Int.ofNat_lt,hi,List.length_map,getD_map _ _ _ hi,c1,c2,c3]
      exact ret_done (fb (hb i hi (by omega)).symm)
     ·simp only [↓rA,rB,buildOk,nt_is,Int.reduceEq,Int.reduceLE,Int.reduceLT,Int.reduceToNat,Nat.reduceAdd,Nat.reduceEqDiff,Nat.reduceLT,Nat.reduceLeDiff,Nat.reduceMul,Nat.reduceSub,reduceCtorEq,tbH20,Tryz.results6,gr,gb,g0,g3,Int.ofNat_lt,hi,List.length_map,getD_map _ _ _ hi,c1,c2,c3,w1]
      exact⟨0,fun j h h'=>if e:j=i then by subst e;omega else hf j h (by omega)⟩
   ·simp only [↓rA,rB,buildOk,nt_is,Int.reduceEq,Int.reduceLE,Int.reduceLT,Int.reduceToNat,Nat.reduceAdd,Nat.reduceEqDiff,Nat.reduceLT,Nat.reduceLeDiff,Nat.reduceMul,Nat.reduceSub,reduceCtorEq,tbH20,Tryz.results6,gr,gb,g0,g3,Int.ofNat_lt,hi,List.length_map,getD_map _ _ _ hi,c1]
    exact ret_done (fb (hb i hi (by omega)).symm)
  ·simp only [↓rA,rB,buildOk,nt_is,Int.reduceEq,Int.reduceLE,Int.reduceLT,Int.reduceToNat,Nat.reduceAdd,Nat.reduceEqDiff,Nat.reduceLT,Nat.reduceLeDiff,Nat.reduceMul,Nat.reduceSub,reduceCtorEq,tbH20,Tryz.results6,gr,gb,g0,g3,Int.ofNat_lt,Nat.lt_irrefl,List.length_map]
   refine ret_done (fb ?_)
   unfold propM
   symm
   rw [Bool.and_eq_true,decide_eq_true_eq,List.all_eq_true]
   refine⟨by omega,fun p hp=>?_⟩
   obtain⟨j,hj,rfl⟩:=List.getElem_of_mem hp
   have:=hf j hj hj
   simp only [Bool.and_eq_true,decide_eq_true_eq]
   exact this
def tbH22:=(aI (aI (aI Ty.t117 (aI Ty.t26 Ty.t28)) (aI Ty.t3 (aI Ty.t4 Ty.t49))) (aI (aI Ty.t51 (aI Ty.t52 Ty.t53)) (aI Ty.t55 (aI Ty.t65 Ty.t9))))
theorem sameSt_ok (s:Stt) (h1:s.2.2.1.length≤1000000) (h2:s.2.2.2.length≤1000000):OkP Tryz.prog 30 [.agg (cSt s),.agg (cSt s)] (vbool true):=by
 obtain⟨n,w,its,bks⟩:=s
 simp only at h1 h2
 refine Ok.of_ex Ty.mixed Tryz.func30 rfl (by simp [Tryz.ntmps30]) (by kernel_rfl) fun F w0 I0=>?_
 simp only [↓rA,rB,buildOk,nt_is,Int.reduceEq,Int.reduceLE,Int.reduceLT,Int.reduceToNat,Nat.reduceAdd,Nat.reduceEqDiff,Nat.reduceLT,Nat.reduceLeDiff,Nat.reduceMul,Nat.reduceSub,reduceCtorEq,tbH22,Tryz.results30]
 refine fun b1 hb1=>?_;replace hb1:=newb hb1;try simp only [Nb] at hb1
 simp only [↓rA,rB,buildOk,nt_is,Int.reduceEq,Int.reduceLE,Int.reduceLT,Int.reduceToNat,Nat.reduceAdd,Nat.reduceEqDiff,Nat.reduceLT,Nat.reduceLeDiff,Nat.reduceMul,Nat.reduceSub,reduceCtorEq,tbH22,Tryz.results30,hb1]
 refine fun b2 hb2=>?_;replace hb2:=newb hb2;try simp only [Nb] at hb2
 simp only [↓rA,rB,buildOk,nt_is,Int.reduceEq,Int.reduceLE,Int.reduceLT,Int.reduceToNat,Nat.reduceAdd,Nat.reduceEqDiff,Nat.reduceLT,Nat.reduceLeDiff,Nat.reduceMul,Nat.reduceSub,reduceCtorEq,tbH22,Tryz.results30,hb1,hb2,List.length_map]
 refine EX_for Ty.mixed (by kernel_rfl) its.length (fun i S=>S.rows=[]∧S.boxes=[(b2,.c (cSt (n,(w,(its,bks))))),(b1,.c (cSt (n,(w,(its,bks)))))]∧S.σ 2=ptr b1∧S.σ 3=ptr b2∧S.σ 5=vint i) ⟨0,?_⟩ (fun i S hi ⟨gr,gb,g2,g3,g5⟩=>?_) (fun S ⟨gr,gb,g2,g3,g5⟩=>?_)
 ·simp only [↓rA,rB,buildOk,nt_is,Int.reduceEq,Int.reduceLE,Int.reduceLT,Int.reduceToNat,Nat.reduceAdd,Nat.reduceEqDiff,Nat.reduceLT,Nat.reduceLeDiff,Nat.reduceMul,Nat.reduceSub,reduceCtorEq,tbH22,Tryz.results30]
 ·have w1:=wrap_succ hi (by omega)
  simp only [↓rA,rB,buildOk,nt_is,Int.reduceEq,Int.reduceLE,Int.reduceLT,Int.reduceToNat,Nat.reduceAdd,Nat.reduceEqDiff,Nat.reduceLT,Nat.reduceLeDiff,Nat.reduceMul,Nat.reduceSub,reduceCtorEq,tbH22,Tryz.results30,gr,gb,g2,g3,g5,hb1,hb2,Int.ofNat_lt,hi,List.length_map,getD_map _ _ _ hi,w1]
  exact⟨0,by trivial⟩
 ·simp only [↓rA,rB,buildOk,nt_is,Int.reduceEq,Int.reduceLE,Int.reduceLT,Int.reduceToNat,Nat.reduceAdd,Nat.reduceEqDiff,Nat.reduceLT,Nat.reduceLeDiff,Nat.reduceMul,Nat.reduceSub,reduceCtorEq,tbH22,Tryz.results30,gr,gb,g2,g3,g5,hb1,hb2,Int.ofNat_lt,Nat.lt_irrefl,List.length_map]
  refine EX_for Ty.mixed (by kernel_rfl) bks.length (fun i S=>S.rows=[]∧S.boxes=[(b2,.c (cSt (n,(w,(its,bks))))),(b1,.c (cSt (n,(w,(its,bks)))))]∧S.σ 2=ptr b1∧S.σ 3=ptr b2∧S.σ 6=vint i) ⟨0,?_⟩ (fun i S hi ⟨gr,gb,g2,g3,g5⟩=>?_) (fun S ⟨gr,gb,g2,g3,g5⟩=>?_)
  ·simp only [↓rA,rB,buildOk,nt_is,Int.reduceEq,Int.reduceLE,Int.reduceLT,Int.reduceToNat,Nat.reduceAdd,Nat.reduceEqDiff,Nat.reduceLT,Nat.reduceLeDiff,Nat.reduceMul,Nat.reduceSub,reduceCtorEq,tbH22,Tryz.results30,gr,gb,g2,g3]
  ·have w1:=wrap_succ hi (by omega)
   simp only [↓rA,rB,buildOk,nt_is,Int.reduceEq,Int.reduceLE,Int.reduceLT,Int.reduceToNat,Nat.reduceAdd,Nat.reduceEqDiff,Nat.reduceLT,Nat.reduceLeDiff,Nat.reduceMul,Nat.reduceSub,reduceCtorEq,tbH22,Tryz.results30,gr,gb,g2,g3,g5,hb1,hb2,Int.ofNat_lt,hi,List.length_map,getD_map _ _ _ hi,w1]
   exact⟨0,by trivial⟩
  ·simp only [↓rA,rB,buildOk,nt_is,Int.reduceEq,Int.reduceLE,Int.reduceLT,Int.reduceToNat,Nat.reduceAdd,Nat.reduceEqDiff,Nat.reduceLT,Nat.reduceLeDiff,Nat.reduceMul,Nat.reduceSub,reduceCtorEq,tbH22,Tryz.results30,gr,gb,g2,g3,g5,hb1,hb2,Int.ofNat_lt,Nat.lt_irrefl,List.length_map]
   exact ret_done rfl
def tbH23:=(aI (aI (aI Ty.c30 (aI Ty.t117 Ty.t26)) (aI (aI Ty.t28 Ty.t3) (aI Ty.t31 Ty.t4))) (aI (aI (aI Ty.t49 Ty.t51) (aI Ty.t52 Ty.t53)) (aI (aI Ty.t55 Ty.t57) (aI Ty.t65 Ty.t9))))
theorem sameC_ok (l:List Cl) (hl:l.length≤1000000) (hb:∀ c ∈ l,c.2.2.2.1.length≤1000000∧c.2.2.2.2.length≤1000000):OkP Tryz.prog 10 [vCls l,vCls l] (vbool true):=by
 refine Ok.of_ex Ty.mixed Tryz.func10 rfl (by simp [Tryz.ntmps10]) (by kernel_rfl) fun F w0 I0=>?_
 simp only [↓rA,rB,buildOk,nt_is,Int.reduceEq,Int.reduceLE,Int.reduceLT,Int.reduceToNat,Nat.reduceAdd,Nat.reduceEqDiff,Nat.reduceLT,Nat.reduceLeDiff,Nat.reduceMul,Nat.reduceSub,reduceCtorEq,tbH23,Tryz.results10,List.length_map]
 refine EX_for Ty.mixed (by kernel_rfl) l.length (fun i S=>S.rows=[]∧S.boxes=[]∧S.σ 0=vCls l∧S.σ 1=vCls l∧S.σ 5=vint i) ⟨0,?_⟩ (fun i S hi ⟨gr,gb,g0,g1,g5⟩=>?_) (fun S ⟨gr,gb,g0,g1,g5⟩=>?_)
 ·simp only [↓rA,rB,buildOk,nt_is,Int.reduceEq,Int.reduceLE,Int.reduceLT,Int.reduceToNat,Nat.reduceAdd,Nat.reduceEqDiff,Nat.reduceLT,Nat.reduceLeDiff,Nat.reduceMul,Nat.reduceSub,reduceCtorEq,tbH23,Tryz.results10]
 ·have w1:=wrap_succ hi (by omega)
  have hbi:=hb _ (List.getElem_mem hi)
  simp only [↓rA,rB,buildOk,nt_is,Int.reduceEq,Int.reduceLE,Int.reduceLT,Int.reduceToNat,Nat.reduceAdd,Nat.reduceEqDiff,Nat.reduceLT,Nat.reduceLeDiff,Nat.reduceMul,Nat.reduceSub,reduceCtorEq,tbH23,Tryz.results10,gr,gb,g0,g1,g5,Int.ofNat_lt,hi,List.length_map,getD_map _ _ _ hi]
  refine CallV_of _ (sameSt_ok l[i].2 hbi.1 hbi.2).v ?_
  simp only [↓rA,rB,buildOk,nt_is,Int.reduceEq,Int.reduceLE,Int.reduceLT,Int.reduceToNat,Nat.reduceAdd,Nat.reduceEqDiff,Nat.reduceLT,Nat.reduceLeDiff,Nat.reduceMul,Nat.reduceSub,reduceCtorEq,tbH23,Tryz.results10,gr,gb,g0,g1,g5,Int.ofNat_lt,hi,List.length_map,w1]
  exact⟨0,by trivial⟩
 ·simp only [↓rA,rB,buildOk,nt_is,Int.reduceEq,Int.reduceLE,Int.reduceLT,Int.reduceToNat,Nat.reduceAdd,Nat.reduceEqDiff,Nat.reduceLT,Nat.reduceLeDiff,Nat.reduceMul,Nat.reduceSub,reduceCtorEq,tbH23,Tryz.results10,gr,gb,g0,g1,g5,Int.ofNat_lt,Nat.lt_irrefl,List.length_map]
  exact ret_done rfl
end Go.Proofs.YtjdggbanifineaaGreat
set_option linter.unusedSimpArgs false
set_option maxRecDepth 100000
set_option linter.defProp false
namespace Go.Ar
open Go.VL Go.Sg Go.Lo
abbrev sN:Str:=⟨#[110]⟩
abbrev sLt:Str:=⟨#[60]⟩
abbrev sClicks:Str:=⟨#[99,108,105,99,107,115]⟩
abbrev sUser:Str:=⟨#[117,115,101,114]⟩
abbrev sU:Str:=⟨#[117]⟩
abbrev sS:Str:=⟨#[115]⟩
abbrev xN:List V:=[vint 2,vstr es0,vstr sN,vstr es0,vint 0,vint 0,vstr es0,nilS,vint 0,vint 0,vint 0,nilS]
abbrev x9:List V:=[vint 1,vstr es0,vstr es0,vstr es0,vint 2,vint 9,vstr es0,nilS,vint 0,vint 0,vint 0,nilS]
abbrev xLt:List V:=[vint 7,vstr sLt,vstr es0,vstr es0,vint 0,vint 0,vstr es0,nilS,vint 0,vint 0,vint 0,.list none 12 [xN,x9]]
abbrev xSum:List V:=[vint 5,vstr sSum,vstr es0,vstr sClicks,vint 0,vint 0,vstr es0,nilS,vint 0,vint 1,vint 0,.list none 12 [xN,xLt]]
abbrev xTbl:List V:=[vstr sClicks,vstr sUser,.list none 4 [[vstr sN,vint 2,nilS,vstr es0]],vint 0]
theorem pm33 {α:Type} (a b c d e f:α):[a,b,c,d,e,f].Perm [d,e,f,a,b,c]:=List.perm_append_comm (l₁:=[a,b,c]) (l₂:=[d,e,f])
theorem pmr4 {α:Type} (a b c d:α):[a,b,c,d].Perm [d,c,b,a]:=(List.reverse_perm [a,b,c,d]).symm
theorem pm34 {α:Type} (z a b c d e f:α):[z,a,b,c,d,e,f].Perm [a,b,c,z,d,e,f]:=(List.perm_middle (l₁:=[a,b,c]) (a:=z) (l₂:=[d,e,f])).symm
abbrev num (n:Int):Val:=⟨2,n,es0⟩
abbrev tru (b:Bool):Val:=⟨1,if b=true then 1 else 0,es0⟩
end Go.Ar
namespace Go.Proofs.YtjdggbanifineaaGreat
open Go.VL Go.Ar Go.Sg Go.Lo Go.Proofs.YtjdggbanifineaaGreat Go.Proofs.YtjdggbanifineaaGreat.Arr
def tbH30:=(aI (aI (aI Ty.c78 (aI Ty.t233 Ty.t28)) (aI Ty.t3 (aI Ty.t4 Ty.t69))) (aI (aI Ty.t71 (aI Ty.t73 Ty.t78)) (aI Ty.t79 (aI Ty.t81 Ty.t9))))
theorem fieldIs_ok (f:List V) (hf:f=[vstr sN,vint 2,nilS,vstr es0]) (bx:Nat):Ok Tryz.prog 76 [.agg f,ptr bx] [(bx,.c xN)] fun v bs rs=>v=vbool true∧bs=[(bx,.c xN)]∧rs=[]:=by
 subst hf
 refine Ok.of_ex Ty.mixed Tryz.func76 rfl (by simp [Tryz.ntmps76]) (by kernel_rfl) fun F w0 I0=>?_
 simp only [↓rA,rB,buildOk,nt_is,Int.reduceEq,Int.reduceLE,Int.reduceLT,Int.reduceToNat,Nat.reduceAdd,Nat.reduceEqDiff,Nat.reduceLT,Nat.reduceLeDiff,Nat.reduceMul,Nat.reduceSub,reduceCtorEq,tbH30,Tryz.results76]
 refine fun b2 h2=>?_;replace h2:=newb h2;try simp only [Nb] at h2
 simp only [↓rA,rB,buildOk,nt_is,Int.reduceEq,Int.reduceLE,Int.reduceLT,Int.reduceToNat,Nat.reduceAdd,Nat.reduceEqDiff,Nat.reduceLT,Nat.reduceLeDiff,Nat.reduceMul,Nat.reduceSub,reduceCtorEq,tbH30,Tryz.results76,h2]
 exact⟨_,[_],[],Le.refl _,List.Sublist.cons _ (List.Sublist.refl _),List.nil_sublist _,rfl,rfl,rfl⟩
def tbH31:=(aI (aI (aI Ty.c78 Ty.t134) (aI Ty.t233 (aI Ty.t3 Ty.t4))) (aI (aI Ty.t69 Ty.t71) (aI Ty.t73 (aI Ty.t74 Ty.t9))))
theorem indexF_ok (bx:Nat):Ok Tryz.prog 75 [.list none 4 [[vstr sN,vint 2,nilS,vstr es0]],.lit (.func (.func 76) #[] #[.pointer (some ⟨bx,0,none⟩)])] [(bx,.c xN)] fun v bs rs=>v=vint 0∧bs=[(bx,.c xN)]∧rs=[]:=by
 have k1:callB Tryz.prog 76=true:=by kernel_rfl
 refine Ok.of_ex Ty.mixed Tryz.func75 rfl (by simp [Tryz.ntmps75]) (by kernel_rfl) fun F w0 I0=>?_
 simp only [↓rA,rB,buildOk,nt_is,Int.reduceEq,Int.reduceLE,Int.reduceLT,Int.reduceToNat,Nat.reduceAdd,Nat.reduceEqDiff,Nat.reduceLT,Nat.reduceLeDiff,Nat.reduceMul,Nat.reduceSub,reduceCtorEq,tbH31,Tryz.results75]
 refine EX_while Ty.mixed (by kernel_rfl) (fun _=>0) (fun(_:Unit) S=>S.boxes=[(bx,.c xN)]∧S.rows=[]∧S.σ 0=.list none 4 [[vstr sN,vint 2,nilS,vstr es0]]∧S.σ 1=.lit (.func (.func 76) #[] #[.pointer (some ⟨bx,0,none⟩)])∧S.σ 7=vint 1∧S.σ 8=vint 0) () ⟨0,?_⟩ (fun _ S ⟨gb,gr,g0,g1,g7,g8⟩=>?_)
 ·simp only [↓rA,rB,buildOk,nt_is,Int.reduceEq,Int.reduceLE,Int.reduceLT,Int.reduceToNat,Nat.reduceAdd,Nat.reduceEqDiff,Nat.reduceLT,Nat.reduceLeDiff,Nat.reduceMul,Nat.reduceSub,reduceCtorEq,tbH31,Tryz.results75]
  rfl
 ·simp only [↓rA,rB,buildOk,nt_is,Int.reduceEq,Int.reduceLE,Int.reduceLT,Int.reduceToNat,Nat.reduceAdd,Nat.reduceEqDiff,Nat.reduceLT,Nat.reduceLeDiff,Nat.reduceMul,Nat.reduceSub,reduceCtorEq,tbH31,Tryz.results75,gb,gr,g0,g1,g7,g8,k1]
  refine OkF_with [_] [] (List.Perm.refl _) (fieldIs_ok _ rfl bx) ?_
  rintro v bs rs ⟨rfl,rfl,rfl⟩
  simp only [↓rA,rB,buildOk,nt_is,Int.reduceEq,Int.reduceLE,Int.reduceLT,Int.reduceToNat,Nat.reduceAdd,Nat.reduceEqDiff,Nat.reduceLT,Nat.reduceLeDiff,Nat.reduceMul,Nat.reduceSub,reduceCtorEq,tbH31,Tryz.results75,gb,gr,g0,g1,g7,g8]
  exact⟨_,[_],[],Le.refl _,List.Sublist.refl _,List.nil_sublist _,rfl,rfl,rfl⟩
def tbH32:=(aI (aI (aI (aI Ty.c75 Ty.c76) (aI Ty.c77 (aI Ty.c78 Ty.t134))) (aI (aI Ty.t136 (aI Ty.t233 Ty.t26)) (aI Ty.t28 (aI Ty.t3 Ty.t4)))) (aI (aI (aI Ty.t69 Ty.t71) (aI Ty.t73 (aI Ty.t74 Ty.t76))) (aI (aI Ty.t78 (aI Ty.t79 Ty.t81)) (aI Ty.t82 (aI Ty.t84 Ty.t9)))))
theorem rowN_ok (r:Rw) (n:Int) (hr:r.fields=[num n]):OkP Tryz.prog 56 [.agg xTbl,.agg (cRow r),.agg xN] (.agg (cVal (num n))):=by
 refine Ok.of_ex Ty.mixed Tryz.func56 rfl (by simp [Tryz.ntmps56]) (by kernel_rfl) fun F w0 I0=>?_
 simp only [↓rA,rB,buildOk,nt_is,Int.reduceEq,Int.reduceLE,Int.reduceLT,Int.reduceToNat,Nat.reduceAdd,Nat.reduceEqDiff,Nat.reduceLT,Nat.reduceLeDiff,Nat.reduceMul,Nat.reduceSub,reduceCtorEq,tbH32,Tryz.results56]
 refine fun b3 h3=>?_;replace h3:=newb h3;try simp only [Nb] at h3
 simp only [↓rA,rB,buildOk,nt_is,Int.reduceEq,Int.reduceLE,Int.reduceLT,Int.reduceToNat,Nat.reduceAdd,Nat.reduceEqDiff,Nat.reduceLT,Nat.reduceLeDiff,Nat.reduceMul,Nat.reduceSub,reduceCtorEq,tbH32,Tryz.results56,h3]
 refine fun b4 h4=>?_;replace h4:=newb h4;try simp only [Nb] at h4
 simp only [↓rA,rB,buildOk,nt_is,Int.reduceEq,Int.reduceLE,Int.reduceLT,Int.reduceToNat,Nat.reduceAdd,Nat.reduceEqDiff,Nat.reduceLT,Nat.reduceLeDiff,Nat.reduceMul,Nat.reduceSub,reduceCtorEq,tbH32,Tryz.results56,h3,h4]
 refine fun b5 h5=>?_;replace h5:=newb h5;try simp only [Nb] at h5
 simp only [↓rA,rB,buildOk,nt_is,Int.reduceEq,Int.reduceLE,Int.reduceLT,Int.reduceToNat,Nat.reduceAdd,Nat.reduceEqDiff,Nat.reduceLT,Nat.reduceLeDiff,Nat.reduceMul,Nat.reduceSub,reduceCtorEq,tbH32,Tryz.results56,h3,h4,h5]
 refine fun b6 h6=>?_;replace h6:=newb h6;try simp only [Nb] at h6
 have hh:=And.intro h3 (And.intro h4 (And.intro h5 h6))
 simp only [↓rA,rB,buildOk,nt_is,Int.reduceEq,Int.reduceLE,Int.reduceLT,Int.reduceToNat,Nat.reduceAdd,Nat.reduceEqDiff,Nat.reduceLT,Nat.reduceLeDiff,Nat.reduceMul,Nat.reduceSub,reduceCtorEq,tbH32,Tryz.results56,hh]
 refine OkF_with [(b5,.c xN)] [_,_,_] (List.Perm.swap _ _ _) (indexF_ok b5) ?_
 rintro v bs rs ⟨rfl,rfl,rfl⟩
 have n1:¬ ((1:Nat):Int)≤0:=by decide
 have n2:(0:Int) < ((1:Nat):Int):=by decide
 simp only [↓rA,rB,buildOk,nt_is,Int.reduceEq,Int.reduceLE,Int.reduceLT,Int.reduceToNat,Nat.reduceAdd,Nat.reduceEqDiff,Nat.reduceLT,Nat.reduceLeDiff,Nat.reduceMul,Nat.reduceSub,reduceCtorEq,tbH32,Tryz.results56,hh,hr,n1,n2]
 exact ret_done rfl
def tbH33:=(aI (aI (aI (aI Ty.c75 Ty.c76) (aI Ty.c77 (aI Ty.c78 Ty.t134))) (aI (aI Ty.t136 (aI Ty.t233 Ty.t26)) (aI Ty.t28 (aI Ty.t3 Ty.t4)))) (aI (aI (aI Ty.t69 Ty.t71) (aI Ty.t73 (aI Ty.t74 Ty.t76))) (aI (aI Ty.t78 (aI Ty.t79 Ty.t81)) (aI Ty.t82 (aI Ty.t84 Ty.t9)))))
theorem row9_ok (r:Rw):OkP Tryz.prog 56 [.agg xTbl,.agg (cRow r),.agg x9] (.agg (cVal (num 9))):=by
 refine Ok.of_ex Ty.mixed Tryz.func56 rfl (by simp [Tryz.ntmps56]) (by kernel_rfl) fun F w0 I0=>?_
 simp only [↓rA,rB,buildOk,nt_is,Int.reduceEq,Int.reduceLE,Int.reduceLT,Int.reduceToNat,Nat.reduceAdd,Nat.reduceEqDiff,Nat.reduceLT,Nat.reduceLeDiff,Nat.reduceMul,Nat.reduceSub,reduceCtorEq,tbH33,Tryz.results56]
 refine fun b3 h3=>?_;replace h3:=newb h3;try simp only [Nb] at h3
 simp only [↓rA,rB,buildOk,nt_is,Int.reduceEq,Int.reduceLE,Int.reduceLT,Int.reduceToNat,Nat.reduceAdd,Nat.reduceEqDiff,Nat.reduceLT,Nat.reduceLeDiff,Nat.reduceMul,Nat.reduceSub,reduceCtorEq,tbH33,Tryz.results56,h3]
 refine fun b4 h4=>?_;replace h4:=newb h4;try simp only [Nb] at h4
 simp only [↓rA,rB,buildOk,nt_is,Int.reduceEq,Int.reduceLE,Int.reduceLT,Int.reduceToNat,Nat.reduceAdd,Nat.reduceEqDiff,Nat.reduceLT,Nat.reduceLeDiff,Nat.reduceMul,Nat.reduceSub,reduceCtorEq,tbH33,Tryz.results56,h3,h4]
 refine fun b5 h5=>?_;replace h5:=newb h5;try simp only [Nb] at h5
 simp only [↓rA,rB,buildOk,nt_is,Int.reduceEq,Int.reduceLE,Int.reduceLT,Int.reduceToNat,Nat.reduceAdd,Nat.reduceEqDiff,Nat.reduceLT,Nat.reduceLeDiff,Nat.reduceMul,Nat.reduceSub,reduceCtorEq,tbH33,Tryz.results56,h3,h4,h5]
 refine fun b6 h6=>?_;replace h6:=newb h6;try simp only [Nb] at h6
 have hh:=And.intro h3 (And.intro h4 (And.intro h5 h6))
 simp only [↓rA,rB,buildOk,nt_is,Int.reduceEq,Int.reduceLE,Int.reduceLT,Int.reduceToNat,Nat.reduceAdd,Nat.reduceEqDiff,Nat.reduceLT,Nat.reduceLeDiff,Nat.reduceMul,Nat.reduceSub,reduceCtorEq,tbH33,Tryz.results56,hh]
 exact ret_done rfl
def tbH34:=(aI (aI Ty.c78 Ty.t3) (aI Ty.t4 (aI Ty.t49 Ty.t51)))
theorem excmp_ok (a b:Int):OkP Tryz.prog 131 [.agg (cW a),.agg (cW b)] (vint (cmpI a b)):=by
 have fi:∀ {x y:Int},x=y→V.lit (.int .i64 x)=vint y:=fun h=>by rw [h]
 refine Ok.of_ex Ty.mixed Tryz.func131 rfl (by simp [Tryz.ntmps131]) (by kernel_rfl) fun F w0 I0=>?_
 simp only [↓rA,rB,buildOk,nt_is,Int.reduceEq,Int.reduceLE,Int.reduceLT,Int.reduceToNat,Nat.reduceAdd,Nat.reduceEqDiff,Nat.reduceLT,Nat.reduceLeDiff,Nat.reduceMul,Nat.reduceSub,reduceCtorEq,tbH34,Tryz.results131]
 refine fun b2 h2=>?_;replace h2:=newb h2;try simp only [Nb] at h2
 simp only [↓rA,rB,buildOk,nt_is,Int.reduceEq,Int.reduceLE,Int.reduceLT,Int.reduceToNat,Nat.reduceAdd,Nat.reduceEqDiff,Nat.reduceLT,Nat.reduceLeDiff,Nat.reduceMul,Nat.reduceSub,reduceCtorEq,tbH34,Tryz.results131,h2]
 refine fun b3 h3=>?_;replace h3:=newb h3;try simp only [Nb] at h3
 have hh:=And.intro h2 h3
 by_cases e:a=b
 ·subst e
  simp only [↓rA,rB,buildOk,nt_is,Int.reduceEq,Int.reduceLE,Int.reduceLT,Int.reduceToNat,Nat.reduceAdd,Nat.reduceEqDiff,Nat.reduceLT,Nat.reduceLeDiff,Nat.reduceMul,Nat.reduceSub,reduceCtorEq,tbH34,Tryz.results131,hh]
  exact ret_done (fi (by simp [cmpI]))
 ·have z:(decide (a / 18446744073709551616=b / 18446744073709551616) && decide (a % 18446744073709551616=b % 18446744073709551616))=false:=by
   rw [← Bool.not_eq_true,Bool.and_eq_true,decide_eq_true_eq,decide_eq_true_eq]
   omega
  by_cases h1:a / 18446744073709551616 < b / 18446744073709551616
  ·simp only [↓rA,rB,buildOk,nt_is,Int.reduceEq,Int.reduceLE,Int.reduceLT,Int.reduceToNat,Nat.reduceAdd,Nat.reduceEqDiff,Nat.reduceLT,Nat.reduceLeDiff,Nat.reduceMul,Nat.reduceSub,reduceCtorEq,tbH34,Tryz.results131,hh,z,h1]
   exact ret_done (fi (by unfold cmpI;rw [if_pos (by omega)]))
  ·by_cases h2':a / 18446744073709551616=b / 18446744073709551616
   ·rw [h2'] at z
    have h5:¬ a % 18446744073709551616=b % 18446744073709551616:=by omega
    by_cases h3':a % 18446744073709551616 < b % 18446744073709551616
    ·simp only [↓rA,rB,buildOk,nt_is,Int.reduceEq,Int.reduceLE,Int.reduceLT,Int.reduceToNat,Nat.reduceAdd,Nat.reduceEqDiff,Nat.reduceLT,Nat.reduceLeDiff,Nat.reduceMul,Nat.reduceSub,reduceCtorEq,tbH34,Tryz.results131,hh,h1,h2',h3',h5,Int.lt_irrefl]
     refine ret_done (fi ?_)
     unfold cmpI;rw [if_pos (by omega)]
    ·simp only [↓rA,rB,buildOk,nt_is,Int.reduceEq,Int.reduceLE,Int.reduceLT,Int.reduceToNat,Nat.reduceAdd,Nat.reduceEqDiff,Nat.reduceLT,Nat.reduceLeDiff,Nat.reduceMul,Nat.reduceSub,reduceCtorEq,tbH34,Tryz.results131,hh,h1,h2',h3',h5,Int.lt_irrefl]
     refine ret_done (fi ?_)
     unfold cmpI;rw [if_neg (by omega),if_pos (by omega)]
   ·simp only [↓rA,rB,buildOk,nt_is,Int.reduceEq,Int.reduceLE,Int.reduceLT,Int.reduceToNat,Nat.reduceAdd,Nat.reduceEqDiff,Nat.reduceLT,Nat.reduceLeDiff,Nat.reduceMul,Nat.reduceSub,reduceCtorEq,tbH34,Tryz.results131,hh,z,h1,h2']
    refine ret_done (fi ?_)
    unfold cmpI;rw [if_neg (by omega),if_pos (by omega)]
def tbH35:=(aI (aI Ty.c78 Ty.t28) (aI Ty.t3 (aI Ty.t4 Ty.t9)))
theorem numb_ok (n:Int):OkP Tryz.prog 120 [.agg (cVal (num n))] (vbool true):=by
 refine Ok.of_ex Ty.mixed Tryz.func120 rfl (by simp [Tryz.ntmps120]) (by kernel_rfl) fun F w0 I0=>?_
 simp only [↓rA,rB,buildOk,nt_is,Int.reduceEq,Int.reduceLE,Int.reduceLT,Int.reduceToNat,Nat.reduceAdd,Nat.reduceEqDiff,Nat.reduceLT,Nat.reduceLeDiff,Nat.reduceMul,Nat.reduceSub,reduceCtorEq,tbH35,Tryz.results120]
 refine fun b2 h2=>?_;replace h2:=newb h2;try simp only [Nb] at h2
 simp only [↓rA,rB,buildOk,nt_is,Int.reduceEq,Int.reduceLE,Int.reduceLT,Int.reduceToNat,Nat.reduceAdd,Nat.reduceEqDiff,Nat.reduceLT,Nat.reduceLeDiff,Nat.reduceMul,Nat.reduceSub,reduceCtorEq,tbH35,Tryz.results120,h2]
 exact ret_done rfl
def tbH36:=(aI (aI (aI Ty.c133 Ty.c137) (aI Ty.c78 Ty.t28)) (aI (aI Ty.t3 Ty.t4) (aI Ty.t49 (aI Ty.t51 Ty.t9))))
theorem fine_ok (n:Int) (hn:inW n):OkP Tryz.prog 132 [.agg (cVal (num n))] (.agg (cW (n * 1000000))):=by
 refine Ok.of_ex Ty.mixed Tryz.func132 rfl (by simp [Tryz.ntmps132]) (by kernel_rfl) fun F w0 I0=>?_
 simp only [↓rA,rB,buildOk,nt_is,Int.reduceEq,Int.reduceLE,Int.reduceLT,Int.reduceToNat,Nat.reduceAdd,Nat.reduceEqDiff,Nat.reduceLT,Nat.reduceLeDiff,Nat.reduceMul,Nat.reduceSub,reduceCtorEq,tbH36,Tryz.results132]
 refine fun b2 h2=>?_;replace h2:=newb h2;try simp only [Nb] at h2
 simp only [↓rA,rB,buildOk,nt_is,Int.reduceEq,Int.reduceLE,Int.reduceLT,Int.reduceToNat,Nat.reduceAdd,Nat.reduceEqDiff,Nat.reduceLT,Nat.reduceLeDiff,Nat.reduceMul,Nat.reduceSub,reduceCtorEq,tbH36,Tryz.results132,h2]
 refine fun b3 h3=>?_;replace h3:=newb h3;try simp only [Nb] at h3
 simp only [↓rA,rB,buildOk,nt_is,Int.reduceEq,Int.reduceLE,Int.reduceLT,Int.reduceToNat,Nat.reduceAdd,Nat.reduceEqDiff,Nat.reduceLT,Nat.reduceLeDiff,Nat.reduceMul,Nat.reduceSub,reduceCtorEq,tbH36,Tryz.results132,h2,h3]
 refine OkF_of _ (wmul_ok n 1000000 hn (by unfold inW;omega)) ?_
 rw [w128_id (show inWide (n * 1000000) by unfold inWide;unfold inW at hn;omega)]
 simp only [↓rA,rB,buildOk,nt_is,Int.reduceEq,Int.reduceLE,Int.reduceLT,Int.reduceToNat,Nat.reduceAdd,Nat.reduceEqDiff,Nat.reduceLT,Nat.reduceLeDiff,Nat.reduceMul,Nat.reduceSub,reduceCtorEq,tbH36,Tryz.results132,h2,h3]
 exact ret_done rfl
def tbH37:=(aI (aI Ty.c78 Ty.t28) (aI Ty.t3 (aI Ty.t4 Ty.t9)))
theorem truth_ok (b:Bool):OkP Tryz.prog 119 [vbool b] (.agg (cVal (tru b))):=by
 refine Ok.of_ex Ty.mixed Tryz.func119 rfl (by simp [Tryz.ntmps119]) (by kernel_rfl) fun F w0 I0=>?_
 simp only [↓rA,rB,buildOk,nt_is,Int.reduceEq,Int.reduceLE,Int.reduceLT,Int.reduceToNat,Nat.reduceAdd,Nat.reduceEqDiff,Nat.reduceLT,Nat.reduceLeDiff,Nat.reduceMul,Nat.reduceSub,reduceCtorEq,tbH37,Tryz.results119]
 refine fun b2 h2=>?_;replace h2:=newb h2;try simp only [Nb] at h2
 cases b
 ·simp only [↓rA,rB,buildOk,nt_is,Int.reduceEq,Int.reduceLE,Int.reduceLT,Int.reduceToNat,Nat.reduceAdd,Nat.reduceEqDiff,Nat.reduceLT,Nat.reduceLeDiff,Nat.reduceMul,Nat.reduceSub,reduceCtorEq,tbH37,Tryz.results119,h2]
  exact ret_done rfl
 ·simp only [↓rA,rB,buildOk,nt_is,Int.reduceEq,Int.reduceLE,Int.reduceLT,Int.reduceToNat,Nat.reduceAdd,Nat.reduceEqDiff,Nat.reduceLT,Nat.reduceLeDiff,Nat.reduceMul,Nat.reduceSub,reduceCtorEq,tbH37,Tryz.results119,h2]
  exact ret_done rfl
def tbH38:=(aI (aI (aI Ty.c119 (aI Ty.c120 Ty.c131)) (aI Ty.c132 (aI Ty.c41 Ty.c78))) (aI (aI Ty.t28 (aI Ty.t3 Ty.t4)) (aI Ty.t49 (aI Ty.t51 Ty.t9))))
theorem compareLt_ok (n m:Int) (hn:inW n) (hm:inW m):OkP Tryz.prog 123 [vstr sLt,.agg (cVal (num n)),.agg (cVal (num m))] (.agg (cVal (tru (decide (n < m))))):=by
 refine Ok.of_ex Ty.mixed Tryz.func123 rfl (by simp [Tryz.ntmps123]) (by kernel_rfl) fun F w0 I0=>?_
 simp only [↓rA,rB,buildOk,nt_is,Int.reduceEq,Int.reduceLE,Int.reduceLT,Int.reduceToNat,Nat.reduceAdd,Nat.reduceEqDiff,Nat.reduceLT,Nat.reduceLeDiff,Nat.reduceMul,Nat.reduceSub,reduceCtorEq,tbH38,Tryz.results123]
 refine fun b3 h3=>?_;replace h3:=newb h3;try simp only [Nb] at h3
 simp only [↓rA,rB,buildOk,nt_is,Int.reduceEq,Int.reduceLE,Int.reduceLT,Int.reduceToNat,Nat.reduceAdd,Nat.reduceEqDiff,Nat.reduceLT,Nat.reduceLeDiff,Nat.reduceMul,Nat.reduceSub,reduceCtorEq,tbH38,Tryz.results123,h3]
 refine fun b4 h4=>?_;replace h4:=newb h4;try simp only [Nb] at h4
 simp only [↓rA,rB,buildOk,nt_is,Int.reduceEq,Int.reduceLE,Int.reduceLT,Int.reduceToNat,Nat.reduceAdd,Nat.reduceEqDiff,Nat.reduceLT,Nat.reduceLeDiff,Nat.reduceMul,Nat.reduceSub,reduceCtorEq,tbH38,Tryz.results123,h3,h4]
 refine fun b5 h5=>?_;replace h5:=newb h5;try simp only [Nb] at h5
 have hh:=And.intro h3 (And.intro h4 h5)
 simp only [↓rA,rB,buildOk,nt_is,Int.reduceEq,Int.reduceLE,Int.reduceLT,Int.reduceToNat,Nat.reduceAdd,Nat.reduceEqDiff,Nat.reduceLT,Nat.reduceLeDiff,Nat.reduceMul,Nat.reduceSub,reduceCtorEq,tbH38,Tryz.results123,hh]
 refine OkF_of _ (numb_ok n) ?_
 simp only [↓rA,rB,buildOk,nt_is,Int.reduceEq,Int.reduceLE,Int.reduceLT,Int.reduceToNat,Nat.reduceAdd,Nat.reduceEqDiff,Nat.reduceLT,Nat.reduceLeDiff,Nat.reduceMul,Nat.reduceSub,reduceCtorEq,tbH38,Tryz.results123,hh]
 refine OkF_of _ (numb_ok m) ?_
 simp only [↓rA,rB,buildOk,nt_is,Int.reduceEq,Int.reduceLE,Int.reduceLT,Int.reduceToNat,Nat.reduceAdd,Nat.reduceEqDiff,Nat.reduceLT,Nat.reduceLeDiff,Nat.reduceMul,Nat.reduceSub,reduceCtorEq,tbH38,Tryz.results123,hh]
 refine CallV_of _ (fine_ok n hn).v ?_
 simp only [↓rA,rB,buildOk,nt_is,Int.reduceEq,Int.reduceLE,Int.reduceLT,Int.reduceToNat,Nat.reduceAdd,Nat.reduceEqDiff,Nat.reduceLT,Nat.reduceLeDiff,Nat.reduceMul,Nat.reduceSub,reduceCtorEq,tbH38,Tryz.results123,hh]
 refine CallV_of _ (fine_ok m hm).v ?_
 simp only [↓rA,rB,buildOk,nt_is,Int.reduceEq,Int.reduceLE,Int.reduceLT,Int.reduceToNat,Nat.reduceAdd,Nat.reduceEqDiff,Nat.reduceLT,Nat.reduceLeDiff,Nat.reduceMul,Nat.reduceSub,reduceCtorEq,tbH38,Tryz.results123,hh]
 refine CallV_of _ (excmp_ok (n * 1000000) (m * 1000000)).v ?_
 have f1:¬ (sLt=(⟨#[61,61]⟩:Str)):=by decide
 have f2:¬ (sLt=(⟨#[33,61]⟩:Str)):=by decide
 have f3:¬ (sLt=(⟨#[60,61]⟩:Str)):=by decide
 have hc:cmpI (n * 1000000) (m * 1000000) < 0↔n < m:=by rw [ltI];omega
 by_cases h:n < m
 ·have h':=hc.2 h
  rw [decide_eq_true h]
  simp only [↓rA,rB,buildOk,nt_is,Int.reduceEq,Int.reduceLE,Int.reduceLT,Int.reduceToNat,Nat.reduceAdd,Nat.reduceEqDiff,Nat.reduceLT,Nat.reduceLeDiff,Nat.reduceMul,Nat.reduceSub,reduceCtorEq,tbH38,Tryz.results123,hh,f1,f2,f3,h']
  refine OkF_of _ (truth_ok true) ?_
  simp only [↓rA,rB,buildOk,nt_is,Int.reduceEq,Int.reduceLE,Int.reduceLT,Int.reduceToNat,Nat.reduceAdd,Nat.reduceEqDiff,Nat.reduceLT,Nat.reduceLeDiff,Nat.reduceMul,Nat.reduceSub,reduceCtorEq,tbH38,Tryz.results123,hh]
  exact ret_done rfl
 ·have h':¬ cmpI (n * 1000000) (m * 1000000) < 0:=fun e=>h (hc.1 e)
  rw [decide_eq_false h]
  simp only [↓rA,rB,buildOk,nt_is,Int.reduceEq,Int.reduceLE,Int.reduceLT,Int.reduceToNat,Nat.reduceAdd,Nat.reduceEqDiff,Nat.reduceLT,Nat.reduceLeDiff,Nat.reduceMul,Nat.reduceSub,reduceCtorEq,tbH38,Tryz.results123,hh,f1,f2,f3,h']
  refine OkF_of _ (truth_ok false) ?_
  simp only [↓rA,rB,buildOk,nt_is,Int.reduceEq,Int.reduceLE,Int.reduceLT,Int.reduceToNat,Nat.reduceAdd,Nat.reduceEqDiff,Nat.reduceLT,Nat.reduceLeDiff,Nat.reduceMul,Nat.reduceSub,reduceCtorEq,tbH38,Tryz.results123,hh]
  exact ret_done rfl
def tbH39:=(aI (aI (aI Ty.c101 (aI Ty.c119 Ty.c120)) (aI Ty.c121 (aI Ty.c122 Ty.c123))) (aI (aI Ty.c124 (aI Ty.c78 Ty.t28)) (aI Ty.t3 (aI Ty.t4 Ty.t9))))
theorem binaryLt_ok (n m:Int) (hn:inW n) (hm:inW m):OkP Tryz.prog 100 [vstr sLt,.agg (cVal (num n)),.agg (cVal (num m))] (.agg (cVal (tru (decide (n < m))))):=by
 have f1:¬ (sLt=(⟨#[61,61]⟩:Str)):=by decide
 have f2:¬ (sLt=(⟨#[33,61]⟩:Str)):=by decide
 have f3:¬ (sLt=(⟨#[97,110,100]⟩:Str)):=by decide
 have f4:¬ (sLt=(⟨#[111,114]⟩:Str)):=by decide
 have hq:=compareLt_ok n m hn hm
 generalize decide (n < m)=d at hq ⊢
 refine Ok.of_ex Ty.mixed Tryz.func100 rfl (by simp [Tryz.ntmps100]) (by kernel_rfl) fun F w0 I0=>?_
 simp only [↓rA,rB,buildOk,nt_is,Int.reduceEq,Int.reduceLE,Int.reduceLT,Int.reduceToNat,Nat.reduceAdd,Nat.reduceEqDiff,Nat.reduceLT,Nat.reduceLeDiff,Nat.reduceMul,Nat.reduceSub,reduceCtorEq,tbH39,Tryz.results100]
 refine fun b3 h3=>?_;replace h3:=newb h3;try simp only [Nb] at h3
 simp only [↓rA,rB,buildOk,nt_is,Int.reduceEq,Int.reduceLE,Int.reduceLT,Int.reduceToNat,Nat.reduceAdd,Nat.reduceEqDiff,Nat.reduceLT,Nat.reduceLeDiff,Nat.reduceMul,Nat.reduceSub,reduceCtorEq,tbH39,Tryz.results100,h3]
 refine fun b4 h4=>?_;replace h4:=newb h4;try simp only [Nb] at h4
 simp only [↓rA,rB,buildOk,nt_is,Int.reduceEq,Int.reduceLE,Int.reduceLT,Int.reduceToNat,Nat.reduceAdd,Nat.reduceEqDiff,Nat.reduceLT,Nat.reduceLeDiff,Nat.reduceMul,Nat.reduceSub,reduceCtorEq,tbH39,Tryz.results100,h3,h4]
 refine fun b5 h5=>?_;replace h5:=newb h5;try simp only [Nb] at h5
 have hh:=And.intro h3 (And.intro h4 h5)
 simp only [↓rA,rB,buildOk,nt_is,Int.reduceEq,Int.reduceLE,Int.reduceLT,Int.reduceToNat,Nat.reduceAdd,Nat.reduceEqDiff,Nat.reduceLT,Nat.reduceLeDiff,Nat.reduceMul,Nat.reduceSub,reduceCtorEq,tbH39,Tryz.results100,hh,f1,f2,f3,f4]
 refine OkF_of _ hq ?_
 simp only [↓rA,rB,buildOk,nt_is,Int.reduceEq,Int.reduceLE,Int.reduceLT,Int.reduceToNat,Nat.reduceAdd,Nat.reduceEqDiff,Nat.reduceLT,Nat.reduceLeDiff,Nat.reduceMul,Nat.reduceSub,reduceCtorEq,tbH39,Tryz.results100,hh]
 exact ret_done rfl
abbrev fnR (b3 b4 b5:Nat):V:=.lit (.func (.func 78) #[] #[.pointer (some ⟨b3,0,none⟩),.pointer (some ⟨b4,0,none⟩),.pointer (some ⟨b5,0,none⟩)])
def tbH310:=(aI (aI (aI (aI Ty.c56 Ty.c78) (aI Ty.t233 Ty.t26)) (aI (aI Ty.t28 Ty.t3) (aI Ty.t69 Ty.t71))) (aI (aI (aI Ty.t73 Ty.t74) (aI Ty.t76 Ty.t78)) (aI (aI Ty.t79 Ty.t81) (aI Ty.t82 (aI Ty.t84 Ty.t9)))))
theorem operand0_ok (r:Rw) (n:Int) (hr:r.fields=[num n]) (b3 b4 b5:Nat) (h34:b3 ≠ b4∧b4 ≠ b3) (h35:b3 ≠ b5∧b5 ≠ b3) (h45:b4 ≠ b5∧b5 ≠ b4):Ok Tryz.prog 78 [vint 0,ptr b3,ptr b4,ptr b5] [(b3,.c xTbl),(b4,.c (cRow r)),(b5,.c xLt)] fun v bs rs=>v=.agg (cVal (num n))∧bs=[(b3,.c xTbl),(b4,.c (cRow r)),(b5,.c xLt)]∧rs=[]:=by
 refine Ok.of_ex Ty.mixed Tryz.func78 rfl (by simp [Tryz.ntmps78]) (by kernel_rfl) fun F w0 I0=>?_
 simp only [↓rA,rB,buildOk,nt_is,Int.reduceEq,Int.reduceLE,Int.reduceLT,Int.reduceToNat,Nat.reduceAdd,Nat.reduceEqDiff,Nat.reduceLT,Nat.reduceLeDiff,Nat.reduceMul,Nat.reduceSub,reduceCtorEq,tbH310,Tryz.results78]
 refine fun b6 h6=>?_;replace h6:=newb h6;try simp only [Nb] at h6
 have n2:(0:Int) < ((2:Nat):Int):=by decide
 simp only [↓rA,rB,buildOk,nt_is,Int.reduceEq,Int.reduceLE,Int.reduceLT,Int.reduceToNat,Nat.reduceAdd,Nat.reduceEqDiff,Nat.reduceLT,Nat.reduceLeDiff,Nat.reduceMul,Nat.reduceSub,reduceCtorEq,tbH310,Tryz.results78,h6,h34,h35,h45,n2]
 refine CallV_of _ (rowN_ok r n hr).v ?_
 simp only [↓rA,rB,buildOk,nt_is,Int.reduceEq,Int.reduceLE,Int.reduceLT,Int.reduceToNat,Nat.reduceAdd,Nat.reduceEqDiff,Nat.reduceLT,Nat.reduceLeDiff,Nat.reduceMul,Nat.reduceSub,reduceCtorEq,tbH310,Tryz.results78,h6,h34,h35,h45]
 exact⟨_,[_,_,_],[],Le.refl _,List.Sublist.cons _ (List.Sublist.refl _),List.nil_sublist _,rfl,rfl,rfl⟩
def tbH311:=(aI (aI (aI (aI Ty.c56 Ty.c78) (aI Ty.t233 Ty.t26)) (aI (aI Ty.t28 Ty.t3) (aI Ty.t69 Ty.t71))) (aI (aI (aI Ty.t73 Ty.t74) (aI Ty.t76 Ty.t78)) (aI (aI Ty.t79 Ty.t81) (aI Ty.t82 (aI Ty.t84 Ty.t9)))))
theorem operand1_ok (r:Rw) (b3 b4 b5:Nat) (h34:b3 ≠ b4∧b4 ≠ b3) (h35:b3 ≠ b5∧b5 ≠ b3) (h45:b4 ≠ b5∧b5 ≠ b4):Ok Tryz.prog 78 [vint 1,ptr b3,ptr b4,ptr b5] [(b3,.c xTbl),(b4,.c (cRow r)),(b5,.c xLt)] fun v bs rs=>v=.agg (cVal (num 9))∧bs=[(b3,.c xTbl),(b4,.c (cRow r)),(b5,.c xLt)]∧rs=[]:=by
 refine Ok.of_ex Ty.mixed Tryz.func78 rfl (by simp [Tryz.ntmps78]) (by kernel_rfl) fun F w0 I0=>?_
 simp only [↓rA,rB,buildOk,nt_is,Int.reduceEq,Int.reduceLE,Int.reduceLT,Int.reduceToNat,Nat.reduceAdd,Nat.reduceEqDiff,Nat.reduceLT,Nat.reduceLeDiff,Nat.reduceMul,Nat.reduceSub,reduceCtorEq,tbH311,Tryz.results78]
 refine fun b6 h6=>?_;replace h6:=newb h6;try simp only [Nb] at h6
 have n2:(1:Int) < ((2:Nat):Int):=by decide
 simp only [↓rA,rB,buildOk,nt_is,Int.reduceEq,Int.reduceLE,Int.reduceLT,Int.reduceToNat,Nat.reduceAdd,Nat.reduceEqDiff,Nat.reduceLT,Nat.reduceLeDiff,Nat.reduceMul,Nat.reduceSub,reduceCtorEq,tbH311,Tryz.results78,h6,h34,h35,h45,n2]
 refine CallV_of _ (row9_ok r).v ?_
 simp only [↓rA,rB,buildOk,nt_is,Int.reduceEq,Int.reduceLE,Int.reduceLT,Int.reduceToNat,Nat.reduceAdd,Nat.reduceEqDiff,Nat.reduceLT,Nat.reduceLeDiff,Nat.reduceMul,Nat.reduceSub,reduceCtorEq,tbH311,Tryz.results78,h6,h34,h35,h45]
 exact⟨_,[_,_,_],[],Le.refl _,List.Sublist.cons _ (List.Sublist.refl _),List.nil_sublist _,rfl,rfl,rfl⟩
def tbH312:=(aI (aI (aI (aI Ty.c100 Ty.c101) (aI Ty.c78 Ty.c99)) (aI (aI Ty.t136 Ty.t152) (aI Ty.t233 Ty.t28))) (aI (aI (aI Ty.t3 Ty.t4) (aI Ty.t58 Ty.t69)) (aI (aI Ty.t78 Ty.t79) (aI Ty.t81 Ty.t9))))
theorem scalarLt_ok (r:Rw) (n:Int) (hn:inW n) (hr:r.fields=[num n]) (b3 b4 b5:Nat) (h34:b3 ≠ b4∧b4 ≠ b3) (h35:b3 ≠ b5∧b5 ≠ b3) (h45:b4 ≠ b5∧b5 ≠ b4):Ok Tryz.prog 77 [.agg xLt,fnR b3 b4 b5] [(b3,.c xTbl),(b4,.c (cRow r)),(b5,.c xLt)] fun v bs rs=>v=.agg (cVal (tru (decide (n < 9))))∧bs=[]∧rs=[]:=by
 have k1:callB Tryz.prog 78=true:=by kernel_rfl
 refine Ok.of_exM [(10,3)] Ty.mixed Tryz.func77 rfl (by simp [Tryz.ntmps77]) (by kernel_rfl) fun F w0 I0=>?_
 simp only [↓rA,rB,buildOk,nt_is,Int.reduceEq,Int.reduceLE,Int.reduceLT,Int.reduceToNat,Nat.reduceAdd,Nat.reduceEqDiff,Nat.reduceLT,Nat.reduceLeDiff,Nat.reduceMul,Nat.reduceSub,reduceCtorEq,tbH312,Tryz.results77]
 refine fun c1 g1=>?_;replace g1:=newb g1;try simp only [Nb] at g1
 simp only [↓rA,rB,buildOk,nt_is,Int.reduceEq,Int.reduceLE,Int.reduceLT,Int.reduceToNat,Nat.reduceAdd,Nat.reduceEqDiff,Nat.reduceLT,Nat.reduceLeDiff,Nat.reduceMul,Nat.reduceSub,reduceCtorEq,tbH312,Tryz.results77,g1]
 refine fun c2 g2=>?_;replace g2:=newb g2;try simp only [Nb] at g2
 simp only [↓rA,rB,buildOk,nt_is,Int.reduceEq,Int.reduceLE,Int.reduceLT,Int.reduceToNat,Nat.reduceAdd,Nat.reduceEqDiff,Nat.reduceLT,Nat.reduceLeDiff,Nat.reduceMul,Nat.reduceSub,reduceCtorEq,tbH312,Tryz.results77,g1,g2]
 refine fun c3 g3=>?_;replace g3:=newb g3;try simp only [Nb] at g3
 have hh:=And.intro g1 (And.intro g2 (And.intro g3 (And.intro h34 (And.intro h35 h45))))
 have f0:∀ k,findM [] k=none:=fun _=>rfl
 have f1:findM [(0,Value.int .i64 6,V.lit (.int .i64 1))] (.int .i64 7)=none:=rfl
 have f2:findM [(0,Value.int .i64 6,V.lit (.int .i64 1)),(1,Value.int .i64 7,V.lit (.int .i64 2))] (.int .i64 8)=none:=rfl
 have f3:findM [(0,Value.int .i64 6,V.lit (.int .i64 1)),(1,Value.int .i64 7,V.lit (.int .i64 2)),(2,Value.int .i64 8,V.lit (.int .i64 3))] (.int .i64 9)=none:=rfl
 have f4:findM [(0,Value.int .i64 6,V.lit (.int .i64 1)),(1,Value.int .i64 7,V.lit (.int .i64 2)),(2,Value.int .i64 8,V.lit (.int .i64 3)),(3,Value.int .i64 9,V.lit (.int .i64 2))] (.int .i64 7)=some (V.lit (.int .i64 2)):=rfl
 have n2:((2:Nat):Int)=2:=rfl
 simp only [↓rA,rB,buildOk,nt_is,Int.reduceEq,Int.reduceLE,Int.reduceLT,Int.reduceToNat,Nat.reduceAdd,Nat.reduceEqDiff,Nat.reduceLT,Nat.reduceLeDiff,Nat.reduceMul,Nat.reduceSub,reduceCtorEq,tbH312,Tryz.results77,hh,f0,f1,f2,f3,f4,n2,k1]
 refine OkF_with [_,_,_] [_,_,_] (pm33 _ _ _ _ _ _) (operand0_ok r n hr b3 b4 b5 h34 h35 h45) ?_
 rintro v bs rs ⟨rfl,rfl,rfl⟩
 simp only [↓rA,rB,buildOk,nt_is,Int.reduceEq,Int.reduceLE,Int.reduceLT,Int.reduceToNat,Nat.reduceAdd,Nat.reduceEqDiff,Nat.reduceLT,Nat.reduceLeDiff,Nat.reduceMul,Nat.reduceSub,reduceCtorEq,tbH312,Tryz.results77,hh,k1]
 refine fun c4 g4=>?_;replace g4:=newb g4;try simp only [Nb] at g4
 have hq:=binaryLt_ok n 9 hn (by unfold inW;omega)
 generalize tru (decide (n < 9))=res at hq ⊢
 have hh:=And.intro hh g4
 simp only [↓rA,rB,buildOk,nt_is,Int.reduceEq,Int.reduceLE,Int.reduceLT,Int.reduceToNat,Nat.reduceAdd,Nat.reduceEqDiff,Nat.reduceLT,Nat.reduceLeDiff,Nat.reduceMul,Nat.reduceSub,reduceCtorEq,tbH312,Tryz.results77,hh,k1]
 refine EX_invA Ty.mixed (by kernel_rfl) (by kernel_rfl) (fun L S=>S.rows=[]∧S.σ 1=fnR b3 b4 b5∧S.σ 2=ptr c1∧S.σ 4=ptr c2∧S.σ 8=ptr c4 ∧
  S.boxes=(bif L 4 then [(b3,.c xTbl),(b4,.c (cRow r)),(b5,.c xLt),(c4,.c (cVal (num n))),(c3,.m ([.i .i64],false) [(0,Value.int .i64 6,V.lit (.int .i64 1)),(1,Value.int .i64 7,V.lit (.int .i64 2)),(2,Value.int .i64 8,V.lit (.int .i64 3)),(3,Value.int .i64 9,V.lit (.int .i64 2))] 4),(c2,.c (bif L 6 then cVal res else [vint 0,vint 0,vstr es0])),(c1,.c xLt)]
   else [(c4,.c (cVal (num n))),(b3,.c xTbl),(b4,.c (cRow r)),(b5,.c xLt),(c3,.m ([.i .i64],false) [(0,Value.int .i64 6,V.lit (.int .i64 1)),(1,Value.int .i64 7,V.lit (.int .i64 2)),(2,Value.int .i64 8,V.lit (.int .i64 3)),(3,Value.int .i64 9,V.lit (.int .i64 2))] 4),(c2,.c [vint 0,vint 0,vstr es0]),(c1,.c xLt)]) ∧
  (L 0=true→S.σ 40=.lit (.pointer (some ⟨c1,1,none⟩)))∧(L 1=true→S.σ 41=vstr sLt)∧(L 2=true→S.σ 42=.agg (cVal (num n)))∧(L 3=true→S.σ 43=fnR b3 b4 b5)∧(L 4=true→S.σ 44=.agg (cVal (num 9)))∧(L 5=true→S.σ 45=.agg (cVal res))∧(L 5=true→L 4=true)∧(L 6=true→L 5=true)) ?_ ?_ ?_
 ·simp only [↓rA,rB,buildOk,nt_is,Int.reduceEq,Int.reduceLE,Int.reduceLT,Int.reduceToNat,Nat.reduceAdd,Nat.reduceEqDiff,Nat.reduceLT,Nat.reduceLeDiff,Nat.reduceMul,Nat.reduceSub,reduceCtorEq,tbH312,Tryz.results77,hh]
  first | exact fun h=>h | simp
 ·intro L S i o ho hL he ⟨gr,s1,s2,s4,s8,gb,f0,f1,f2,f3,f4,f5,j5,j6⟩
  match i,ho with
  | 0,ho =>
   cases ho
   simp only [↓rA,rB,buildOk,nt_is,Int.reduceEq,Int.reduceLE,Int.reduceLT,Int.reduceToNat,Nat.reduceAdd,Nat.reduceEqDiff,Nat.reduceLT,Nat.reduceLeDiff,Nat.reduceMul,Nat.reduceSub,reduceCtorEq,tbH312,Tryz.results77,hh,gr,gb,s1,s2,s4,s8]
   exact⟨by first | exact gb | rfl,fun _=>by first | trivial | assumption | rfl,f1,f2,f3,f4,f5,j5,j6⟩
  | 1,ho =>
   cases ho
   have q0:=f0 (he ⟨0,.data⟩ (by simp) rfl)
   cases h4:L 4
   ·rw [h4] at gb
    simp only [↓rA,rB,buildOk,nt_is,Int.reduceEq,Int.reduceLE,Int.reduceLT,Int.reduceToNat,Nat.reduceAdd,Nat.reduceEqDiff,Nat.reduceLT,Nat.reduceLeDiff,Nat.reduceMul,Nat.reduceSub,reduceCtorEq,tbH312,Tryz.results77,hh,gr,gb,s1,s2,s4,s8,q0,cond_false]
    exact⟨by show _=(bif L 4 then _ else _);rw [h4];rfl,fun _=>by first | trivial | assumption | rfl,fun _=>by first | trivial | assumption | rfl,f2,f3,f4,f5,j5,j6⟩
   ·rw [h4] at gb
    simp only [↓rA,rB,buildOk,nt_is,Int.reduceEq,Int.reduceLE,Int.reduceLT,Int.reduceToNat,Nat.reduceAdd,Nat.reduceEqDiff,Nat.reduceLT,Nat.reduceLeDiff,Nat.reduceMul,Nat.reduceSub,reduceCtorEq,tbH312,Tryz.results77,hh,gr,gb,s1,s2,s4,s8,q0,cond_true]
    exact⟨by show _=(bif L 4 then _ else _);rw [h4];rfl,fun _=>by first | trivial | assumption | rfl,fun _=>by first | trivial | assumption | rfl,f2,f3,f4,f5,j5,j6⟩
  | 2,ho =>
   cases ho
   cases h4:L 4
   ·rw [h4] at gb
    simp only [↓rA,rB,buildOk,nt_is,Int.reduceEq,Int.reduceLE,Int.reduceLT,Int.reduceToNat,Nat.reduceAdd,Nat.reduceEqDiff,Nat.reduceLT,Nat.reduceLeDiff,Nat.reduceMul,Nat.reduceSub,reduceCtorEq,tbH312,Tryz.results77,hh,gr,gb,s1,s2,s4,s8,cond_false]
    exact⟨by show _=(bif L 4 then _ else _);rw [h4];rfl,f0,f1,fun _=>by first | trivial | assumption | rfl,f3,f4,f5,j5,j6⟩
   ·rw [h4] at gb
    simp only [↓rA,rB,buildOk,nt_is,Int.reduceEq,Int.reduceLE,Int.reduceLT,Int.reduceToNat,Nat.reduceAdd,Nat.reduceEqDiff,Nat.reduceLT,Nat.reduceLeDiff,Nat.reduceMul,Nat.reduceSub,reduceCtorEq,tbH312,Tryz.results77,hh,gr,gb,s1,s2,s4,s8,cond_true]
    exact⟨by show _=(bif L 4 then _ else _);rw [h4];rfl,f0,f1,fun _=>by first | trivial | assumption | rfl,f3,f4,f5,j5,j6⟩
  | 3,ho =>
   cases ho
   simp only [↓rA,rB,buildOk,nt_is,Int.reduceEq,Int.reduceLE,Int.reduceLT,Int.reduceToNat,Nat.reduceAdd,Nat.reduceEqDiff,Nat.reduceLT,Nat.reduceLeDiff,Nat.reduceMul,Nat.reduceSub,reduceCtorEq,tbH312,Tryz.results77,hh,gr,gb,s1,s2,s4,s8]
   exact⟨by first | exact gb | rfl,f0,f1,f2,fun _=>by first | trivial | assumption | rfl,f4,f5,j5,j6⟩
  | 4,ho =>
   cases ho
   have q3:=f3 (he ⟨3,.data⟩ (by simp) rfl)
   have h5:L 5=false:=Bool.eq_false_iff.2 fun h=>by rw [j5 h] at hL;cases hL
   have h6:L 6=false:=Bool.eq_false_iff.2 fun h=>by rw [j6 h] at h5;cases h5
   rw [hL] at gb
   simp only [↓rA,rB,buildOk,nt_is,Int.reduceEq,Int.reduceLE,Int.reduceLT,Int.reduceToNat,Nat.reduceAdd,Nat.reduceEqDiff,Nat.reduceLT,Nat.reduceLeDiff,Nat.reduceMul,Nat.reduceSub,reduceCtorEq,tbH312,Tryz.results77,hh,gr,gb,s1,s2,s4,s8,q3,k1,cond_false]
   refine OkF_with [_,_,_] [_,_,_,_] (pm34 _ _ _ _ _ _ _) (operand1_ok r b3 b4 b5 h34 h35 h45) ?_
   rintro v bs rs ⟨rfl,rfl,rfl⟩
   simp only [↓rA,rB,buildOk,nt_is,Int.reduceEq,Int.reduceLE,Int.reduceLT,Int.reduceToNat,Nat.reduceAdd,Nat.reduceEqDiff,Nat.reduceLT,Nat.reduceLeDiff,Nat.reduceMul,Nat.reduceSub,reduceCtorEq,tbH312,Tryz.results77,hh,gr,gb,s1,s2,s4,s8,q3]
   exact⟨by show _=[_,_,_,_,_,(c2,B.c (bif L 6 then _ else _)),_];rw [h6];rfl,f0,f1,f2,fun _=>by first | trivial | assumption | rfl,fun _=>by first | trivial | assumption | rfl,f5,fun _=>by first | trivial | assumption | rfl,j6⟩
  | 5,ho =>
   cases ho
   have l4:=he ⟨4,.data⟩ (by simp) rfl
   have q1:=f1 (he ⟨1,.data⟩ (by simp) rfl)
   have q2:=f2 (he ⟨2,.data⟩ (by simp) rfl)
   have q4:=f4 l4
   have h6:L 6=false:=Bool.eq_false_iff.2 fun h=>by rw [j6 h] at hL;cases hL
   rw [l4,h6] at gb
   simp only [↓rA,rB,buildOk,nt_is,Int.reduceEq,Int.reduceLE,Int.reduceLT,Int.reduceToNat,Nat.reduceAdd,Nat.reduceEqDiff,Nat.reduceLT,Nat.reduceLeDiff,Nat.reduceMul,Nat.reduceSub,reduceCtorEq,tbH312,Tryz.results77,hh,gr,gb,s1,s2,s4,s8,q1,q2,q4,cond_true,cond_false]
   refine OkF_of _ hq ?_
   simp only [↓rA,rB,buildOk,nt_is,Int.reduceEq,Int.reduceLE,Int.reduceLT,Int.reduceToNat,Nat.reduceAdd,Nat.reduceEqDiff,Nat.reduceLT,Nat.reduceLeDiff,Nat.reduceMul,Nat.reduceSub,reduceCtorEq,tbH312,Tryz.results77,hh,gr,gb,s1,s2,s4,s8,q1,q2,q4]
   exact⟨by show _=(bif L 4 then [_,_,_,_,_,(c2,B.c (bif L 6 then _ else _)),_] else _);rw [l4,h6];rfl,f0,fun _=>by first | trivial | assumption | rfl,fun _=>by first | trivial | assumption | rfl,f3,fun _=>by first | trivial | assumption | rfl,fun _=>by first | trivial | assumption | rfl,fun _=>l4,fun h=>rfl⟩
  | 6,ho =>
   cases ho
   have l5:=he ⟨5,.data⟩ (by simp) rfl
   have q5:=f5 l5
   have l4:=j5 l5
   rw [l4,hL] at gb
   simp only [↓rA,rB,buildOk,nt_is,Int.reduceEq,Int.reduceLE,Int.reduceLT,Int.reduceToNat,Nat.reduceAdd,Nat.reduceEqDiff,Nat.reduceLT,Nat.reduceLeDiff,Nat.reduceMul,Nat.reduceSub,reduceCtorEq,tbH312,Tryz.results77,hh,gr,gb,s1,s2,s4,s8,q5,cond_true,cond_false]
   exact⟨by show _=(bif L 4 then [_,_,_,_,_,(c2,B.c (bif true then _ else _)),_] else _);rw [l4];rfl,f0,f1,f2,f3,f4,fun _=>by first | trivial | assumption | rfl,fun _=>l4,fun h=>l5⟩
 ·intro L S hL ⟨gr,s1,s2,s4,s8,gb,f0,f1,f2,f3,f4,f5,j5,j6⟩
  rw [hL 4 (by simp),hL 6 (by simp)] at gb
  simp only [↓rA,rB,buildOk,nt_is,Int.reduceEq,Int.reduceLE,Int.reduceLT,Int.reduceToNat,Nat.reduceAdd,Nat.reduceEqDiff,Nat.reduceLT,Nat.reduceLeDiff,Nat.reduceMul,Nat.reduceSub,reduceCtorEq,tbH312,Tryz.results77,hh,gr,gb,s1,s2,s4,s8,cond_true]
  exact⟨_,[],[],Le.refl _,List.nil_sublist _,List.nil_sublist _,rfl,rfl,rfl⟩
def tbH313:=(aI (aI (aI (aI Ty.c75 Ty.c76) (aI Ty.c77 (aI Ty.c78 Ty.t134))) (aI (aI Ty.t136 (aI Ty.t233 Ty.t26)) (aI Ty.t28 (aI Ty.t3 Ty.t4)))) (aI (aI (aI Ty.t69 Ty.t71) (aI Ty.t73 (aI Ty.t74 Ty.t76))) (aI (aI Ty.t78 (aI Ty.t79 Ty.t81)) (aI Ty.t82 (aI Ty.t84 Ty.t9)))))
theorem rowLt_ok (r:Rw) (n:Int) (hn:inW n) (hr:r.fields=[num n]):OkP Tryz.prog 56 [.agg xTbl,.agg (cRow r),.agg xLt] (.agg (cVal (tru (decide (n < 9))))):=by
 refine Ok.of_ex Ty.mixed Tryz.func56 rfl (by simp [Tryz.ntmps56]) (by kernel_rfl) fun F w0 I0=>?_
 simp only [↓rA,rB,buildOk,nt_is,Int.reduceEq,Int.reduceLE,Int.reduceLT,Int.reduceToNat,Nat.reduceAdd,Nat.reduceEqDiff,Nat.reduceLT,Nat.reduceLeDiff,Nat.reduceMul,Nat.reduceSub,reduceCtorEq,tbH313,Tryz.results56]
 refine fun b3 h3=>?_;replace h3:=newb h3;try simp only [Nb] at h3
 simp only [↓rA,rB,buildOk,nt_is,Int.reduceEq,Int.reduceLE,Int.reduceLT,Int.reduceToNat,Nat.reduceAdd,Nat.reduceEqDiff,Nat.reduceLT,Nat.reduceLeDiff,Nat.reduceMul,Nat.reduceSub,reduceCtorEq,tbH313,Tryz.results56,h3]
 refine fun b4 h4=>?_;replace h4:=newb h4;try simp only [Nb] at h4
 simp only [↓rA,rB,buildOk,nt_is,Int.reduceEq,Int.reduceLE,Int.reduceLT,Int.reduceToNat,Nat.reduceAdd,Nat.reduceEqDiff,Nat.reduceLT,Nat.reduceLeDiff,Nat.reduceMul,Nat.reduceSub,reduceCtorEq,tbH313,Tryz.results56,h3,h4]
 refine fun b5 h5=>?_;replace h5:=newb h5;try simp only [Nb] at h5
 simp only [↓rA,rB,buildOk,nt_is,Int.reduceEq,Int.reduceLE,Int.reduceLT,Int.reduceToNat,Nat.reduceAdd,Nat.reduceEqDiff,Nat.reduceLT,Nat.reduceLeDiff,Nat.reduceMul,Nat.reduceSub,reduceCtorEq,tbH313,Tryz.results56,h3,h4,h5]
 refine fun b6 h6=>?_;replace h6:=newb h6;try simp only [Nb] at h6
 have hh:=And.intro h3 (And.intro h4 (And.intro h5 h6))
 simp only [↓rA,rB,buildOk,nt_is,Int.reduceEq,Int.reduceLE,Int.reduceLT,Int.reduceToNat,Nat.reduceAdd,Nat.reduceEqDiff,Nat.reduceLT,Nat.reduceLeDiff,Nat.reduceMul,Nat.reduceSub,reduceCtorEq,tbH313,Tryz.results56,hh]
 refine OkF_with [_,_,_] [_] (pmr4 _ _ _ _) (scalarLt_ok r n hn hr b3 b4 b5 h4.1 ⟨h5.2.1.1,h5.2.1.2⟩ h5.1) ?_
 rintro v bs rs ⟨rfl,rfl,rfl⟩
 simp only [↓rA,rB,buildOk,nt_is,Int.reduceEq,Int.reduceLE,Int.reduceLT,Int.reduceToNat,Nat.reduceAdd,Nat.reduceEqDiff,Nat.reduceLT,Nat.reduceLeDiff,Nat.reduceMul,Nat.reduceSub,reduceCtorEq,tbH313,Tryz.results56,hh]
 exact ret_done (by simp)
end Go.Proofs.YtjdggbanifineaaGreat
set_option linter.unusedSimpArgs false
set_option maxRecDepth 100000
set_option linter.defProp false
namespace Go.Ar
open Go.VL Go.Sg Go.Lo
def nOf (d:Dlt):Int:=match d.row.fields with | [v]=>v.n | _=>0
def pickM (d:Dlt):Pk:=(⟨d.row.key,d.row.event,d.row.id,num (nOf d),d.tick⟩,d.n)
def selM (ds:List Dlt):List Pk:=ds.filterMap fun d=>if nOf d < 9 then some (pickM d) else none
theorem selM_take (ds:List Dlt) (i:Nat) (h:i < ds.length):selM (ds.take (i+1))=selM (ds.take i)++(if nOf ds[i] < 9 then [pickM ds[i]] else []):=by
 unfold selM
 rw [List.take_succ_eq_append_getElem h,List.filterMap_append]
 by_cases e:nOf ds[i] < 9 <;> simp [e]
theorem selM_len (ds:List Dlt):(selM ds).length≤ds.length:=List.length_filterMap_le _ _
end Go.Ar
namespace Go.Proofs.YtjdggbanifineaaGreat
open Go.VL Go.Ar Go.Sg Go.Lo Go.Proofs.YtjdggbanifineaaGreat Go.Proofs.YtjdggbanifineaaGreat.Arr
def tbH40:=(aI (aI (aI (aI Ty.c56 Ty.t22) (aI Ty.t233 (aI Ty.t26 Ty.t28))) (aI (aI Ty.t3 Ty.t30) (aI Ty.t4 (aI Ty.t69 Ty.t71)))) (aI (aI (aI Ty.t73 Ty.t74) (aI Ty.t76 (aI Ty.t78 Ty.t79))) (aI (aI Ty.t81 (aI Ty.t82 Ty.t84)) (aI Ty.t87 (aI Ty.t88 Ty.t9)))))
theorem select_ok (ds:List Dlt) (hd:∀ d ∈ ds,d.row.table=sClicks∧∃ m,d.row.fields=[num m]∧inW m) (hl:ds.length≤1000):OkP Tryz.prog 32 [.agg xTbl,.agg xSum,vDlts ds] (vPks (selM ds)):=by
 have n2:((2:Nat):Int)=2:=rfl
 refine Ok.of_exM [(8,1)] Ty.mixed Tryz.func32 rfl (by simp [Tryz.ntmps32]) (by kernel_rfl) fun F w0 I0=>?_
 simp only [↓rA,rB,buildOk,nt_is,Int.reduceEq,Int.reduceLE,Int.reduceLT,Int.reduceToNat,Nat.reduceAdd,Nat.reduceEqDiff,Nat.reduceLT,Nat.reduceLeDiff,Nat.reduceMul,Nat.reduceSub,reduceCtorEq,tbH40,Tryz.results32]
 refine fun b3 h3=>?_;replace h3:=newb h3;try simp only [Nb] at h3
 simp only [↓rA,rB,buildOk,nt_is,Int.reduceEq,Int.reduceLE,Int.reduceLT,Int.reduceToNat,Nat.reduceAdd,Nat.reduceEqDiff,Nat.reduceLT,Nat.reduceLeDiff,Nat.reduceMul,Nat.reduceSub,reduceCtorEq,tbH40,Tryz.results32,h3]
 refine fun b4 h4=>?_;replace h4:=newb h4;try simp only [Nb] at h4
 simp only [↓rA,rB,buildOk,nt_is,Int.reduceEq,Int.reduceLE,Int.reduceLT,Int.reduceToNat,Nat.reduceAdd,Nat.reduceEqDiff,Nat.reduceLT,Nat.reduceLeDiff,Nat.reduceMul,Nat.reduceSub,reduceCtorEq,tbH40,Tryz.results32,h3,h4,n2]
 refine AWP.nilRow 6 9 30 (by simp only [↓rA,rB,buildOk,nt_is,Int.reduceEq,Int.reduceLE,Int.reduceLT,Int.reduceToNat,Nat.reduceAdd,Nat.reduceEqDiff,Nat.reduceLT,Nat.reduceLeDiff,Nat.reduceMul,Nat.reduceSub,reduceCtorEq,tbH40,Tryz.results32]) (by decide) ?_
 refine EX_forS Ty.mixed (by kernel_rfl) ds.length (fun i S=>(∃ y,S.rows=[⟨y,9,30⟩]∧S.σ 6=.list (some y) 9 ((selM (ds.take i)).map cPk))∧S.boxes=[(b4,.c xSum),(b3,.c xTbl)]∧S.σ 3=ptr b3∧S.σ 4=ptr b4∧S.σ 27=vDlts ds∧S.σ 28=vint ds.length∧S.σ 29=vint i) ⟨_,_,List.Sublist.refl _,List.Sublist.refl _,?_⟩ (fun i S hi ⟨⟨y,gr,g6⟩,gb,g3,g4,g27,g28,g29⟩=>?_) (fun S ⟨⟨y,gr,g6⟩,gb,g3,g4,g27,g28,g29⟩=>?_)
 ·simp only [↓rA,rB,buildOk,nt_is,Int.reduceEq,Int.reduceLE,Int.reduceLT,Int.reduceToNat,Nat.reduceAdd,Nat.reduceEqDiff,Nat.reduceLT,Nat.reduceLeDiff,Nat.reduceMul,Nat.reduceSub,reduceCtorEq,tbH40,Tryz.results32,List.length_map]
  exact⟨nilv,rfl,rfl⟩
 ·have hst:=selM_take ds i hi
  have hln:=selM_len (ds.take i)
  obtain⟨ht,m,hf,hw⟩:=hd ds[i] (List.getElem_mem hi)
  have w1:=wrap_succ hi (by omega)
  simp only [↓rA,rB,buildOk,nt_is,Int.reduceEq,Int.reduceLE,Int.reduceLT,Int.reduceToNat,Nat.reduceAdd,Nat.reduceEqDiff,Nat.reduceLT,Nat.reduceLeDiff,Nat.reduceMul,Nat.reduceSub,reduceCtorEq,tbH40,Tryz.results32,gb,gr,g6,g3,g4,g27,g28,g29,h3,h4,Int.ofNat_lt,hi,List.length_map,getD_map _ _ _ hi]
  generalize ds[i]=d at hst ht hf ⊢
  obtain⟨⟨id,tb,ky,ev,fs,no,tk⟩,t2,n'⟩:=d
  simp only at ht hf
  subst ht hf
  have hm:∀ d:Dlt,d.row.fields=[num m]→nOf d=m:=fun d h=>by unfold nOf;rw [h]
  rw [hm _ rfl] at hst
  clear hm
  refine fun b8 h8=>?_;replace h8:=newb h8;try simp only [Nb] at h8
  simp only [↓rA,rB,buildOk,nt_is,Int.reduceEq,Int.reduceLE,Int.reduceLT,Int.reduceToNat,Nat.reduceAdd,Nat.reduceEqDiff,Nat.reduceLT,Nat.reduceLeDiff,Nat.reduceMul,Nat.reduceSub,reduceCtorEq,tbH40,Tryz.results32,gb,gr,g6,g3,g4,g27,g28,g29,h3,h4,h8]
  refine fun b9 h9=>?_;replace h9:=newb h9;try simp only [Nb] at h9
  have hh:=And.intro h3 (And.intro h4 (And.intro h8 h9))
  simp only [↓rA,rB,buildOk,nt_is,Int.reduceEq,Int.reduceLE,Int.reduceLT,Int.reduceToNat,Nat.reduceAdd,Nat.reduceEqDiff,Nat.reduceLT,Nat.reduceLeDiff,Nat.reduceMul,Nat.reduceSub,reduceCtorEq,tbH40,Tryz.results32,gb,gr,g6,g3,g4,g27,g28,g29,hh,n2]
  refine CallV_of _ (rowLt_ok ⟨id,sClicks,ky,ev,[num m],no,tk⟩ m hw rfl).v ?_
  by_cases h:m < 9
  ·rw [if_pos h] at hst
   rw [decide_eq_true h]
   simp only [↓rA,rB,buildOk,nt_is,Int.reduceEq,Int.reduceLE,Int.reduceLT,Int.reduceToNat,Nat.reduceAdd,Nat.reduceEqDiff,Nat.reduceLT,Nat.reduceLeDiff,Nat.reduceMul,Nat.reduceSub,reduceCtorEq,tbH40,Tryz.results32,gb,gr,g6,g3,g4,g27,g28,g29,hh,n2]
   refine CallV_of _ (rowN_ok ⟨id,sClicks,ky,ev,[num m],no,tk⟩ m rfl).v ?_
   simp only [↓rA,rB,buildOk,nt_is,Int.reduceEq,Int.reduceLE,Int.reduceLT,Int.reduceToNat,Nat.reduceAdd,Nat.reduceEqDiff,Nat.reduceLT,Nat.reduceLeDiff,Nat.reduceMul,Nat.reduceSub,reduceCtorEq,tbH40,Tryz.results32,gb,gr,g6,g3,g4,g27,g28,g29,hh,n2]
   refine fun b10 h10=>?_;replace h10:=newb h10;try simp only [Nb] at h10
   simp only [↓rA,rB,buildOk,nt_is,Int.reduceEq,Int.reduceLE,Int.reduceLT,Int.reduceToNat,Nat.reduceAdd,Nat.reduceEqDiff,Nat.reduceLT,Nat.reduceLeDiff,Nat.reduceMul,Nat.reduceSub,reduceCtorEq,tbH40,Tryz.results32,gb,gr,g6,g3,g4,g27,g28,g29,hh,h10,n2]
   refine fun y1=>takeRF_2 ?_
   simp only [↓rA,rB,buildOk,nt_is,Int.reduceEq,Int.reduceLE,Int.reduceLT,Int.reduceToNat,Nat.reduceAdd,Nat.reduceEqDiff,Nat.reduceLT,Nat.reduceLeDiff,Nat.reduceMul,Nat.reduceSub,reduceCtorEq,tbH40,Tryz.results32,gb,gr,g6,g3,g4,g27,g28,g29,hh,h10,n2,List.length_map,w1]
   rw [List.length_take] at hln
   refine⟨by omega,fun y2=>?_⟩
   refine⟨[_,_],[⟨y2,9,30⟩],List.Sublist.cons _ (List.Sublist.cons _ (List.Sublist.cons _ (List.Sublist.refl _))),List.Sublist.cons_cons _ (List.nil_sublist _),⟨y2,rfl,?_⟩,rfl,?_⟩
   ·rw [hst,List.map_append]
    simp only [↓rA,rB,buildOk,nt_is,Int.reduceEq,Int.reduceLE,Int.reduceLT,Int.reduceToNat,Nat.reduceAdd,Nat.reduceEqDiff,Nat.reduceLT,Nat.reduceLeDiff,Nat.reduceMul,Nat.reduceSub,reduceCtorEq,tbH40,Tryz.results32,g6]
    rfl
   ·simp only [↓rA,rB,buildOk,nt_is,Int.reduceEq,Int.reduceLE,Int.reduceLT,Int.reduceToNat,Nat.reduceAdd,Nat.reduceEqDiff,Nat.reduceLT,Nat.reduceLeDiff,Nat.reduceMul,Nat.reduceSub,reduceCtorEq,tbH40,Tryz.results32,g3,g4,g27,g28,g29]
  ·rw [if_neg h,List.append_nil] at hst
   rw [decide_eq_false h]
   simp only [↓rA,rB,buildOk,nt_is,Int.reduceEq,Int.reduceLE,Int.reduceLT,Int.reduceToNat,Nat.reduceAdd,Nat.reduceEqDiff,Nat.reduceLT,Nat.reduceLeDiff,Nat.reduceMul,Nat.reduceSub,reduceCtorEq,tbH40,Tryz.results32,gb,gr,g6,g3,g4,g27,g28,g29,hh,n2,w1]
   refine⟨[_,_],_,List.Sublist.cons _ (List.Sublist.cons _ (List.Sublist.refl _)),List.Sublist.refl _,⟨y,?_,?_⟩,rfl,?_⟩
   ·simp only [↓rA,rB,buildOk,nt_is,Int.reduceEq,Int.reduceLE,Int.reduceLT,Int.reduceToNat,Nat.reduceAdd,Nat.reduceEqDiff,Nat.reduceLT,Nat.reduceLeDiff,Nat.reduceMul,Nat.reduceSub,reduceCtorEq,tbH40,Tryz.results32,gr]
   ·rw [hst]
    simp only [↓rA,rB,buildOk,nt_is,Int.reduceEq,Int.reduceLE,Int.reduceLT,Int.reduceToNat,Nat.reduceAdd,Nat.reduceEqDiff,Nat.reduceLT,Nat.reduceLeDiff,Nat.reduceMul,Nat.reduceSub,reduceCtorEq,tbH40,Tryz.results32,g6]
   ·simp only [↓rA,rB,buildOk,nt_is,Int.reduceEq,Int.reduceLE,Int.reduceLT,Int.reduceToNat,Nat.reduceAdd,Nat.reduceEqDiff,Nat.reduceLT,Nat.reduceLeDiff,Nat.reduceMul,Nat.reduceSub,reduceCtorEq,tbH40,Tryz.results32,g3,g4,g27,g28,g29]
 ·rw [List.take_length] at g6
  simp only [↓rA,rB,buildOk,nt_is,Int.reduceEq,Int.reduceLE,Int.reduceLT,Int.reduceToNat,Nat.reduceAdd,Nat.reduceEqDiff,Nat.reduceLT,Nat.reduceLeDiff,Nat.reduceMul,Nat.reduceSub,reduceCtorEq,tbH40,Tryz.results32,gb,gr,g6,g3,g4,g27,g28,g29,Int.ofNat_lt,Nat.lt_irrefl]
  exact ret_le (Le.list _ _ _)
def tbH41:=(aI (aI (aI Ty.t117 (aI Ty.t26 Ty.t28)) (aI (aI Ty.t3 Ty.t31) (aI Ty.t4 Ty.t49))) (aI (aI (aI Ty.t51 Ty.t52) (aI Ty.t53 Ty.t55)) (aI (aI Ty.t57 Ty.t65) (aI Ty.t9 Ty.t91))))
theorem at_ok (l:List Cl) (ev:List Int) (hl:l.length≤1000) (own:Option Value) (h:l.map (·.1)=ev):OkP Tryz.prog 33 [vCls l,.list own 1 (ev.map fun e=>[vint e])] (vbool true):=by
 have hev:ev.length=l.length:=by rw [← h,List.length_map]
 have hge:∀ i (hi:i < l.length),(ev.map fun e=>[vint e]).getD i []=[vint l[i].1]:=fun i hi=>by
  rw [getD_map _ _ _ (by omega)]
  simp [← h]
 clear h
 have hgl:∀ i (hi:i < l.length),(l.map cCl).getD i []=cCl l[i]:=fun i hi=>getD_map _ _ _ hi
 refine Ok.of_ex Ty.mixed Tryz.func33 rfl (by simp [Tryz.ntmps33]) (by kernel_rfl) fun F w0 I0=>?_
 simp only [↓rA,rB,buildOk,nt_is,Int.reduceEq,Int.reduceLE,Int.reduceLT,Int.reduceToNat,Nat.reduceAdd,Nat.reduceEqDiff,Nat.reduceLT,Nat.reduceLeDiff,Nat.reduceMul,Nat.reduceSub,reduceCtorEq,tbH41,Tryz.results33,List.length_map,hev]
 refine EX_for Ty.mixed (by kernel_rfl) l.length (fun i S=>S.rows=[]∧S.boxes=[]∧S.σ 0=vCls l∧S.σ 1=.list own 1 (ev.map fun e=>[vint e])∧S.σ 5=vint i) ⟨0,?_⟩ (fun i S hi ⟨gr,gb,g0,g1,g5⟩=>?_) (fun S ⟨gr,gb,g0,g1,g5⟩=>?_)
 ·simp only [↓rA,rB,buildOk,nt_is,Int.reduceEq,Int.reduceLE,Int.reduceLT,Int.reduceToNat,Nat.reduceAdd,Nat.reduceEqDiff,Nat.reduceLT,Nat.reduceLeDiff,Nat.reduceMul,Nat.reduceSub,reduceCtorEq,tbH41,Tryz.results33]
 ·have w1:=wrap_succ hi (by omega)
  simp only [↓rA,rB,buildOk,nt_is,Int.reduceEq,Int.reduceLE,Int.reduceLT,Int.reduceToNat,Nat.reduceAdd,Nat.reduceEqDiff,Nat.reduceLT,Nat.reduceLeDiff,Nat.reduceMul,Nat.reduceSub,reduceCtorEq,tbH41,Tryz.results33,gr,gb,g0,g1,g5,Int.ofNat_lt,hi,List.length_map,hev,hge _ hi,hgl _ hi,w1]
  exact⟨0,by trivial⟩
 ·simp only [↓rA,rB,buildOk,nt_is,Int.reduceEq,Int.reduceLE,Int.reduceLT,Int.reduceToNat,Nat.reduceAdd,Nat.reduceEqDiff,Nat.reduceLT,Nat.reduceLeDiff,Nat.reduceMul,Nat.reduceSub,reduceCtorEq,tbH41,Tryz.results33,gr,gb,g0,g1,g5,Int.ofNat_lt,Nat.lt_irrefl,List.length_map]
  exact ret_done rfl
abbrev cEx (e:Int):List V:=[vint e,vint 1,vint 0,vu e,nilS,nilS]
def exC (ev:List Int):List Cl:=ev.map fun e=>(e,(1,(e,([],[]))))
def tbH42:=(aI (aI (aI Ty.t117 (aI Ty.t26 Ty.t28)) (aI (aI Ty.t3 Ty.t31) (aI Ty.t4 Ty.t49))) (aI (aI (aI Ty.t51 Ty.t52) (aI Ty.t53 Ty.t55)) (aI (aI Ty.t57 Ty.t65) (aI Ty.t9 Ty.t91))))
theorem exCells_ok (ev:List Int) (own:Option Value) (hl:ev.length≤1000) (hp:∀ e ∈ ev,0≤e∧e < 1000000):OkP Tryz.prog 34 [.list own 1 (ev.map fun e=>[vint e])] (vCls (exC ev)):=by
 refine Ok.of_ex Ty.mixed Tryz.func34 rfl (by simp [Tryz.ntmps34]) (by kernel_rfl) fun F w0 I0=>?_
 simp only [↓rA,rB,buildOk,nt_is,Int.reduceEq,Int.reduceLE,Int.reduceLT,Int.reduceToNat,Nat.reduceAdd,Nat.reduceEqDiff,Nat.reduceLT,Nat.reduceLeDiff,Nat.reduceMul,Nat.reduceSub,reduceCtorEq,tbH42,Tryz.results34]
 refine AWP.nilRow 3 6 57 (by simp only [↓rA,rB,buildOk,nt_is,Int.reduceEq,Int.reduceLE,Int.reduceLT,Int.reduceToNat,Nat.reduceAdd,Nat.reduceEqDiff,Nat.reduceLT,Nat.reduceLeDiff,Nat.reduceMul,Nat.reduceSub,reduceCtorEq,tbH42,Tryz.results34]) (by decide) ?_
 refine EX_forS Ty.mixed (by kernel_rfl) ev.length (fun i S=>(∃ y,S.rows=[⟨y,6,57⟩]∧S.σ 3=.list (some y) 6 ((ev.take i).map cEx))∧S.boxes=[]∧S.σ 0=.list own 1 (ev.map fun e=>[vint e])∧S.σ 4=vint i) ⟨_,_,List.Sublist.refl _,List.Sublist.refl _,?_⟩ (fun i S hi ⟨⟨y,gr,g3⟩,gb,g0,g4⟩=>?_) (fun S ⟨⟨y,gr,g3⟩,gb,g0,g4⟩=>?_)
 ·simp only [↓rA,rB,buildOk,nt_is,Int.reduceEq,Int.reduceLE,Int.reduceLT,Int.reduceToNat,Nat.reduceAdd,Nat.reduceEqDiff,Nat.reduceLT,Nat.reduceLeDiff,Nat.reduceMul,Nat.reduceSub,reduceCtorEq,tbH42,Tryz.results34]
  exact⟨nilv,rfl,rfl⟩
 ·have w1:=wrap_succ hi (by omega)
  have hpe:=hp _ (List.getElem_mem hi)
  have hst:(ev.take (i+1)).map cEx=(ev.take i).map cEx++[cEx ev[i]]:=by rw [List.take_succ_eq_append_getElem hi,List.map_append];rfl
  have u1:IntKind.u64.wrap ev[i]=ev[i]:=by rw [IntKind.wrap_u64];omega
  simp only [↓rA,rB,buildOk,nt_is,Int.reduceEq,Int.reduceLE,Int.reduceLT,Int.reduceToNat,Nat.reduceAdd,Nat.reduceEqDiff,Nat.reduceLT,Nat.reduceLeDiff,Nat.reduceMul,Nat.reduceSub,reduceCtorEq,tbH42,Tryz.results34,gb,gr,g3,g0,g4,Int.ofNat_lt,hi,List.length_map,getD_map _ _ _ hi,u1,w1,List.length_take]
  refine⟨by omega,fun y2=>?_⟩
  refine⟨_,_,List.Sublist.refl _,List.Sublist.refl _,⟨y2,?_,?_⟩,?_,?_⟩
  ·simp only [↓rA,rB,buildOk,nt_is,Int.reduceEq,Int.reduceLE,Int.reduceLT,Int.reduceToNat,Nat.reduceAdd,Nat.reduceEqDiff,Nat.reduceLT,Nat.reduceLeDiff,Nat.reduceMul,Nat.reduceSub,reduceCtorEq,tbH42,Tryz.results34,gr]
  ·rw [hst]
   simp only [↓rA,rB,buildOk,nt_is,Int.reduceEq,Int.reduceLE,Int.reduceLT,Int.reduceToNat,Nat.reduceAdd,Nat.reduceEqDiff,Nat.reduceLT,Nat.reduceLeDiff,Nat.reduceMul,Nat.reduceSub,reduceCtorEq,tbH42,Tryz.results34,g3]
  ·simp only [↓rA,rB,buildOk,nt_is,Int.reduceEq,Int.reduceLE,Int.reduceLT,Int.reduceToNat,Nat.reduceAdd,Nat.reduceEqDiff,Nat.reduceLT,Nat.reduceLeDiff,Nat.reduceMul,Nat.reduceSub,reduceCtorEq,tbH42,Tryz.results34,gb]
  ·simp only [↓rA,rB,buildOk,nt_is,Int.reduceEq,Int.reduceLE,Int.reduceLT,Int.reduceToNat,Nat.reduceAdd,Nat.reduceEqDiff,Nat.reduceLT,Nat.reduceLeDiff,Nat.reduceMul,Nat.reduceSub,reduceCtorEq,tbH42,Tryz.results34,g0,g4]
 ·rw [List.take_length] at g3
  simp only [↓rA,rB,buildOk,nt_is,Int.reduceEq,Int.reduceLE,Int.reduceLT,Int.reduceToNat,Nat.reduceAdd,Nat.reduceEqDiff,Nat.reduceLT,Nat.reduceLeDiff,Nat.reduceMul,Nat.reduceSub,reduceCtorEq,tbH42,Tryz.results34,gb,gr,g3,g0,g4,Int.ofNat_lt,Nat.lt_irrefl,List.length_map]
  refine ret_le ?_
  have hr:∀ l:List Int,(∀ e ∈ l,0≤e∧e < 1000000)→LeR (l.map cEx) ((exC l).map cCl):=fun l=>by
   induction l with
   | nil=>exact fun _=>.nil
   | cons e l ih =>
    intro hp
    have h1:=hp e List.mem_cons_self
    refine .cons ?_ (ih fun q hq=>hp q (List.mem_cons_of_mem _ hq))
    have e1:e / 18446744073709551616=0:=by omega
    have e2:e % 18446744073709551616=e:=by omega
    show LeL _ [_,_,vint (e / 18446744073709551616),vu (e % 18446744073709551616),_,_]
    rw [e1,e2]
    exact .cons (Le.refl _) (.cons (Le.refl _) (.cons (Le.refl _) (.cons (Le.refl _) (.cons (Le.nil 6) (.cons (Le.nil 2) .nil)))))
  intro w I x hx
  exact Le.list (some y) _ _ w I x (Le.rows (hr ev hp) w I x hx)
end Go.Proofs.YtjdggbanifineaaGreat
