/- Merged out of my texts LX LO LY LZ L1 L2 L3 N1 N2 N3 N4. -/
import Derived.Test.YtphkmlogjgeipaaDoorKb
import Derived.Test.YtphkmlogjgeipaaDoorVH
set_option linter.unusedVariables false
/- Contracts of lowering, part p: lower.Class where at most one feature is used. -/
set_option linter.unusedSimpArgs false
set_option maxRecDepth 100000
namespace Go.Proofs.YtphkmlogjgeipaaDoor
open Go.VL Go.Ar Go.Lo Go.Proofs.YtphkmlogjgeipaaDoor

set_option linter.defProp false in
def tbLX0 := (And.intro (And.intro (And.intro (And.intro (And.intro (And.intro (And.intro Ty.sz3 Ty.by3) (And.intro Ty.ag3 (And.intro Ty.zr3 Ty.un3))) (And.intro (And.intro Ty.sz4 Ty.by4) (And.intro Ty.ag4 (And.intro Ty.zr4 Ty.un4)))) (And.intro (And.intro (And.intro Ty.sz9 Ty.by9) (And.intro Ty.ag9 (And.intro Ty.zr9 Ty.un9))) (And.intro (And.intro Ty.sz23 Ty.by23) (And.intro Ty.ag23 (And.intro Ty.zr23 Ty.fl23_0))))) (And.intro (And.intro (And.intro (And.intro Ty.pl23_0 Ty.fl23_1) (And.intro Ty.pl23_1 (And.intro Ty.fl23_2 Ty.pl23_2))) (And.intro (And.intro Ty.sz24 Ty.by24) (And.intro Ty.ag24 (And.intro Ty.zr24 Ty.un24)))) (And.intro (And.intro (And.intro Ty.sz26 Ty.by26) (And.intro Ty.ag26 (And.intro Ty.zr26 Ty.fl26_0))) (And.intro (And.intro Ty.pl26_0 (And.intro Ty.fl26_1 Ty.pl26_1)) (And.intro Ty.sz27 (And.intro Ty.by27 Ty.ag27)))))) (And.intro (And.intro (And.intro (And.intro (And.intro Ty.zr27 Ty.un27) (And.intro Ty.sz29 (And.intro Ty.by29 Ty.ag29))) (And.intro (And.intro Ty.zr29 Ty.fl29_0) (And.intro Ty.pl29_0 (And.intro Ty.fl29_1 Ty.pl29_1)))) (And.intro (And.intro (And.intro Ty.fl29_2 Ty.pl29_2) (And.intro Ty.fl29_3 (And.intro Ty.pl29_3 Ty.fl29_4))) (And.intro (And.intro Ty.pl29_4 Ty.fl29_5) (And.intro Ty.pl29_5 (And.intro Ty.fl29_6 Ty.pl29_6))))) (And.intro (And.intro (And.intro (And.intro Ty.fl29_7 Ty.pl29_7) (And.intro Ty.fl29_8 (And.intro Ty.pl29_8 Ty.sz56))) (And.intro (And.intro Ty.by56 Ty.ag56) (And.intro Ty.zr56 (And.intro Ty.fl56_0 Ty.pl56_0)))) (And.intro (And.intro (And.intro Ty.fl56_1 Ty.pl56_1) (And.intro Ty.fl56_2 (And.intro Ty.pl56_2 Ty.sz58))) (And.intro (And.intro Ty.by58 (And.intro Ty.ag58 Ty.zr58)) (And.intro Ty.fl58_0 (And.intro Ty.pl58_0 Ty.fl58_1))))))) (And.intro (And.intro (And.intro (And.intro (And.intro (And.intro Ty.pl58_1 Ty.fl58_2) (And.intro Ty.pl58_2 (And.intro Ty.fl58_3 Ty.pl58_3))) (And.intro (And.intro Ty.fl58_4 Ty.pl58_4) (And.intro Ty.sz60 (And.intro Ty.by60 Ty.ag60)))) (And.intro (And.intro (And.intro Ty.zr60 Ty.fl60_0) (And.intro Ty.pl60_0 (And.intro Ty.fl60_1 Ty.pl60_1))) (And.intro (And.intro Ty.sz61 Ty.by61) (And.intro Ty.ag61 (And.intro Ty.zr61 Ty.un61))))) (And.intro (And.intro (And.intro (And.intro Ty.sz63 Ty.by63) (And.intro Ty.ag63 (And.intro Ty.zr63 Ty.fl63_0))) (And.intro (And.intro Ty.pl63_0 Ty.fl63_1) (And.intro Ty.pl63_1 (And.intro Ty.fl63_2 Ty.pl63_2)))) (And.intro (And.intro (And.intro Ty.fl63_3 Ty.pl63_3) (And.intro Ty.sz64 (And.intro Ty.by64 Ty.ag64))) (And.intro (And.intro Ty.zr64 (And.intro Ty.un64 Ty.sz65)) (And.intro Ty.by65 (And.intro Ty.ag65 Ty.zr65)))))) (And.intro (And.intro (And.intro (And.intro (And.intro Ty.un65 Ty.sz67) (And.intro Ty.by67 (And.intro Ty.ag67 Ty.zr67))) (And.intro (And.intro Ty.fl67_0 Ty.pl67_0) (And.intro Ty.fl67_1 (And.intro Ty.pl67_1 Ty.fl67_2)))) (And.intro (And.intro (And.intro Ty.pl67_2 Ty.fl67_3) (And.intro Ty.pl67_3 (And.intro Ty.sz82 Ty.by82))) (And.intro (And.intro Ty.ag82 (And.intro Ty.zr82 Ty.un82)) (And.intro Ty.sz83 (And.intro Ty.by83 Ty.ag83))))) (And.intro (And.intro (And.intro (And.intro Ty.zr83 Ty.sz84) (And.intro Ty.by84 (And.intro Ty.ag84 Ty.sz86))) (And.intro (And.intro Ty.by86 Ty.ag86) (And.intro Ty.sz105 (And.intro Ty.by105 Ty.ag105)))) (And.intro (And.intro (And.intro Ty.zr105 Ty.fl105_0) (And.intro Ty.pl105_0 (And.intro Ty.fl105_1 Ty.pl105_1))) (And.intro (And.intro Ty.eq23 (And.intro Ty.eq26 Ty.eq105)) (And.intro Ty.cb29 (And.intro Ty.cb33 Ty.cb34))))))))
theorem class_none (c : Cat) (x : E) (hf : Fit x) (O : List Str) (hu : OkP Tryd.prog 33 [vCat c, vE x] (.tup [vstrs [], vstrs O])) : OkP Tryd.prog 18 [vCat c, vE x] (vint (eachM x 0)) := by
  have ho := fun bn => own_ok x hf bn 0
  simp only [vE, cE_eq x] at ho hu ⊢
  refine Ok.of_ex Ty.mixed Tryd.func18 rfl (by simp [Tryd.ntmps18]) (by kernel_rfl) fun F w0 I0 => ?_
  simp only [↓rA, rB, Int.reduceEq, Int.reduceLE, Int.reduceLT, Int.reduceToNat, Nat.reduceAdd, Nat.reduceEqDiff, Nat.reduceLT, Nat.reduceLeDiff, Nat.reduceMul, Nat.reduceSub, reduceCtorEq, tbLX0, Tryd.results18]
  refine fun b2 h2 => ?_; replace h2 := newb h2; try simp only [Nb] at h2
  simp only [↓rA, rB, Int.reduceEq, Int.reduceLE, Int.reduceLT, Int.reduceToNat, Nat.reduceAdd, Nat.reduceEqDiff, Nat.reduceLT, Nat.reduceLeDiff, Nat.reduceMul, Nat.reduceSub, reduceCtorEq, tbLX0, Tryd.results18, h2]
  refine fun b3 h3 => ?_; replace h3 := newb h3; try simp only [Nb] at h3
  simp only [↓rA, rB, Int.reduceEq, Int.reduceLE, Int.reduceLT, Int.reduceToNat, Nat.reduceAdd, Nat.reduceEqDiff, Nat.reduceLT, Nat.reduceLeDiff, Nat.reduceMul, Nat.reduceSub, reduceCtorEq, tbLX0, Tryd.results18, h2, h3]
  refine fun b4 h4 => ?_; replace h4 := newb h4; try simp only [Nb] at h4
  simp only [↓rA, rB, Int.reduceEq, Int.reduceLE, Int.reduceLT, Int.reduceToNat, Nat.reduceAdd, Nat.reduceEqDiff, Nat.reduceLT, Nat.reduceLeDiff, Nat.reduceMul, Nat.reduceSub, reduceCtorEq, tbLX0, Tryd.results18, h2, h3, h4]
  refine OkF_with [_] [_, _] (List.Perm.refl _) (ho b4) ?_
  rintro v bs rs ⟨rfl, rfl, rfl⟩
  simp only [↓rA, rB, Int.reduceEq, Int.reduceLE, Int.reduceLT, Int.reduceToNat, Nat.reduceAdd, Nat.reduceEqDiff, Nat.reduceLT, Nat.reduceLeDiff, Nat.reduceMul, Nat.reduceSub, reduceCtorEq, tbLX0, Tryd.results18, h2, h3, h4]
  refine OkF_of _ hu ?_
  simp only [↓rA, rB, Int.reduceEq, Int.reduceLE, Int.reduceLT, Int.reduceToNat, Nat.reduceAdd, Nat.reduceEqDiff, Nat.reduceLT, Nat.reduceLeDiff, Nat.reduceMul, Nat.reduceSub, reduceCtorEq, tbLX0, Tryd.results18, h2, h3, h4]
  refine EX_for Ty.mixed (by kernel_rfl) 0 (fun _ S => S.boxes = [(b4, .c [vint (eachM x 0)]), (b3, .c (cH x.hd (vEs x.args))), (b2, .c (cCat c))] ∧ S.rows = [] ∧ S.σ 4 = ptr b4 ∧ S.σ 22 = vstrs [] ∧ S.σ 23 = vint 0 ∧ S.σ 24 = vint 0) ⟨0, ?_⟩ (fun i S hi _ => absurd hi (Nat.not_lt_zero _)) (fun S ⟨gb, gr, g4, g22, g23, g24⟩ => ?_)
  · simp only [↓rA, rB, Int.reduceEq, Int.reduceLE, Int.reduceLT, Int.reduceToNat, Nat.reduceAdd, Nat.reduceEqDiff, Nat.reduceLT, Nat.reduceLeDiff, Nat.reduceMul, Nat.reduceSub, reduceCtorEq, tbLX0, Tryd.results18, h2, h3, h4]
  · simp only [↓rA, rB, Int.reduceEq, Int.reduceLE, Int.reduceLT, Int.reduceToNat, Nat.reduceAdd, Nat.reduceEqDiff, Nat.reduceLT, Nat.reduceLeDiff, Nat.reduceMul, Nat.reduceSub, reduceCtorEq, tbLX0, Tryd.results18, gb, gr, g4, g22, g23, g24, h2, h3, h4]
    exact ret_done rfl
set_option linter.defProp false in
def tbLX1 := (And.intro (And.intro (And.intro (And.intro (And.intro (And.intro (And.intro Ty.sz3 Ty.by3) (And.intro Ty.ag3 (And.intro Ty.zr3 Ty.un3))) (And.intro (And.intro Ty.sz4 Ty.by4) (And.intro Ty.ag4 (And.intro Ty.zr4 Ty.un4)))) (And.intro (And.intro (And.intro Ty.sz9 Ty.by9) (And.intro Ty.ag9 (And.intro Ty.zr9 Ty.un9))) (And.intro (And.intro Ty.sz23 Ty.by23) (And.intro Ty.ag23 (And.intro Ty.zr23 Ty.fl23_0))))) (And.intro (And.intro (And.intro (And.intro Ty.pl23_0 Ty.fl23_1) (And.intro Ty.pl23_1 (And.intro Ty.fl23_2 Ty.pl23_2))) (And.intro (And.intro Ty.sz24 Ty.by24) (And.intro Ty.ag24 (And.intro Ty.zr24 Ty.un24)))) (And.intro (And.intro (And.intro Ty.sz26 Ty.by26) (And.intro Ty.ag26 (And.intro Ty.zr26 Ty.fl26_0))) (And.intro (And.intro Ty.pl26_0 (And.intro Ty.fl26_1 Ty.pl26_1)) (And.intro Ty.sz27 (And.intro Ty.by27 Ty.ag27)))))) (And.intro (And.intro (And.intro (And.intro (And.intro Ty.zr27 Ty.un27) (And.intro Ty.sz29 (And.intro Ty.by29 Ty.ag29))) (And.intro (And.intro Ty.zr29 Ty.fl29_0) (And.intro Ty.pl29_0 (And.intro Ty.fl29_1 Ty.pl29_1)))) (And.intro (And.intro (And.intro Ty.fl29_2 Ty.pl29_2) (And.intro Ty.fl29_3 (And.intro Ty.pl29_3 Ty.fl29_4))) (And.intro (And.intro Ty.pl29_4 Ty.fl29_5) (And.intro Ty.pl29_5 (And.intro Ty.fl29_6 Ty.pl29_6))))) (And.intro (And.intro (And.intro (And.intro Ty.fl29_7 Ty.pl29_7) (And.intro Ty.fl29_8 (And.intro Ty.pl29_8 Ty.sz56))) (And.intro (And.intro Ty.by56 Ty.ag56) (And.intro Ty.zr56 (And.intro Ty.fl56_0 Ty.pl56_0)))) (And.intro (And.intro (And.intro Ty.fl56_1 Ty.pl56_1) (And.intro Ty.fl56_2 (And.intro Ty.pl56_2 Ty.sz58))) (And.intro (And.intro Ty.by58 (And.intro Ty.ag58 Ty.zr58)) (And.intro Ty.fl58_0 (And.intro Ty.pl58_0 Ty.fl58_1))))))) (And.intro (And.intro (And.intro (And.intro (And.intro (And.intro Ty.pl58_1 Ty.fl58_2) (And.intro Ty.pl58_2 (And.intro Ty.fl58_3 Ty.pl58_3))) (And.intro (And.intro Ty.fl58_4 Ty.pl58_4) (And.intro Ty.sz60 (And.intro Ty.by60 Ty.ag60)))) (And.intro (And.intro (And.intro Ty.zr60 Ty.fl60_0) (And.intro Ty.pl60_0 (And.intro Ty.fl60_1 Ty.pl60_1))) (And.intro (And.intro Ty.sz61 Ty.by61) (And.intro Ty.ag61 (And.intro Ty.zr61 Ty.un61))))) (And.intro (And.intro (And.intro (And.intro Ty.sz63 Ty.by63) (And.intro Ty.ag63 (And.intro Ty.zr63 Ty.fl63_0))) (And.intro (And.intro Ty.pl63_0 Ty.fl63_1) (And.intro Ty.pl63_1 (And.intro Ty.fl63_2 Ty.pl63_2)))) (And.intro (And.intro (And.intro Ty.fl63_3 Ty.pl63_3) (And.intro Ty.sz64 (And.intro Ty.by64 Ty.ag64))) (And.intro (And.intro Ty.zr64 (And.intro Ty.un64 Ty.sz65)) (And.intro Ty.by65 (And.intro Ty.ag65 Ty.zr65)))))) (And.intro (And.intro (And.intro (And.intro (And.intro Ty.un65 Ty.sz67) (And.intro Ty.by67 (And.intro Ty.ag67 Ty.zr67))) (And.intro (And.intro Ty.fl67_0 Ty.pl67_0) (And.intro Ty.fl67_1 (And.intro Ty.pl67_1 Ty.fl67_2)))) (And.intro (And.intro (And.intro Ty.pl67_2 Ty.fl67_3) (And.intro Ty.pl67_3 (And.intro Ty.sz82 Ty.by82))) (And.intro (And.intro Ty.ag82 (And.intro Ty.zr82 Ty.un82)) (And.intro Ty.sz83 (And.intro Ty.by83 Ty.ag83))))) (And.intro (And.intro (And.intro (And.intro Ty.zr83 Ty.sz84) (And.intro Ty.by84 (And.intro Ty.ag84 Ty.sz86))) (And.intro (And.intro Ty.by86 Ty.ag86) (And.intro Ty.sz105 (And.intro Ty.by105 Ty.ag105)))) (And.intro (And.intro (And.intro Ty.zr105 Ty.fl105_0) (And.intro Ty.pl105_0 (And.intro Ty.fl105_1 Ty.pl105_1))) (And.intro (And.intro Ty.eq23 (And.intro Ty.eq26 Ty.eq105)) (And.intro Ty.cb29 (And.intro Ty.cb33 Ty.cb34))))))))
theorem class_one (c : Cat) (x : E) (hf : Fit x) (hfe : c.features.length ≤ big) (f : Str) (g : Ftr) (hg : Fit g.body) (hfi : findF c.features f = some g) (O : List Str) (hu : OkP Tryd.prog 33 [vCat c, vE x] (.tup [vstrs [f], vstrs O])) : OkP Tryd.prog 18 [vCat c, vE x] (vint (eachM g.body (eachM x 0))) := by
  have ho := fun bn => own_ok x hf bn 0
  have hq := fun bn => own_ok g.body hg bn (eachM x 0)
  have hfo := feature_ok c f hfe
  rw [hfi] at hfo
  simp only [vFind, cFtr_eq] at hfo
  simp only [vE, cE_eq x, cE_eq g.body] at ho hq hu ⊢
  refine Ok.of_ex Ty.mixed Tryd.func18 rfl (by simp [Tryd.ntmps18]) (by kernel_rfl) fun F w0 I0 => ?_
  simp only [↓rA, rB, Int.reduceEq, Int.reduceLE, Int.reduceLT, Int.reduceToNat, Nat.reduceAdd, Nat.reduceEqDiff, Nat.reduceLT, Nat.reduceLeDiff, Nat.reduceMul, Nat.reduceSub, reduceCtorEq, tbLX1, Tryd.results18]
  refine fun b2 h2 => ?_; replace h2 := newb h2; try simp only [Nb] at h2
  simp only [↓rA, rB, Int.reduceEq, Int.reduceLE, Int.reduceLT, Int.reduceToNat, Nat.reduceAdd, Nat.reduceEqDiff, Nat.reduceLT, Nat.reduceLeDiff, Nat.reduceMul, Nat.reduceSub, reduceCtorEq, tbLX1, Tryd.results18, h2]
  refine fun b3 h3 => ?_; replace h3 := newb h3; try simp only [Nb] at h3
  simp only [↓rA, rB, Int.reduceEq, Int.reduceLE, Int.reduceLT, Int.reduceToNat, Nat.reduceAdd, Nat.reduceEqDiff, Nat.reduceLT, Nat.reduceLeDiff, Nat.reduceMul, Nat.reduceSub, reduceCtorEq, tbLX1, Tryd.results18, h2, h3]
  refine fun b4 h4 => ?_; replace h4 := newb h4; try simp only [Nb] at h4
  simp only [↓rA, rB, Int.reduceEq, Int.reduceLE, Int.reduceLT, Int.reduceToNat, Nat.reduceAdd, Nat.reduceEqDiff, Nat.reduceLT, Nat.reduceLeDiff, Nat.reduceMul, Nat.reduceSub, reduceCtorEq, tbLX1, Tryd.results18, h2, h3, h4]
  refine OkF_with [_] [_, _] (List.Perm.refl _) (ho b4) ?_
  rintro v bs rs ⟨rfl, rfl, rfl⟩
  simp only [↓rA, rB, Int.reduceEq, Int.reduceLE, Int.reduceLT, Int.reduceToNat, Nat.reduceAdd, Nat.reduceEqDiff, Nat.reduceLT, Nat.reduceLeDiff, Nat.reduceMul, Nat.reduceSub, reduceCtorEq, tbLX1, Tryd.results18, h2, h3, h4]
  refine OkF_of _ hu ?_
  simp only [↓rA, rB, Int.reduceEq, Int.reduceLE, Int.reduceLT, Int.reduceToNat, Nat.reduceAdd, Nat.reduceEqDiff, Nat.reduceLT, Nat.reduceLeDiff, Nat.reduceMul, Nat.reduceSub, reduceCtorEq, tbLX1, Tryd.results18, h2, h3, h4]
  refine EX_for Ty.mixed (by kernel_rfl) 1 (fun i S => S.boxes = [(b4, .c [vint (if i = 0 then eachM x 0 else eachM g.body (eachM x 0))]), (b3, .c (cH x.hd (vEs x.args))), (b2, .c (cCat c))] ∧ S.rows = [] ∧ S.σ 2 = ptr b2 ∧ S.σ 4 = ptr b4 ∧ S.σ 5 = fnO b4 ∧ S.σ 22 = vstrs [f] ∧ S.σ 23 = vint 1 ∧ S.σ 24 = vint i) ⟨0, ?_⟩ (fun i S hi ⟨gb, gr, g2, g4, g5, g22, g23, g24⟩ => ?_) (fun S ⟨gb, gr, g2, g4, g5, g22, g23, g24⟩ => ?_)
  · simp only [↓rA, rB, Int.reduceEq, Int.reduceLE, Int.reduceLT, Int.reduceToNat, Nat.reduceAdd, Nat.reduceEqDiff, Nat.reduceLT, Nat.reduceLeDiff, Nat.reduceMul, Nat.reduceSub, reduceCtorEq, tbLX1, Tryd.results18, h2, h3, h4]
    rfl
  · obtain rfl : i = 0 := by omega
    simp only [if_true] at gb
    have i0 : ((0 : Nat) : Int) < 1 := by decide
    simp only [↓rA, rB, Int.reduceEq, Int.reduceLE, Int.reduceLT, Int.reduceToNat, Nat.reduceAdd, Nat.reduceEqDiff, Nat.reduceLT, Nat.reduceLeDiff, Nat.reduceMul, Nat.reduceSub, reduceCtorEq, tbLX1, Tryd.results18, gb, gr, g2, g4, g5, g22, g23, g24, h2, h3, h4, i0]
    refine OkF_of _ hfo ?_
    simp only [↓rA, rB, Int.reduceEq, Int.reduceLE, Int.reduceLT, Int.reduceToNat, Nat.reduceAdd, Nat.reduceEqDiff, Nat.reduceLT, Nat.reduceLeDiff, Nat.reduceMul, Nat.reduceSub, reduceCtorEq, tbLX1, Tryd.results18, gb, gr, g2, g4, g5, g22, g23, g24, h2, h3, h4]
    refine fun b10 h10 => ?_; replace h10 := newb h10; try simp only [Nb] at h10
    simp only [↓rA, rB, Int.reduceEq, Int.reduceLE, Int.reduceLT, Int.reduceToNat, Nat.reduceAdd, Nat.reduceEqDiff, Nat.reduceLT, Nat.reduceLeDiff, Nat.reduceMul, Nat.reduceSub, reduceCtorEq, tbLX1, Tryd.results18, gb, gr, g2, g4, g5, g22, g23, g24, h2, h3, h4, h10]
    refine OkF_with [_, _] [_, _] (List.Perm.refl _) (Ok.frame [_] (hq b4)) ?_
    rintro v bs rs ⟨bs1, rfl, _, rfl, rfl, rfl⟩
    simp only [↓rA, rB, Int.reduceEq, Int.reduceLE, Int.reduceLT, Int.reduceToNat, Nat.reduceAdd, Nat.reduceEqDiff, Nat.reduceLT, Nat.reduceLeDiff, Nat.reduceMul, Nat.reduceSub, reduceCtorEq, tbLX1, Tryd.results18, gr, g2, g4, g5, g22, g23, g24, h2, h3, h4, h10]
    exact ⟨1, rfl, rfl⟩
  · simp only [Nat.one_ne_zero, if_false] at gb
    have i1 : ¬ ((1 : Nat) : Int) < 1 := by decide
    simp only [↓rA, rB, Int.reduceEq, Int.reduceLE, Int.reduceLT, Int.reduceToNat, Nat.reduceAdd, Nat.reduceEqDiff, Nat.reduceLT, Nat.reduceLeDiff, Nat.reduceMul, Nat.reduceSub, reduceCtorEq, tbLX1, Tryd.results18, gb, gr, g2, g4, g5, g22, g23, g24, h2, h3, h4, i1]
    exact ret_done rfl
end Go.Proofs.YtphkmlogjgeipaaDoor

/- Contracts of lowering, part k: the reference's equalities. Printed by mkLO.py. -/
set_option linter.unusedSimpArgs false
set_option maxRecDepth 100000
namespace Go.Proofs.YtphkmlogjgeipaaDoor
open Go.VL Go.Ar Go.Lo Go.Proofs.YtphkmlogjgeipaaDoor

set_option linter.defProp false in
def tbLO0 := (And.intro (And.intro (And.intro (And.intro Ty.sz3 (And.intro Ty.by3 Ty.ag3)) (And.intro (And.intro Ty.zr3 Ty.un3) (And.intro Ty.sz4 Ty.by4))) (And.intro (And.intro Ty.ag4 (And.intro Ty.zr4 Ty.un4)) (And.intro (And.intro Ty.sz9 Ty.by9) (And.intro Ty.ag9 Ty.zr9)))) (And.intro (And.intro (And.intro Ty.un9 (And.intro Ty.sz24 Ty.by24)) (And.intro (And.intro Ty.ag24 Ty.zr24) (And.intro Ty.un24 Ty.sz105))) (And.intro (And.intro (And.intro Ty.by105 Ty.ag105) (And.intro Ty.zr105 Ty.fl105_0)) (And.intro (And.intro Ty.pl105_0 Ty.fl105_1) (And.intro Ty.pl105_1 Ty.eq105)))))
theorem same07_ok (u v : List Fac) (hu : u.length ≤ big) : OkP Tryd.prog 42 [vFacs u, vFacs v] (vbool (decide (u = v))) := by
  have fb : ∀ {a b : Bool}, a = b → V.lit (.bool a) = vbool b := fun h => by rw [h]
  unfold big at hu
  refine Ok.of_ex Ty.mixed Tryd.func42 rfl (by simp [Tryd.ntmps42]) (by kernel_rfl) fun F w0 I0 => ?_
  by_cases hl : ¬ u.length = v.length
  · have hl' : ¬ (u.length : Int) = v.length := by omega
    simp only [↓rA, rB, Int.reduceEq, Int.reduceLE, Int.reduceLT, Int.reduceToNat, Nat.reduceAdd, Nat.reduceEqDiff, Nat.reduceLT, Nat.reduceLeDiff, Nat.reduceMul, Nat.reduceSub, reduceCtorEq, tbLO0, Tryd.results42, List.length_map, hl']
    exact ret_done (fb (decide_eq_false fun e => hl (by rw [e])).symm)
  have hl' : (u.length : Int) = v.length := by omega
  have hl : u.length = v.length := by omega
  simp only [↓rA, rB, Int.reduceEq, Int.reduceLE, Int.reduceLT, Int.reduceToNat, Nat.reduceAdd, Nat.reduceEqDiff, Nat.reduceLT, Nat.reduceLeDiff, Nat.reduceMul, Nat.reduceSub, reduceCtorEq, tbLO0, Tryd.results42, List.length_map, hl']
  refine EX_for Ty.mixed (by kernel_rfl) v.length (fun i S => u.take i = v.take i ∧ S.boxes = [] ∧ S.rows = [] ∧ S.σ 0 = vFacs u ∧ S.σ 1 = vFacs v ∧ S.σ 5 = vint i) ⟨0, ?_⟩ (fun i S hi ⟨hf, gb, gr, g0, g1, g5⟩ => ?_) (fun S ⟨hf, gb, gr, g0, g1, g5⟩ => ?_)
  · simp only [↓rA, rB, Int.reduceEq, Int.reduceLE, Int.reduceLT, Int.reduceToNat, Nat.reduceAdd, Nat.reduceEqDiff, Nat.reduceLT, Nat.reduceLeDiff, Nat.reduceMul, Nat.reduceSub, reduceCtorEq, tbLO0, Tryd.results42, List.length_map, hl']
    try exact rfl
  · have hwi := wrap_succ (i := i) (N := v.length) hi (by omega)
    have hiu : i < u.length := by omega
    simp only [↓rA, rB, Int.reduceEq, Int.reduceLE, Int.reduceLT, Int.reduceToNat, Nat.reduceAdd, Nat.reduceEqDiff, Nat.reduceLT, Nat.reduceLeDiff, Nat.reduceMul, Nat.reduceSub, reduceCtorEq, tbLO0, Tryd.results42, gb, gr, g0, g1, g5, hl', Int.ofNat_lt, hi, hiu, List.length_map, getD_map _ _ _ hi, getD_map _ _ _ hiu]
    refine onCond_splitb (fun hc => ?_) (fun hc => ?_)
    · simp only [↓rA, rB, Int.reduceEq, Int.reduceLE, Int.reduceLT, Int.reduceToNat, Nat.reduceAdd, Nat.reduceEqDiff, Nat.reduceLT, Nat.reduceLeDiff, Nat.reduceMul, Nat.reduceSub, reduceCtorEq, tbLO0, Tryd.results42, gb, gr, g0, g1, g5]
      refine ret_done (fb (decide_eq_false fun e => ?_).symm)
      subst e
      simp at hc
    · simp only [↓rA, rB, Int.reduceEq, Int.reduceLE, Int.reduceLT, Int.reduceToNat, Nat.reduceAdd, Nat.reduceEqDiff, Nat.reduceLT, Nat.reduceLeDiff, Nat.reduceMul, Nat.reduceSub, reduceCtorEq, tbLO0, Tryd.results42, gb, gr, g0, g1, g5, hwi]
      refine ⟨0, ?_⟩
      rw [List.take_succ_eq_append_getElem hi, List.take_succ_eq_append_getElem hiu, hf]
      have : u[i] = v[i] := by
        rw [fac_ext]
        simpa using hc
      rw [this]
  · simp only [↓rA, rB, Int.reduceEq, Int.reduceLE, Int.reduceLT, Int.reduceToNat, Nat.reduceAdd, Nat.reduceEqDiff, Nat.reduceLT, Nat.reduceLeDiff, Nat.reduceMul, Nat.reduceSub, reduceCtorEq, tbLO0, Tryd.results42, gb, gr, g0, g1, g5, hl', List.length_map, Int.ofNat_lt, Nat.lt_irrefl]
    rw [List.take_of_length_le (Nat.le_refl _), List.take_of_length_le (by omega)] at hf
    exact ret_done (fb (decide_eq_true hf).symm)

set_option linter.defProp false in
def tbLO1 := (And.intro (And.intro (And.intro Ty.sz3 (And.intro Ty.by3 Ty.ag3)) (And.intro (And.intro Ty.zr3 Ty.un3) (And.intro Ty.sz4 Ty.by4))) (And.intro (And.intro (And.intro Ty.ag4 Ty.zr4) (And.intro Ty.un4 Ty.sz41)) (And.intro (And.intro Ty.by41 Ty.ag41) (And.intro Ty.zr41 Ty.un41))))
theorem sameInts_ok (u v : List Int) (hu : u.length ≤ big) : OkP Tryd.prog 24 [vints u, vints v] (vbool (decide (u = v))) := by
  have fb : ∀ {a b : Bool}, a = b → V.lit (.bool a) = vbool b := fun h => by rw [h]
  unfold big at hu
  refine Ok.of_ex Ty.mixed Tryd.func24 rfl (by simp [Tryd.ntmps24]) (by kernel_rfl) fun F w0 I0 => ?_
  by_cases hl : ¬ u.length = v.length
  · have hl' : ¬ (u.length : Int) = v.length := by omega
    simp only [↓rA, rB, Int.reduceEq, Int.reduceLE, Int.reduceLT, Int.reduceToNat, Nat.reduceAdd, Nat.reduceEqDiff, Nat.reduceLT, Nat.reduceLeDiff, Nat.reduceMul, Nat.reduceSub, reduceCtorEq, tbLO1, Tryd.results24, List.length_map, hl']
    exact ret_done (fb (decide_eq_false fun e => hl (by rw [e])).symm)
  have hl' : (u.length : Int) = v.length := by omega
  have hl : u.length = v.length := by omega
  simp only [↓rA, rB, Int.reduceEq, Int.reduceLE, Int.reduceLT, Int.reduceToNat, Nat.reduceAdd, Nat.reduceEqDiff, Nat.reduceLT, Nat.reduceLeDiff, Nat.reduceMul, Nat.reduceSub, reduceCtorEq, tbLO1, Tryd.results24, List.length_map, hl']
  refine EX_for Ty.mixed (by kernel_rfl) v.length (fun i S => u.take i = v.take i ∧ S.boxes = [] ∧ S.rows = [] ∧ S.σ 0 = vints u ∧ S.σ 1 = vints v ∧ S.σ 5 = vint i) ⟨0, ?_⟩ (fun i S hi ⟨hf, gb, gr, g0, g1, g5⟩ => ?_) (fun S ⟨hf, gb, gr, g0, g1, g5⟩ => ?_)
  · simp only [↓rA, rB, Int.reduceEq, Int.reduceLE, Int.reduceLT, Int.reduceToNat, Nat.reduceAdd, Nat.reduceEqDiff, Nat.reduceLT, Nat.reduceLeDiff, Nat.reduceMul, Nat.reduceSub, reduceCtorEq, tbLO1, Tryd.results24, List.length_map, hl']
    try exact rfl
  · have hwi := wrap_succ (i := i) (N := v.length) hi (by omega)
    have hiu : i < u.length := by omega
    by_cases e : u[i] = v[i]
    · simp only [↓rA, rB, Int.reduceEq, Int.reduceLE, Int.reduceLT, Int.reduceToNat, Nat.reduceAdd, Nat.reduceEqDiff, Nat.reduceLT, Nat.reduceLeDiff, Nat.reduceMul, Nat.reduceSub, reduceCtorEq, tbLO1, Tryd.results24, gb, gr, g0, g1, g5, hl', Int.ofNat_lt, hi, hiu, List.length_map, getD_map _ _ _ hi, getD_map _ _ _ hiu, e, hwi]
      exact ⟨0, by rw [List.take_succ_eq_append_getElem hi, List.take_succ_eq_append_getElem hiu, hf, e]⟩
    · simp only [↓rA, rB, Int.reduceEq, Int.reduceLE, Int.reduceLT, Int.reduceToNat, Nat.reduceAdd, Nat.reduceEqDiff, Nat.reduceLT, Nat.reduceLeDiff, Nat.reduceMul, Nat.reduceSub, reduceCtorEq, tbLO1, Tryd.results24, gb, gr, g0, g1, g5, hl', Int.ofNat_lt, hi, hiu, List.length_map, getD_map _ _ _ hi, getD_map _ _ _ hiu, e]
      refine ret_done (fb (decide_eq_false fun e' => e ?_).symm)
      subst e'
      rfl
  · simp only [↓rA, rB, Int.reduceEq, Int.reduceLE, Int.reduceLT, Int.reduceToNat, Nat.reduceAdd, Nat.reduceEqDiff, Nat.reduceLT, Nat.reduceLeDiff, Nat.reduceMul, Nat.reduceSub, reduceCtorEq, tbLO1, Tryd.results24, gb, gr, g0, g1, g5, hl', List.length_map, Int.ofNat_lt, Nat.lt_irrefl]
    rw [List.take_of_length_le (Nat.le_refl _), List.take_of_length_le (by omega)] at hf
    exact ret_done (fb (decide_eq_true hf).symm)

set_option linter.defProp false in
def tbLO2 := (And.intro (And.intro (And.intro (And.intro (And.intro (And.intro Ty.sz3 Ty.by3) (And.intro Ty.ag3 Ty.zr3)) (And.intro (And.intro Ty.un3 Ty.sz4) (And.intro Ty.by4 (And.intro Ty.ag4 Ty.zr4)))) (And.intro (And.intro (And.intro Ty.un4 Ty.sz9) (And.intro Ty.by9 (And.intro Ty.ag9 Ty.zr9))) (And.intro (And.intro Ty.un9 Ty.sz23) (And.intro Ty.by23 (And.intro Ty.ag23 Ty.zr23))))) (And.intro (And.intro (And.intro (And.intro Ty.fl23_0 Ty.pl23_0) (And.intro Ty.fl23_1 Ty.pl23_1)) (And.intro (And.intro Ty.fl23_2 Ty.pl23_2) (And.intro Ty.sz24 (And.intro Ty.by24 Ty.ag24)))) (And.intro (And.intro (And.intro Ty.zr24 Ty.un24) (And.intro Ty.sz26 (And.intro Ty.by26 Ty.ag26))) (And.intro (And.intro Ty.zr26 Ty.fl26_0) (And.intro Ty.pl26_0 (And.intro Ty.fl26_1 Ty.pl26_1)))))) (And.intro (And.intro (And.intro (And.intro (And.intro Ty.sz27 Ty.by27) (And.intro Ty.ag27 Ty.zr27)) (And.intro (And.intro Ty.un27 Ty.sz29) (And.intro Ty.by29 (And.intro Ty.ag29 Ty.zr29)))) (And.intro (And.intro (And.intro Ty.fl29_0 Ty.pl29_0) (And.intro Ty.fl29_1 (And.intro Ty.pl29_1 Ty.fl29_2))) (And.intro (And.intro Ty.pl29_2 Ty.fl29_3) (And.intro Ty.pl29_3 (And.intro Ty.fl29_4 Ty.pl29_4))))) (And.intro (And.intro (And.intro (And.intro Ty.fl29_5 Ty.pl29_5) (And.intro Ty.fl29_6 (And.intro Ty.pl29_6 Ty.fl29_7))) (And.intro (And.intro Ty.pl29_7 Ty.fl29_8) (And.intro Ty.pl29_8 (And.intro Ty.sz105 Ty.by105)))) (And.intro (And.intro (And.intro Ty.ag105 Ty.zr105) (And.intro Ty.fl105_0 (And.intro Ty.pl105_0 Ty.fl105_1))) (And.intro (And.intro Ty.pl105_1 Ty.eq23) (And.intro Ty.eq26 (And.intro Ty.eq105 Ty.cb42)))))))
theorem flat_ok (a b : Hd) (x y : List E) (hu : a.unit.length ≤ big) : OkP Tryd.prog 27 [.agg (cH a (vEs x)), .agg (cH b (vEs y))] (vbool (decide (a = b))) := by
  have fb : ∀ {a b : Bool}, a = b → V.lit (.bool a) = vbool b := fun h => by rw [h]
  refine Ok.of_ex Ty.mixed Tryd.func27 rfl (by simp [Tryd.ntmps27]) (by kernel_rfl) fun F w0 I0 => ?_
  simp only [↓rA, rB, Int.reduceEq, Int.reduceLE, Int.reduceLT, Int.reduceToNat, Nat.reduceAdd, Nat.reduceEqDiff, Nat.reduceLT, Nat.reduceLeDiff, Nat.reduceMul, Nat.reduceSub, reduceCtorEq, tbLO2, Tryd.results27]
  refine fun b1 h1 => ?_; replace h1 := newb h1; try simp only [Nb] at h1
  simp only [↓rA, rB, Int.reduceEq, Int.reduceLE, Int.reduceLT, Int.reduceToNat, Nat.reduceAdd, Nat.reduceEqDiff, Nat.reduceLT, Nat.reduceLeDiff, Nat.reduceMul, Nat.reduceSub, reduceCtorEq, tbLO2, Tryd.results27]
  refine fun b2 h2 => ?_; replace h2 := newb h2; try simp only [Nb] at h2
  by_cases e0 : a.kind = b.kind
  case neg =>
    simp only [↓rA, rB, Int.reduceEq, Int.reduceLE, Int.reduceLT, Int.reduceToNat, Nat.reduceAdd, Nat.reduceEqDiff, Nat.reduceLT, Nat.reduceLeDiff, Nat.reduceMul, Nat.reduceSub, reduceCtorEq, tbLO2, Tryd.results27, h1, h2, e0]
    exact ret_done (fb (decide_eq_false fun e => e0 (by rw [e])).symm)
  by_cases e1 : a.op = b.op
  case neg =>
    simp only [↓rA, rB, Int.reduceEq, Int.reduceLE, Int.reduceLT, Int.reduceToNat, Nat.reduceAdd, Nat.reduceEqDiff, Nat.reduceLT, Nat.reduceLeDiff, Nat.reduceMul, Nat.reduceSub, reduceCtorEq, tbLO2, Tryd.results27, h1, h2, e0, e1]
    exact ret_done (fb (decide_eq_false fun e => e1 (by rw [e])).symm)
  by_cases e2 : a.name = b.name
  case neg =>
    simp only [↓rA, rB, Int.reduceEq, Int.reduceLE, Int.reduceLT, Int.reduceToNat, Nat.reduceAdd, Nat.reduceEqDiff, Nat.reduceLT, Nat.reduceLeDiff, Nat.reduceMul, Nat.reduceSub, reduceCtorEq, tbLO2, Tryd.results27, h1, h2, e0, e1, e2]
    exact ret_done (fb (decide_eq_false fun e => e2 (by rw [e])).symm)
  by_cases e3 : a.table = b.table
  case neg =>
    simp only [↓rA, rB, Int.reduceEq, Int.reduceLE, Int.reduceLT, Int.reduceToNat, Nat.reduceAdd, Nat.reduceEqDiff, Nat.reduceLT, Nat.reduceLeDiff, Nat.reduceMul, Nat.reduceSub, reduceCtorEq, tbLO2, Tryd.results27, h1, h2, e0, e1, e2, e3]
    exact ret_done (fb (decide_eq_false fun e => e3 (by rw [e])).symm)
  have v4 := valEq a.val b.val
  have v7 := winEq a b
  by_cases e4 : a.val = b.val
  case neg =>
    simp only [↓rA, rB, Int.reduceEq, Int.reduceLE, Int.reduceLT, Int.reduceToNat, Nat.reduceAdd, Nat.reduceEqDiff, Nat.reduceLT, Nat.reduceLeDiff, Nat.reduceMul, Nat.reduceSub, reduceCtorEq, tbLO2, Tryd.results27, h1, h2, e0, e1, e2, e3, e4, v4]
    exact ret_done (fb (decide_eq_false fun e => e4 (by rw [e])).symm)
  simp only [↓rA, rB, Int.reduceEq, Int.reduceLE, Int.reduceLT, Int.reduceToNat, Nat.reduceAdd, Nat.reduceEqDiff, Nat.reduceLT, Nat.reduceLeDiff, Nat.reduceMul, Nat.reduceSub, reduceCtorEq, tbLO2, Tryd.results27, h1, h2, e0, e1, e2, e3, e4, v4]
  refine OkF_of _ (same07_ok a.unit b.unit hu) ?_
  by_cases e5 : a.unit = b.unit
  case neg =>
    simp only [↓rA, rB, Int.reduceEq, Int.reduceLE, Int.reduceLT, Int.reduceToNat, Nat.reduceAdd, Nat.reduceEqDiff, Nat.reduceLT, Nat.reduceLeDiff, Nat.reduceMul, Nat.reduceSub, reduceCtorEq, tbLO2, Tryd.results27, h1, h2, e5]
    exact ret_done (fb (decide_eq_false fun e => e5 (by rw [e])).symm)
  by_cases e6 : a.param = b.param
  case neg =>
    simp only [↓rA, rB, Int.reduceEq, Int.reduceLE, Int.reduceLT, Int.reduceToNat, Nat.reduceAdd, Nat.reduceEqDiff, Nat.reduceLT, Nat.reduceLeDiff, Nat.reduceMul, Nat.reduceSub, reduceCtorEq, tbLO2, Tryd.results27, h1, h2, e5, e6]
    exact ret_done (fb (decide_eq_false fun e => e6 (by rw [e])).symm)
  by_cases e7 : a.wk = b.wk ∧ a.ws = b.ws
  case neg =>
    simp only [↓rA, rB, Int.reduceEq, Int.reduceLE, Int.reduceLT, Int.reduceToNat, Nat.reduceAdd, Nat.reduceEqDiff, Nat.reduceLT, Nat.reduceLeDiff, Nat.reduceMul, Nat.reduceSub, reduceCtorEq, tbLO2, Tryd.results27, h1, h2, e5, e6, e7, v7]
    exact ret_done (fb (decide_eq_false fun e => e7 (by rw [e]; exact ⟨rfl, rfl⟩)).symm)
  simp only [↓rA, rB, Int.reduceEq, Int.reduceLE, Int.reduceLT, Int.reduceToNat, Nat.reduceAdd, Nat.reduceEqDiff, Nat.reduceLT, Nat.reduceLeDiff, Nat.reduceMul, Nat.reduceSub, reduceCtorEq, tbLO2, Tryd.results27, h1, h2, e5, e6, e7, v7]
  exact ret_done (fb (decide_eq_true (by rw [hd_ext]; exact ⟨e0, e1, e2, e3, by rw [e4]; exact ⟨rfl, rfl, rfl⟩, e5, e6, e7.1, e7.2⟩)).symm)

set_option linter.defProp false in
def tbLO3 := (And.intro (And.intro (And.intro (And.intro (And.intro (And.intro Ty.sz3 Ty.by3) (And.intro Ty.ag3 Ty.zr3)) (And.intro (And.intro Ty.un3 Ty.sz4) (And.intro Ty.by4 (And.intro Ty.ag4 Ty.zr4)))) (And.intro (And.intro (And.intro Ty.un4 Ty.sz9) (And.intro Ty.by9 (And.intro Ty.ag9 Ty.zr9))) (And.intro (And.intro Ty.un9 Ty.sz23) (And.intro Ty.by23 (And.intro Ty.ag23 Ty.zr23))))) (And.intro (And.intro (And.intro (And.intro Ty.fl23_0 Ty.pl23_0) (And.intro Ty.fl23_1 (And.intro Ty.pl23_1 Ty.fl23_2))) (And.intro (And.intro Ty.pl23_2 Ty.sz24) (And.intro Ty.by24 (And.intro Ty.ag24 Ty.zr24)))) (And.intro (And.intro (And.intro Ty.un24 Ty.sz26) (And.intro Ty.by26 (And.intro Ty.ag26 Ty.zr26))) (And.intro (And.intro Ty.fl26_0 Ty.pl26_0) (And.intro Ty.fl26_1 (And.intro Ty.pl26_1 Ty.sz27)))))) (And.intro (And.intro (And.intro (And.intro (And.intro Ty.by27 Ty.ag27) (And.intro Ty.zr27 Ty.un27)) (And.intro (And.intro Ty.sz29 Ty.by29) (And.intro Ty.ag29 (And.intro Ty.zr29 Ty.fl29_0)))) (And.intro (And.intro (And.intro Ty.pl29_0 Ty.fl29_1) (And.intro Ty.pl29_1 (And.intro Ty.fl29_2 Ty.pl29_2))) (And.intro (And.intro Ty.fl29_3 Ty.pl29_3) (And.intro Ty.fl29_4 (And.intro Ty.pl29_4 Ty.fl29_5))))) (And.intro (And.intro (And.intro (And.intro Ty.pl29_5 Ty.fl29_6) (And.intro Ty.pl29_6 (And.intro Ty.fl29_7 Ty.pl29_7))) (And.intro (And.intro Ty.fl29_8 Ty.pl29_8) (And.intro Ty.sz105 (And.intro Ty.by105 Ty.ag105)))) (And.intro (And.intro (And.intro Ty.zr105 Ty.fl105_0) (And.intro Ty.pl105_0 (And.intro Ty.fl105_1 Ty.pl105_1))) (And.intro (And.intro Ty.eq23 Ty.eq26) (And.intro Ty.eq105 (And.intro Ty.cb14 Ty.cb27)))))))
theorem sameExprR_ok : ∀ a : E, Fit a → ∀ b : E, OkP Tryd.prog 14 [vE a, vE b] (vbool (decide (a = b))) := by
  have fb : ∀ {a b : Bool}, a = b → V.lit (.bool a) = vbool b := fun h => by rw [h]
  intro x
  induction x using E.ind with
  | h a l ih =>
  intro hf y
  obtain ⟨b, m⟩ := y
  have hu := hf.unit
  have hl := hf.len
  have ha := hf.args
  simp only [E.args, E.hd, big] at hl ha hu
  rw [vE, vE, cE_mk, cE_mk]
  have no : a ≠ b → decide (E.mk a l = E.mk b m) = false := fun h => decide_eq_false fun e => h (by injection e)
  have no' : l ≠ m → decide (E.mk a l = E.mk b m) = false := fun h => decide_eq_false fun e => h (by injection e)
  refine Ok.of_ex Ty.mixed Tryd.func14 rfl (by simp [Tryd.ntmps14]) (by kernel_rfl) fun F w0 I0 => ?_
  simp only [↓rA, rB, Int.reduceEq, Int.reduceLE, Int.reduceLT, Int.reduceToNat, Nat.reduceAdd, Nat.reduceEqDiff, Nat.reduceLT, Nat.reduceLeDiff, Nat.reduceMul, Nat.reduceSub, reduceCtorEq, tbLO3, Tryd.results14]
  refine fun b1 h1 => ?_; replace h1 := newb h1; try simp only [Nb] at h1
  simp only [↓rA, rB, Int.reduceEq, Int.reduceLE, Int.reduceLT, Int.reduceToNat, Nat.reduceAdd, Nat.reduceEqDiff, Nat.reduceLT, Nat.reduceLeDiff, Nat.reduceMul, Nat.reduceSub, reduceCtorEq, tbLO3, Tryd.results14]
  refine fun b2 h2 => ?_; replace h2 := newb h2; try simp only [Nb] at h2
  simp only [↓rA, rB, Int.reduceEq, Int.reduceLE, Int.reduceLT, Int.reduceToNat, Nat.reduceAdd, Nat.reduceEqDiff, Nat.reduceLT, Nat.reduceLeDiff, Nat.reduceMul, Nat.reduceSub, reduceCtorEq, tbLO3, Tryd.results14, h1, h2]
  refine OkF_of _ (flat_ok a b l m hu) ?_
  by_cases e0 : a = b
  case neg =>
    simp only [↓rA, rB, Int.reduceEq, Int.reduceLE, Int.reduceLT, Int.reduceToNat, Nat.reduceAdd, Nat.reduceEqDiff, Nat.reduceLT, Nat.reduceLeDiff, Nat.reduceMul, Nat.reduceSub, reduceCtorEq, tbLO3, Tryd.results14, h1, h2, decide_eq_false e0]
    exact ret_done (fb (no e0).symm)
  by_cases he : ¬ l.length = m.length
  · have he' : ¬ (l.length : Int) = m.length := by omega
    simp only [↓rA, rB, Int.reduceEq, Int.reduceLE, Int.reduceLT, Int.reduceToNat, Nat.reduceAdd, Nat.reduceEqDiff, Nat.reduceLT, Nat.reduceLeDiff, Nat.reduceMul, Nat.reduceSub, reduceCtorEq, tbLO3, Tryd.results14, h1, h2, decide_eq_true e0, List.length_map, he']
    exact ret_done (fb (no' fun e => he (by rw [e])).symm)
  have he' : (l.length : Int) = m.length := by omega
  simp only [↓rA, rB, Int.reduceEq, Int.reduceLE, Int.reduceLT, Int.reduceToNat, Nat.reduceAdd, Nat.reduceEqDiff, Nat.reduceLT, Nat.reduceLeDiff, Nat.reduceMul, Nat.reduceSub, reduceCtorEq, tbLO3, Tryd.results14, h1, h2, decide_eq_true e0, List.length_map, he']
  refine EX_for Ty.mixed (by kernel_rfl) m.length (fun i S => l.take i = m.take i ∧ S.boxes = [(b2, .c (cH b (vEs m))), (b1, .c (cH a (vEs l)))] ∧ S.rows = [] ∧ S.σ 2 = ptr b1 ∧ S.σ 3 = ptr b2 ∧ S.σ 5 = vint i) ⟨0, ?_⟩ (fun i S hi ⟨hq, gb, gr, g2, g3, g5⟩ => ?_) (fun S ⟨hq, gb, gr, g2, g3, g5⟩ => ?_)
  · simp only [↓rA, rB, Int.reduceEq, Int.reduceLE, Int.reduceLT, Int.reduceToNat, Nat.reduceAdd, Nat.reduceEqDiff, Nat.reduceLT, Nat.reduceLeDiff, Nat.reduceMul, Nat.reduceSub, reduceCtorEq, tbLO3, Tryd.results14, h1, h2]
    try exact rfl
  · have hwi := wrap_succ (i := i) (N := m.length) hi (by omega)
    have hil : i < l.length := by omega
    simp only [↓rA, rB, Int.reduceEq, Int.reduceLE, Int.reduceLT, Int.reduceToNat, Nat.reduceAdd, Nat.reduceEqDiff, Nat.reduceLT, Nat.reduceLeDiff, Nat.reduceMul, Nat.reduceSub, reduceCtorEq, tbLO3, Tryd.results14, gb, gr, g2, g3, g5, h1, h2, he', Int.ofNat_lt, hi, hil, List.length_map, getD_map _ _ _ hi, getD_map _ _ _ hil, cE_eq]
    have hc := ih l[i] (List.getElem_mem hil) (ha _ (List.getElem_mem hil)) m[i]
    simp only [vE, cE_eq] at hc
    refine CallV_of _ hc.v ?_
    by_cases e : l[i] = m[i]
    · simp only [↓rA, rB, Int.reduceEq, Int.reduceLE, Int.reduceLT, Int.reduceToNat, Nat.reduceAdd, Nat.reduceEqDiff, Nat.reduceLT, Nat.reduceLeDiff, Nat.reduceMul, Nat.reduceSub, reduceCtorEq, tbLO3, Tryd.results14, gb, gr, g2, g3, g5, hwi, decide_eq_true e]
      exact ⟨0, by rw [List.take_succ_eq_append_getElem hi, List.take_succ_eq_append_getElem hil, hq, e], rfl⟩
    · simp only [↓rA, rB, Int.reduceEq, Int.reduceLE, Int.reduceLT, Int.reduceToNat, Nat.reduceAdd, Nat.reduceEqDiff, Nat.reduceLT, Nat.reduceLeDiff, Nat.reduceMul, Nat.reduceSub, reduceCtorEq, tbLO3, Tryd.results14, gb, gr, g2, g3, g5, decide_eq_false e]
      refine ret_done (fb (no' fun e' => e ?_).symm)
      subst e'
      rfl
  · simp only [↓rA, rB, Int.reduceEq, Int.reduceLE, Int.reduceLT, Int.reduceToNat, Nat.reduceAdd, Nat.reduceEqDiff, Nat.reduceLT, Nat.reduceLeDiff, Nat.reduceMul, Nat.reduceSub, reduceCtorEq, tbLO3, Tryd.results14, gb, gr, g2, g3, g5, h1, h2, he', List.length_map, Int.ofNat_lt, Nat.lt_irrefl]
    rw [List.take_of_length_le (Nat.le_refl _), List.take_of_length_le (by omega)] at hq
    exact ret_done (fb (decide_eq_true (by rw [e0, hq])).symm)

set_option linter.defProp false in
def tbLO4 := (And.intro (And.intro (And.intro (And.intro (And.intro (And.intro Ty.sz3 (And.intro Ty.by3 Ty.ag3)) (And.intro Ty.zr3 (And.intro Ty.un3 Ty.sz4))) (And.intro (And.intro Ty.by4 (And.intro Ty.ag4 Ty.zr4)) (And.intro (And.intro Ty.un4 Ty.sz9) (And.intro Ty.by9 Ty.ag9)))) (And.intro (And.intro (And.intro Ty.zr9 (And.intro Ty.un9 Ty.sz23)) (And.intro Ty.by23 (And.intro Ty.ag23 Ty.zr23))) (And.intro (And.intro Ty.fl23_0 (And.intro Ty.pl23_0 Ty.fl23_1)) (And.intro (And.intro Ty.pl23_1 Ty.fl23_2) (And.intro Ty.pl23_2 Ty.sz24))))) (And.intro (And.intro (And.intro (And.intro Ty.by24 (And.intro Ty.ag24 Ty.zr24)) (And.intro Ty.un24 (And.intro Ty.sz26 Ty.by26))) (And.intro (And.intro Ty.ag26 (And.intro Ty.zr26 Ty.fl26_0)) (And.intro (And.intro Ty.pl26_0 Ty.fl26_1) (And.intro Ty.pl26_1 Ty.sz27)))) (And.intro (And.intro (And.intro Ty.by27 (And.intro Ty.ag27 Ty.zr27)) (And.intro Ty.un27 (And.intro Ty.sz29 Ty.by29))) (And.intro (And.intro Ty.ag29 (And.intro Ty.zr29 Ty.fl29_0)) (And.intro (And.intro Ty.pl29_0 Ty.fl29_1) (And.intro Ty.pl29_1 Ty.fl29_2)))))) (And.intro (And.intro (And.intro (And.intro (And.intro Ty.pl29_2 (And.intro Ty.fl29_3 Ty.pl29_3)) (And.intro Ty.fl29_4 (And.intro Ty.pl29_4 Ty.fl29_5))) (And.intro (And.intro Ty.pl29_5 (And.intro Ty.fl29_6 Ty.pl29_6)) (And.intro (And.intro Ty.fl29_7 Ty.pl29_7) (And.intro Ty.fl29_8 Ty.pl29_8)))) (And.intro (And.intro (And.intro Ty.sz41 (And.intro Ty.by41 Ty.ag41)) (And.intro Ty.zr41 (And.intro Ty.un41 Ty.sz43))) (And.intro (And.intro Ty.by43 (And.intro Ty.ag43 Ty.zr43)) (And.intro (And.intro Ty.fl43_0 Ty.pl43_0) (And.intro Ty.fl43_1 Ty.pl43_1))))) (And.intro (And.intro (And.intro (And.intro Ty.fl43_2 (And.intro Ty.pl43_2 Ty.fl43_3)) (And.intro Ty.pl43_3 (And.intro Ty.fl43_4 Ty.pl43_4))) (And.intro (And.intro Ty.fl43_5 (And.intro Ty.pl43_5 Ty.fl43_6)) (And.intro (And.intro Ty.pl43_6 Ty.fl43_7) (And.intro Ty.pl43_7 Ty.fl43_8)))) (And.intro (And.intro (And.intro Ty.pl43_8 (And.intro Ty.sz105 Ty.by105)) (And.intro (And.intro Ty.ag105 Ty.zr105) (And.intro Ty.fl105_0 Ty.pl105_0))) (And.intro (And.intro Ty.fl105_1 (And.intro Ty.pl105_1 Ty.eq23)) (And.intro (And.intro Ty.eq26 Ty.eq105) (And.intro Ty.cb14 Ty.cb24)))))))
theorem sameNodeR_ok (a b : Nd) (hf : FitN a) : OkP Tryd.prog 9 [.agg (cNd a), .agg (cNd b)] (vbool (decide (a = b))) := by
  have fb : ∀ {a b : Bool}, a = b → V.lit (.bool a) = vbool b := fun h => by rw [h]
  have hq := sameExprR_ok a.expr hf.1 b.expr
  simp only [vE, cE_eq] at hq
  simp only [cNd_eq]
  refine Ok.of_ex Ty.mixed Tryd.func9 rfl (by simp [Tryd.ntmps9]) (by kernel_rfl) fun F w0 I0 => ?_
  simp only [↓rA, rB, Int.reduceEq, Int.reduceLE, Int.reduceLT, Int.reduceToNat, Nat.reduceAdd, Nat.reduceEqDiff, Nat.reduceLT, Nat.reduceLeDiff, Nat.reduceMul, Nat.reduceSub, reduceCtorEq, tbLO4, Tryd.results9]
  refine fun b1 h1 => ?_; replace h1 := newb h1; try simp only [Nb] at h1
  simp only [↓rA, rB, Int.reduceEq, Int.reduceLE, Int.reduceLT, Int.reduceToNat, Nat.reduceAdd, Nat.reduceEqDiff, Nat.reduceLT, Nat.reduceLeDiff, Nat.reduceMul, Nat.reduceSub, reduceCtorEq, tbLO4, Tryd.results9]
  refine fun b2 h2 => ?_; replace h2 := newb h2; try simp only [Nb] at h2
  by_cases e0 : a.kind = b.kind
  case neg =>
    simp only [↓rA, rB, Int.reduceEq, Int.reduceLE, Int.reduceLT, Int.reduceToNat, Nat.reduceAdd, Nat.reduceEqDiff, Nat.reduceLT, Nat.reduceLeDiff, Nat.reduceMul, Nat.reduceSub, reduceCtorEq, tbLO4, Tryd.results9, h1, h2, e0]
    exact ret_done (fb (decide_eq_false fun e => e0 (by rw [e])).symm)
  by_cases e1 : a.table = b.table
  case neg =>
    simp only [↓rA, rB, Int.reduceEq, Int.reduceLE, Int.reduceLT, Int.reduceToNat, Nat.reduceAdd, Nat.reduceEqDiff, Nat.reduceLT, Nat.reduceLeDiff, Nat.reduceMul, Nat.reduceSub, reduceCtorEq, tbLO4, Tryd.results9, h1, h2, e0, e1]
    exact ret_done (fb (decide_eq_false fun e => e1 (by rw [e])).symm)
  by_cases e2 : a.op = b.op
  case neg =>
    simp only [↓rA, rB, Int.reduceEq, Int.reduceLE, Int.reduceLT, Int.reduceToNat, Nat.reduceAdd, Nat.reduceEqDiff, Nat.reduceLT, Nat.reduceLeDiff, Nat.reduceMul, Nat.reduceSub, reduceCtorEq, tbLO4, Tryd.results9, h1, h2, e0, e1, e2]
    exact ret_done (fb (decide_eq_false fun e => e2 (by rw [e])).symm)
  by_cases e3 : a.param = b.param
  case neg =>
    simp only [↓rA, rB, Int.reduceEq, Int.reduceLE, Int.reduceLT, Int.reduceToNat, Nat.reduceAdd, Nat.reduceEqDiff, Nat.reduceLT, Nat.reduceLeDiff, Nat.reduceMul, Nat.reduceSub, reduceCtorEq, tbLO4, Tryd.results9, h1, h2, e0, e1, e2, e3]
    exact ret_done (fb (decide_eq_false fun e => e3 (by rw [e])).symm)
  have v4 := winEqN a b
  have v5 := valEq a.val b.val
  by_cases e4 : a.wk = b.wk ∧ a.ws = b.ws
  case neg =>
    simp only [↓rA, rB, Int.reduceEq, Int.reduceLE, Int.reduceLT, Int.reduceToNat, Nat.reduceAdd, Nat.reduceEqDiff, Nat.reduceLT, Nat.reduceLeDiff, Nat.reduceMul, Nat.reduceSub, reduceCtorEq, tbLO4, Tryd.results9, h1, h2, e0, e1, e2, e3, e4, v4]
    exact ret_done (fb (decide_eq_false fun e => e4 (by rw [e]; exact ⟨rfl, rfl⟩)).symm)
  by_cases e5 : a.val = b.val
  case neg =>
    simp only [↓rA, rB, Int.reduceEq, Int.reduceLE, Int.reduceLT, Int.reduceToNat, Nat.reduceAdd, Nat.reduceEqDiff, Nat.reduceLT, Nat.reduceLeDiff, Nat.reduceMul, Nat.reduceSub, reduceCtorEq, tbLO4, Tryd.results9, h1, h2, e0, e1, e2, e3, e4, v4, e5, v5]
    exact ret_done (fb (decide_eq_false fun e => e5 (by rw [e])).symm)
  by_cases e6 : a.name = b.name
  case neg =>
    simp only [↓rA, rB, Int.reduceEq, Int.reduceLE, Int.reduceLT, Int.reduceToNat, Nat.reduceAdd, Nat.reduceEqDiff, Nat.reduceLT, Nat.reduceLeDiff, Nat.reduceMul, Nat.reduceSub, reduceCtorEq, tbLO4, Tryd.results9, h1, h2, e0, e1, e2, e3, e4, v4, e5, v5, e6]
    exact ret_done (fb (decide_eq_false fun e => e6 (by rw [e])).symm)
  simp only [↓rA, rB, Int.reduceEq, Int.reduceLE, Int.reduceLT, Int.reduceToNat, Nat.reduceAdd, Nat.reduceEqDiff, Nat.reduceLT, Nat.reduceLeDiff, Nat.reduceMul, Nat.reduceSub, reduceCtorEq, tbLO4, Tryd.results9, h1, h2, e0, e1, e2, e3, e4, v4, e5, v5, e6]
  refine OkF_of _ (sameInts_ok a.inn b.inn hf.2) ?_
  by_cases e7 : a.inn = b.inn
  case neg =>
    simp only [↓rA, rB, Int.reduceEq, Int.reduceLE, Int.reduceLT, Int.reduceToNat, Nat.reduceAdd, Nat.reduceEqDiff, Nat.reduceLT, Nat.reduceLeDiff, Nat.reduceMul, Nat.reduceSub, reduceCtorEq, tbLO4, Tryd.results9, h1, h2, e7]
    exact ret_done (fb (decide_eq_false fun e => e7 (by rw [e])).symm)
  simp only [↓rA, rB, Int.reduceEq, Int.reduceLE, Int.reduceLT, Int.reduceToNat, Nat.reduceAdd, Nat.reduceEqDiff, Nat.reduceLT, Nat.reduceLeDiff, Nat.reduceMul, Nat.reduceSub, reduceCtorEq, tbLO4, Tryd.results9, h1, h2, e7]
  refine OkF_of _ hq ?_
  simp only [↓rA, rB, Int.reduceEq, Int.reduceLE, Int.reduceLT, Int.reduceToNat, Nat.reduceAdd, Nat.reduceEqDiff, Nat.reduceLT, Nat.reduceLeDiff, Nat.reduceMul, Nat.reduceSub, reduceCtorEq, tbLO4, Tryd.results9]
  refine ret_done (fb ?_)
  rw [Bool.eq_iff_iff, decide_eq_true_eq, decide_eq_true_eq, nd_ext]
  exact ⟨fun e => ⟨e0, e1, e2, e3, e4, e5, e6, e7, e⟩, fun e => e.2.2.2.2.2.2.2.2⟩

end Go.Proofs.YtphkmlogjgeipaaDoor
/- Contracts of lowering, part q: the law's small functions. -/
set_option linter.unusedSimpArgs false
set_option maxRecDepth 100000
namespace Go.Lo
open Go.VL Go.Ar
abbrev hTT : Hd := { hd0 1 with val := ⟨1, 1, es0⟩ }
abbrev tt : E := .mk hTT []
abbrev sOrders : Str := ⟨#[111, 114, 100, 101, 114, 115]⟩
abbrev overE (op : Str) (x : E) : E := .mk ⟨5, op, es0, sOrders, val0, [], 0, 1, 0⟩ [x, tt]
abbrev binE (op : Str) (x y : E) : E := .mk { hd0 7 with op := op } [x, y]
mutual
def cntN : E → Nat
  | .mk h l => if h.kind = 5 then 1 else 1 + cntNs l
def cntNs : List E → Nat
  | [] => 0
  | x :: r => cntN x + cntNs r
end
mutual
def cntM : E → Nat
  | .mk h l => if h.kind = 5 then 1 else cntMs l
def cntMs : List E → Nat
  | [] => 0
  | x :: r => cntM x + cntMs r
end
theorem cntN_mk (h : Hd) (l : List E) : cntN (.mk h l) = if h.kind = 5 then 1 else 1 + cntNs l := by rw [cntN]
theorem cntM_mk (h : Hd) (l : List E) : cntM (.mk h l) = if h.kind = 5 then 1 else cntMs l := by rw [cntM]
theorem cntNs_append : ∀ (l m : List E), cntNs (l ++ m) = cntNs l + cntNs m
  | [], m => by simp [cntNs]
  | x :: r, m => by simp only [List.cons_append, cntNs, cntNs_append r m]; omega
theorem cntMs_append : ∀ (l m : List E), cntMs (l ++ m) = cntMs l + cntMs m
  | [], m => by simp [cntMs]
  | x :: r, m => by simp only [List.cons_append, cntMs, cntMs_append r m]; omega
theorem cnt_le (x : E) : cntN x ≤ sizeE x ∧ cntM x ≤ sizeE x := by
  induction x using E.ind with
  | h hd l ih =>
  have : cntNs l ≤ sizeEs l ∧ cntMs l ≤ sizeEs l := by
    clear hd
    induction l with
    | nil => simp [cntNs, cntMs]
    | cons x r ihr =>
      have h1 := ih x (by simp)
      have h2 := ihr fun y hy => ih y (List.mem_cons_of_mem _ hy)
      simp only [cntNs, cntMs, sizeEs]
      omega
  rw [cntN_mk, cntM_mk, sizeE_mk]
  split <;> omega
end Go.Lo
namespace Go.Proofs.YtphkmlogjgeipaaDoor
open Go.VL Go.Ar Go.Lo Go.Proofs.YtphkmlogjgeipaaDoor

theorem leE {h : Hd} {u a : V} {l : List E} (hu : Le u (vFacs h.unit)) (ha : Le a (vEs l)) : Le (.agg [vint h.kind, vstr h.op, vstr h.name, vstr h.table, vint h.val.kind, vint h.val.n, vstr h.val.s, u, vint h.param, vint h.wk, vint h.ws, a]) (vE (.mk h l)) := by
  rw [vE, cE_mk]
  exact leAgg (.cons (Le.refl _) (.cons (Le.refl _) (.cons (Le.refl _) (.cons (Le.refl _) (.cons (Le.refl _) (.cons (Le.refl _) (.cons (Le.refl _) (.cons hu (.cons (Le.refl _) (.cons (Le.refl _) (.cons (Le.refl _) (.cons ha .nil))))))))))))
set_option linter.defProp false in
def tbLY0 := (And.intro (And.intro (And.intro (And.intro (And.intro (And.intro Ty.sz3 Ty.by3) (And.intro Ty.ag3 Ty.zr3)) (And.intro (And.intro Ty.un3 Ty.sz9) (And.intro Ty.by9 Ty.ag9))) (And.intro (And.intro (And.intro Ty.zr9 Ty.un9) (And.intro Ty.sz23 Ty.by23)) (And.intro (And.intro Ty.ag23 Ty.zr23) (And.intro Ty.fl23_0 (And.intro Ty.pl23_0 Ty.fl23_1))))) (And.intro (And.intro (And.intro (And.intro Ty.pl23_1 Ty.fl23_2) (And.intro Ty.pl23_2 Ty.sz24)) (And.intro (And.intro Ty.by24 Ty.ag24) (And.intro Ty.zr24 (And.intro Ty.un24 Ty.sz26)))) (And.intro (And.intro (And.intro Ty.by26 Ty.ag26) (And.intro Ty.zr26 Ty.fl26_0)) (And.intro (And.intro Ty.pl26_0 Ty.fl26_1) (And.intro Ty.pl26_1 (And.intro Ty.sz27 Ty.by27)))))) (And.intro (And.intro (And.intro (And.intro (And.intro Ty.ag27 Ty.zr27) (And.intro Ty.un27 Ty.sz29)) (And.intro (And.intro Ty.by29 Ty.ag29) (And.intro Ty.zr29 (And.intro Ty.fl29_0 Ty.pl29_0)))) (And.intro (And.intro (And.intro Ty.fl29_1 Ty.pl29_1) (And.intro Ty.fl29_2 Ty.pl29_2)) (And.intro (And.intro Ty.fl29_3 Ty.pl29_3) (And.intro Ty.fl29_4 (And.intro Ty.pl29_4 Ty.fl29_5))))) (And.intro (And.intro (And.intro (And.intro Ty.pl29_5 Ty.fl29_6) (And.intro Ty.pl29_6 Ty.fl29_7)) (And.intro (And.intro Ty.pl29_7 Ty.fl29_8) (And.intro Ty.pl29_8 (And.intro Ty.sz105 Ty.by105)))) (And.intro (And.intro (And.intro Ty.ag105 Ty.zr105) (And.intro Ty.fl105_0 Ty.pl105_0)) (And.intro (And.intro Ty.fl105_1 Ty.pl105_1) (And.intro Ty.eq23 (And.intro Ty.eq26 Ty.eq105)))))))
theorem true_ok : OkP Tryd.prog 17 [] (vE tt) := by
  refine Ok.of_ex Ty.mixed Tryd.func17 rfl (by simp [Tryd.ntmps17]) (by kernel_rfl) fun F w0 I0 => ?_
  simp only [↓rA, rB, Int.reduceEq, Int.reduceLE, Int.reduceLT, Int.reduceToNat, Nat.reduceAdd, Nat.reduceEqDiff, Nat.reduceLT, Nat.reduceLeDiff, Nat.reduceMul, Nat.reduceSub, reduceCtorEq, tbLY0, Tryd.results17]
  refine fun b0 h0 => ?_; replace h0 := newb h0; try simp only [Nb] at h0
  simp only [↓rA, rB, Int.reduceEq, Int.reduceLE, Int.reduceLT, Int.reduceToNat, Nat.reduceAdd, Nat.reduceEqDiff, Nat.reduceLT, Nat.reduceLeDiff, Nat.reduceMul, Nat.reduceSub, reduceCtorEq, tbLY0, Tryd.results17, h0]
  exact ⟨_, [], [], leE (h := hTT) (l := []) (Le.nil 2) (Le.nil 12), List.nil_sublist _, List.nil_sublist _, rfl, rfl, rfl⟩
set_option linter.defProp false in
def tbLY1 := (And.intro (And.intro (And.intro (And.intro (And.intro (And.intro Ty.sz3 Ty.by3) (And.intro Ty.ag3 Ty.zr3)) (And.intro (And.intro Ty.un3 Ty.sz9) (And.intro Ty.by9 Ty.ag9))) (And.intro (And.intro (And.intro Ty.zr9 Ty.un9) (And.intro Ty.sz23 Ty.by23)) (And.intro (And.intro Ty.ag23 Ty.zr23) (And.intro Ty.fl23_0 (And.intro Ty.pl23_0 Ty.fl23_1))))) (And.intro (And.intro (And.intro (And.intro Ty.pl23_1 Ty.fl23_2) (And.intro Ty.pl23_2 Ty.sz24)) (And.intro (And.intro Ty.by24 Ty.ag24) (And.intro Ty.zr24 (And.intro Ty.un24 Ty.sz26)))) (And.intro (And.intro (And.intro Ty.by26 Ty.ag26) (And.intro Ty.zr26 Ty.fl26_0)) (And.intro (And.intro Ty.pl26_0 Ty.fl26_1) (And.intro Ty.pl26_1 (And.intro Ty.sz27 Ty.by27)))))) (And.intro (And.intro (And.intro (And.intro (And.intro Ty.ag27 Ty.zr27) (And.intro Ty.un27 Ty.sz29)) (And.intro (And.intro Ty.by29 Ty.ag29) (And.intro Ty.zr29 (And.intro Ty.fl29_0 Ty.pl29_0)))) (And.intro (And.intro (And.intro Ty.fl29_1 Ty.pl29_1) (And.intro Ty.fl29_2 Ty.pl29_2)) (And.intro (And.intro Ty.fl29_3 Ty.pl29_3) (And.intro Ty.fl29_4 (And.intro Ty.pl29_4 Ty.fl29_5))))) (And.intro (And.intro (And.intro (And.intro Ty.pl29_5 Ty.fl29_6) (And.intro Ty.pl29_6 Ty.fl29_7)) (And.intro (And.intro Ty.pl29_7 Ty.fl29_8) (And.intro Ty.pl29_8 (And.intro Ty.sz105 Ty.by105)))) (And.intro (And.intro (And.intro Ty.ag105 Ty.zr105) (And.intro Ty.fl105_0 Ty.pl105_0)) (And.intro (And.intro Ty.fl105_1 Ty.pl105_1) (And.intro Ty.eq23 (And.intro Ty.eq26 Ty.eq105)))))))
theorem binary_ok (op : Str) (x y : E) : OkP Tryd.prog 10 [vstr op, vE x, vE y] (vE (binE op x y)) := by
  simp only [vE, cE_eq x, cE_eq y]
  refine Ok.of_ex Ty.mixed Tryd.func10 rfl (by simp [Tryd.ntmps10]) (by kernel_rfl) fun F w0 I0 => ?_
  simp only [↓rA, rB, Int.reduceEq, Int.reduceLE, Int.reduceLT, Int.reduceToNat, Nat.reduceAdd, Nat.reduceEqDiff, Nat.reduceLT, Nat.reduceLeDiff, Nat.reduceMul, Nat.reduceSub, reduceCtorEq, tbLY1, Tryd.results10]
  refine fun b4 h4 => ?_; replace h4 := newb h4; try simp only [Nb] at h4
  simp only [↓rA, rB, Int.reduceEq, Int.reduceLE, Int.reduceLT, Int.reduceToNat, Nat.reduceAdd, Nat.reduceEqDiff, Nat.reduceLT, Nat.reduceLeDiff, Nat.reduceMul, Nat.reduceSub, reduceCtorEq, tbLY1, Tryd.results10, h4]
  refine fun b5 h5 => ?_; replace h5 := newb h5; try simp only [Nb] at h5
  simp only [↓rA, rB, Int.reduceEq, Int.reduceLE, Int.reduceLT, Int.reduceToNat, Nat.reduceAdd, Nat.reduceEqDiff, Nat.reduceLT, Nat.reduceLeDiff, Nat.reduceMul, Nat.reduceSub, reduceCtorEq, tbLY1, Tryd.results10, h4, h5]
  refine fun b6 h6 => ?_; replace h6 := newb h6; try simp only [Nb] at h6
  simp only [↓rA, rB, Int.reduceEq, Int.reduceLE, Int.reduceLT, Int.reduceToNat, Nat.reduceAdd, Nat.reduceEqDiff, Nat.reduceLT, Nat.reduceLeDiff, Nat.reduceMul, Nat.reduceSub, reduceCtorEq, tbLY1, Tryd.results10, h4, h5, h6]
  refine fun y' => ⟨_, [], [], leE (h := { hd0 7 with op := op }) (l := [x, y]) (Le.nil 2) ?_, List.nil_sublist _, List.nil_sublist _, rfl, rfl, rfl⟩
  simp only [vEs, List.map_cons, List.map_nil, cE_eq x, cE_eq y]
  exact Le.list _ _ _
set_option linter.defProp false in
def tbLY2 := (And.intro (And.intro (And.intro (And.intro (And.intro (And.intro Ty.sz3 Ty.by3) (And.intro Ty.ag3 Ty.zr3)) (And.intro (And.intro Ty.un3 Ty.sz9) (And.intro Ty.by9 (And.intro Ty.ag9 Ty.zr9)))) (And.intro (And.intro (And.intro Ty.un9 Ty.sz23) (And.intro Ty.by23 Ty.ag23)) (And.intro (And.intro Ty.zr23 Ty.fl23_0) (And.intro Ty.pl23_0 (And.intro Ty.fl23_1 Ty.pl23_1))))) (And.intro (And.intro (And.intro (And.intro Ty.fl23_2 Ty.pl23_2) (And.intro Ty.sz24 Ty.by24)) (And.intro (And.intro Ty.ag24 Ty.zr24) (And.intro Ty.un24 (And.intro Ty.sz26 Ty.by26)))) (And.intro (And.intro (And.intro Ty.ag26 Ty.zr26) (And.intro Ty.fl26_0 Ty.pl26_0)) (And.intro (And.intro Ty.fl26_1 Ty.pl26_1) (And.intro Ty.sz27 (And.intro Ty.by27 Ty.ag27)))))) (And.intro (And.intro (And.intro (And.intro (And.intro Ty.zr27 Ty.un27) (And.intro Ty.sz29 Ty.by29)) (And.intro (And.intro Ty.ag29 Ty.zr29) (And.intro Ty.fl29_0 (And.intro Ty.pl29_0 Ty.fl29_1)))) (And.intro (And.intro (And.intro Ty.pl29_1 Ty.fl29_2) (And.intro Ty.pl29_2 Ty.fl29_3)) (And.intro (And.intro Ty.pl29_3 Ty.fl29_4) (And.intro Ty.pl29_4 (And.intro Ty.fl29_5 Ty.pl29_5))))) (And.intro (And.intro (And.intro (And.intro Ty.fl29_6 Ty.pl29_6) (And.intro Ty.fl29_7 Ty.pl29_7)) (And.intro (And.intro Ty.fl29_8 Ty.pl29_8) (And.intro Ty.sz105 (And.intro Ty.by105 Ty.ag105)))) (And.intro (And.intro (And.intro Ty.zr105 Ty.fl105_0) (And.intro Ty.pl105_0 Ty.fl105_1)) (And.intro (And.intro Ty.pl105_1 Ty.eq23) (And.intro Ty.eq26 (And.intro Ty.eq105 Ty.cb17)))))))
theorem over_ok (op : Str) (x : E) : OkP Tryd.prog 16 [vstr op, vE x] (vE (overE op x)) := by
  have ht := true_ok
  simp only [vE, cE_eq x, cE_eq tt] at ht ⊢
  refine Ok.of_ex Ty.mixed Tryd.func16 rfl (by simp [Tryd.ntmps16]) (by kernel_rfl) fun F w0 I0 => ?_
  simp only [↓rA, rB, Int.reduceEq, Int.reduceLE, Int.reduceLT, Int.reduceToNat, Nat.reduceAdd, Nat.reduceEqDiff, Nat.reduceLT, Nat.reduceLeDiff, Nat.reduceMul, Nat.reduceSub, reduceCtorEq, tbLY2, Tryd.results16]
  refine fun b3 h3 => ?_; replace h3 := newb h3; try simp only [Nb] at h3
  simp only [↓rA, rB, Int.reduceEq, Int.reduceLE, Int.reduceLT, Int.reduceToNat, Nat.reduceAdd, Nat.reduceEqDiff, Nat.reduceLT, Nat.reduceLeDiff, Nat.reduceMul, Nat.reduceSub, reduceCtorEq, tbLY2, Tryd.results16, h3]
  refine fun b4 h4 => ?_; replace h4 := newb h4; try simp only [Nb] at h4
  simp only [↓rA, rB, Int.reduceEq, Int.reduceLE, Int.reduceLT, Int.reduceToNat, Nat.reduceAdd, Nat.reduceEqDiff, Nat.reduceLT, Nat.reduceLeDiff, Nat.reduceMul, Nat.reduceSub, reduceCtorEq, tbLY2, Tryd.results16, h3, h4]
  refine CallV_of _ ht.v ?_
  simp only [↓rA, rB, Int.reduceEq, Int.reduceLE, Int.reduceLT, Int.reduceToNat, Nat.reduceAdd, Nat.reduceEqDiff, Nat.reduceLT, Nat.reduceLeDiff, Nat.reduceMul, Nat.reduceSub, reduceCtorEq, tbLY2, Tryd.results16, h3, h4]
  refine ⟨_, [], [], leE (h := ⟨5, op, es0, sOrders, val0, [], 0, 1, 0⟩) (l := [x, tt]) (Le.nil 2) ?_, List.nil_sublist _, List.nil_sublist _, rfl, rfl, rfl⟩
  simp only [vEs, List.map_cons, List.map_nil, cE_eq x, cE_eq tt]
  first | exact Le.refl _ | exact Le.list _ _ _
set_option linter.defProp false in
def tbLY3 := (And.intro (And.intro (And.intro (And.intro (And.intro (And.intro Ty.sz3 Ty.by3) (And.intro Ty.ag3 (And.intro Ty.zr3 Ty.un3))) (And.intro (And.intro Ty.sz4 Ty.by4) (And.intro Ty.ag4 (And.intro Ty.zr4 Ty.un4)))) (And.intro (And.intro (And.intro Ty.sz9 Ty.by9) (And.intro Ty.ag9 (And.intro Ty.zr9 Ty.un9))) (And.intro (And.intro Ty.sz23 Ty.by23) (And.intro Ty.ag23 (And.intro Ty.zr23 Ty.fl23_0))))) (And.intro (And.intro (And.intro (And.intro Ty.pl23_0 Ty.fl23_1) (And.intro Ty.pl23_1 (And.intro Ty.fl23_2 Ty.pl23_2))) (And.intro (And.intro Ty.sz24 Ty.by24) (And.intro Ty.ag24 (And.intro Ty.zr24 Ty.un24)))) (And.intro (And.intro (And.intro Ty.sz26 Ty.by26) (And.intro Ty.ag26 (And.intro Ty.zr26 Ty.fl26_0))) (And.intro (And.intro Ty.pl26_0 Ty.fl26_1) (And.intro Ty.pl26_1 (And.intro Ty.sz27 Ty.by27)))))) (And.intro (And.intro (And.intro (And.intro (And.intro Ty.ag27 Ty.zr27) (And.intro Ty.un27 (And.intro Ty.sz29 Ty.by29))) (And.intro (And.intro Ty.ag29 Ty.zr29) (And.intro Ty.fl29_0 (And.intro Ty.pl29_0 Ty.fl29_1)))) (And.intro (And.intro (And.intro Ty.pl29_1 Ty.fl29_2) (And.intro Ty.pl29_2 (And.intro Ty.fl29_3 Ty.pl29_3))) (And.intro (And.intro Ty.fl29_4 Ty.pl29_4) (And.intro Ty.fl29_5 (And.intro Ty.pl29_5 Ty.fl29_6))))) (And.intro (And.intro (And.intro (And.intro Ty.pl29_6 Ty.fl29_7) (And.intro Ty.pl29_7 (And.intro Ty.fl29_8 Ty.pl29_8))) (And.intro (And.intro Ty.sz37 Ty.by37) (And.intro Ty.ag37 (And.intro Ty.sz105 Ty.by105)))) (And.intro (And.intro (And.intro Ty.ag105 Ty.zr105) (And.intro Ty.fl105_0 (And.intro Ty.pl105_0 Ty.fl105_1))) (And.intro (And.intro Ty.pl105_1 Ty.eq23) (And.intro Ty.eq26 (And.intro Ty.eq105 Ty.cb8)))))))
theorem count_ok : ∀ (x : E), Fit x → sizeE x ≤ big → OkP Tryd.prog 8 [vE x] (.tup [vint (cntN x), vint (cntM x)]) := by
  intro x
  induction x using E.ind with
  | h hd l ih =>
  intro hf hs
  have hl := hf.len
  have ha := hf.args
  simp only [E.args, big] at hl ha hs
  have hle := cnt_le (.mk hd l)
  rw [vE, cE_mk]
  rw [cntN_mk, cntM_mk] at hle ⊢
  refine Ok.of_ex Ty.mixed Tryd.func8 rfl (by simp [Tryd.ntmps8]) (by kernel_rfl) fun F w0 I0 => ?_
  simp only [↓rA, rB, Int.reduceEq, Int.reduceLE, Int.reduceLT, Int.reduceToNat, Nat.reduceAdd, Nat.reduceEqDiff, Nat.reduceLT, Nat.reduceLeDiff, Nat.reduceMul, Nat.reduceSub, reduceCtorEq, tbLY3, Tryd.results8]
  refine fun b1 h1 => ?_; replace h1 := newb h1; try simp only [Nb] at h1
  by_cases e : hd.kind = 5
  · rw [if_pos e, if_pos e]
    simp only [↓rA, rB, Int.reduceEq, Int.reduceLE, Int.reduceLT, Int.reduceToNat, Nat.reduceAdd, Nat.reduceEqDiff, Nat.reduceLT, Nat.reduceLeDiff, Nat.reduceMul, Nat.reduceSub, reduceCtorEq, tbLY3, Tryd.results8, h1, e]
    exact ret_done rfl
  rw [if_neg e, if_neg e] at hle ⊢
  have hsz := sizeE_mk hd l
  simp only [↓rA, rB, Int.reduceEq, Int.reduceLE, Int.reduceLT, Int.reduceToNat, Nat.reduceAdd, Nat.reduceEqDiff, Nat.reduceLT, Nat.reduceLeDiff, Nat.reduceMul, Nat.reduceSub, reduceCtorEq, tbLY3, Tryd.results8, h1, e]
  refine EX_for Ty.mixed (by kernel_rfl) l.length (fun i S => S.boxes = [(b1, .c (cH hd (vEs l)))] ∧ S.rows = [] ∧ S.σ 1 = ptr b1 ∧ S.σ 4 = vint ((1 + cntNs (l.take i) : Nat) : Int) ∧ S.σ 5 = vint (cntMs (l.take i)) ∧ S.σ 6 = vint i) ⟨0, ?_⟩ (fun i S hi ⟨gb, gr, g1, g4, g5, g6⟩ => ?_) (fun S ⟨gb, gr, g1, g4, g5, g6⟩ => ?_)
  · simp only [↓rA, rB, Int.reduceEq, Int.reduceLE, Int.reduceLT, Int.reduceToNat, Nat.reduceAdd, Nat.reduceEqDiff, Nat.reduceLT, Nat.reduceLeDiff, Nat.reduceMul, Nat.reduceSub, reduceCtorEq, tbLY3, Tryd.results8, h1, cntNs, cntMs]
    exact rfl
  · have hwi := wrap_succ (i := i) (N := l.length) hi (by omega)
    have hx := List.getElem_mem hi
    have hsx : sizeE l[i] ≤ sizeEs l := sizeEs_mem hx
    have hc := ih l[i] hx (ha _ hx) (by unfold big; omega)
    rw [vE, cE_eq] at hc
    simp only [↓rA, rB, Int.reduceEq, Int.reduceLE, Int.reduceLT, Int.reduceToNat, Nat.reduceAdd, Nat.reduceEqDiff, Nat.reduceLT, Nat.reduceLeDiff, Nat.reduceMul, Nat.reduceSub, reduceCtorEq, tbLY3, Tryd.results8, gb, gr, g1, g4, g5, g6, h1, Int.ofNat_lt, hi, List.length_map, getD_map _ _ _ hi, cE_eq]
    refine OkF_of _ hc ?_
    have e1 : cntNs (l.take (i + 1)) = cntNs (l.take i) + cntN l[i] := by
      rw [List.take_succ_eq_append_getElem hi, cntNs_append]; simp [cntNs]
    have e2 : cntMs (l.take (i + 1)) = cntMs (l.take i) + cntM l[i] := by
      rw [List.take_succ_eq_append_getElem hi, cntMs_append]; simp [cntMs]
    have e3 : cntNs (l.take (i + 1)) + cntNs (l.drop (i + 1)) = cntNs l := by rw [← cntNs_append, List.take_append_drop]
    have e4 : cntMs (l.take (i + 1)) + cntMs (l.drop (i + 1)) = cntMs l := by rw [← cntMs_append, List.take_append_drop]
    simp only [↓rA, rB, Int.reduceEq, Int.reduceLE, Int.reduceLT, Int.reduceToNat, Nat.reduceAdd, Nat.reduceEqDiff, Nat.reduceLT, Nat.reduceLeDiff, Nat.reduceMul, Nat.reduceSub, reduceCtorEq, tbLY3, Tryd.results8, gb, gr, g1, g4, g5, g6, h1, hwi]
    refine ⟨0, rfl, ?_, ?_⟩
    · rw [wrap_id (by omega) (by omega), e1]; congr 2; omega
    · rw [wrap_id (by omega) (by omega), e2]; congr 2
  · rw [List.take_of_length_le (Nat.le_refl _)] at g4 g5
    simp only [↓rA, rB, Int.reduceEq, Int.reduceLE, Int.reduceLT, Int.reduceToNat, Nat.reduceAdd, Nat.reduceEqDiff, Nat.reduceLT, Nat.reduceLeDiff, Nat.reduceMul, Nat.reduceSub, reduceCtorEq, tbLY3, Tryd.results8, gb, gr, g1, g4, g5, g6, h1, Int.ofNat_lt, Nat.lt_irrefl, List.length_map]
    exact ret_done rfl
set_option linter.defProp false in
def tbLY4 := (And.intro (And.intro (And.intro (And.intro (And.intro (And.intro Ty.sz3 (And.intro Ty.by3 Ty.ag3)) (And.intro (And.intro Ty.zr3 Ty.un3) (And.intro Ty.sz4 Ty.by4))) (And.intro (And.intro Ty.ag4 (And.intro Ty.zr4 Ty.un4)) (And.intro (And.intro Ty.sz9 Ty.by9) (And.intro Ty.ag9 Ty.zr9)))) (And.intro (And.intro (And.intro Ty.un9 (And.intro Ty.sz23 Ty.by23)) (And.intro (And.intro Ty.ag23 Ty.zr23) (And.intro Ty.fl23_0 Ty.pl23_0))) (And.intro (And.intro Ty.fl23_1 (And.intro Ty.pl23_1 Ty.fl23_2)) (And.intro (And.intro Ty.pl23_2 Ty.sz24) (And.intro Ty.by24 Ty.ag24))))) (And.intro (And.intro (And.intro (And.intro Ty.zr24 (And.intro Ty.un24 Ty.sz26)) (And.intro (And.intro Ty.by26 Ty.ag26) (And.intro Ty.zr26 Ty.fl26_0))) (And.intro (And.intro Ty.pl26_0 (And.intro Ty.fl26_1 Ty.pl26_1)) (And.intro (And.intro Ty.sz27 Ty.by27) (And.intro Ty.ag27 Ty.zr27)))) (And.intro (And.intro (And.intro Ty.un27 (And.intro Ty.sz29 Ty.by29)) (And.intro (And.intro Ty.ag29 Ty.zr29) (And.intro Ty.fl29_0 Ty.pl29_0))) (And.intro (And.intro (And.intro Ty.fl29_1 Ty.pl29_1) (And.intro Ty.fl29_2 Ty.pl29_2)) (And.intro (And.intro Ty.fl29_3 Ty.pl29_3) (And.intro Ty.fl29_4 Ty.pl29_4)))))) (And.intro (And.intro (And.intro (And.intro (And.intro Ty.fl29_5 (And.intro Ty.pl29_5 Ty.fl29_6)) (And.intro (And.intro Ty.pl29_6 Ty.fl29_7) (And.intro Ty.pl29_7 Ty.fl29_8))) (And.intro (And.intro Ty.pl29_8 (And.intro Ty.sz31 Ty.by31)) (And.intro (And.intro Ty.ag31 Ty.zr31) (And.intro Ty.un31 Ty.sz33)))) (And.intro (And.intro (And.intro Ty.by33 (And.intro Ty.ag33 Ty.zr33)) (And.intro (And.intro Ty.fl33_0 Ty.pl33_0) (And.intro Ty.sz41 Ty.by41))) (And.intro (And.intro (And.intro Ty.ag41 Ty.zr41) (And.intro Ty.un41 Ty.sz43)) (And.intro (And.intro Ty.by43 Ty.ag43) (And.intro Ty.zr43 Ty.fl43_0))))) (And.intro (And.intro (And.intro (And.intro Ty.pl43_0 (And.intro Ty.fl43_1 Ty.pl43_1)) (And.intro (And.intro Ty.fl43_2 Ty.pl43_2) (And.intro Ty.fl43_3 Ty.pl43_3))) (And.intro (And.intro Ty.fl43_4 (And.intro Ty.pl43_4 Ty.fl43_5)) (And.intro (And.intro Ty.pl43_5 Ty.fl43_6) (And.intro Ty.pl43_6 Ty.fl43_7)))) (And.intro (And.intro (And.intro Ty.pl43_7 (And.intro Ty.fl43_8 Ty.pl43_8)) (And.intro (And.intro Ty.sz105 Ty.by105) (And.intro Ty.ag105 Ty.zr105))) (And.intro (And.intro (And.intro Ty.fl105_0 Ty.pl105_0) (And.intro Ty.fl105_1 Ty.pl105_1)) (And.intro (And.intro Ty.eq23 Ty.eq26) (And.intro Ty.eq105 Ty.cb9)))))))
theorem sameG_ok (u v : List Nd) (hu : u.length ≤ big) (hf : ∀ n ∈ u, FitN n) : OkP Tryd.prog 11 [vG u, vG v] (vbool (decide (u = v))) := by
  have fb : ∀ {a b : Bool}, a = b → V.lit (.bool a) = vbool b := fun h => by rw [h]
  unfold big at hu
  refine Ok.of_ex Ty.mixed Tryd.func11 rfl (by simp [Tryd.ntmps11]) (by kernel_rfl) fun F w0 I0 => ?_
  simp only [↓rA, rB, Int.reduceEq, Int.reduceLE, Int.reduceLT, Int.reduceToNat, Nat.reduceAdd, Nat.reduceEqDiff, Nat.reduceLT, Nat.reduceLeDiff, Nat.reduceMul, Nat.reduceSub, reduceCtorEq, tbLY4, Tryd.results11]
  refine fun b2 h2 => ?_; replace h2 := newb h2; try simp only [Nb] at h2
  simp only [↓rA, rB, Int.reduceEq, Int.reduceLE, Int.reduceLT, Int.reduceToNat, Nat.reduceAdd, Nat.reduceEqDiff, Nat.reduceLT, Nat.reduceLeDiff, Nat.reduceMul, Nat.reduceSub, reduceCtorEq, tbLY4, Tryd.results11, h2]
  refine fun b3 h3 => ?_; replace h3 := newb h3; try simp only [Nb] at h3
  by_cases hl : ¬ u.length = v.length
  · have hl' : ¬ (u.length : Int) = v.length := by omega
    simp only [↓rA, rB, Int.reduceEq, Int.reduceLE, Int.reduceLT, Int.reduceToNat, Nat.reduceAdd, Nat.reduceEqDiff, Nat.reduceLT, Nat.reduceLeDiff, Nat.reduceMul, Nat.reduceSub, reduceCtorEq, tbLY4, Tryd.results11, h2, h3, List.length_map, hl']
    exact ret_done (fb (decide_eq_false fun e => hl (by rw [e])).symm)
  have hl' : (u.length : Int) = v.length := by omega
  have hl : u.length = v.length := by omega
  simp only [↓rA, rB, Int.reduceEq, Int.reduceLE, Int.reduceLT, Int.reduceToNat, Nat.reduceAdd, Nat.reduceEqDiff, Nat.reduceLT, Nat.reduceLeDiff, Nat.reduceMul, Nat.reduceSub, reduceCtorEq, tbLY4, Tryd.results11, h2, h3, List.length_map, hl']
  refine EX_for Ty.mixed (by kernel_rfl) v.length (fun i S => u.take i = v.take i ∧ S.boxes = [(b3, .c [vNds v]), (b2, .c [vNds u])] ∧ S.rows = [] ∧ S.σ 2 = ptr b2 ∧ S.σ 3 = ptr b3 ∧ S.σ 5 = vint i) ⟨0, ?_⟩ (fun i S hi ⟨hq, gb, gr, g2, g3, g5⟩ => ?_) (fun S ⟨hq, gb, gr, g2, g3, g5⟩ => ?_)
  · simp only [↓rA, rB, Int.reduceEq, Int.reduceLE, Int.reduceLT, Int.reduceToNat, Nat.reduceAdd, Nat.reduceEqDiff, Nat.reduceLT, Nat.reduceLeDiff, Nat.reduceMul, Nat.reduceSub, reduceCtorEq, tbLY4, Tryd.results11, h2, h3, List.length_map, hl']
    try exact rfl
  · have hwi := wrap_succ (i := i) (N := v.length) hi (by omega)
    have hiu : i < u.length := by omega
    have hc := sameNodeR_ok u[i] v[i] (hf _ (List.getElem_mem hiu))
    simp only [cNd_eq] at hc
    simp only [↓rA, rB, Int.reduceEq, Int.reduceLE, Int.reduceLT, Int.reduceToNat, Nat.reduceAdd, Nat.reduceEqDiff, Nat.reduceLT, Nat.reduceLeDiff, Nat.reduceMul, Nat.reduceSub, reduceCtorEq, tbLY4, Tryd.results11, gb, gr, g2, g3, g5, h2, h3, hl', Int.ofNat_lt, hi, hiu, List.length_map, getD_map _ _ _ hi, getD_map _ _ _ hiu, cNd_eq]
    refine CallV_of _ hc.v ?_
    by_cases e : u[i] = v[i]
    · simp only [↓rA, rB, Int.reduceEq, Int.reduceLE, Int.reduceLT, Int.reduceToNat, Nat.reduceAdd, Nat.reduceEqDiff, Nat.reduceLT, Nat.reduceLeDiff, Nat.reduceMul, Nat.reduceSub, reduceCtorEq, tbLY4, Tryd.results11, gb, gr, g2, g3, g5, e, hwi]
      exact ⟨0, by rw [List.take_succ_eq_append_getElem hi, List.take_succ_eq_append_getElem hiu, hq, e], rfl⟩
    · simp only [↓rA, rB, Int.reduceEq, Int.reduceLE, Int.reduceLT, Int.reduceToNat, Nat.reduceAdd, Nat.reduceEqDiff, Nat.reduceLT, Nat.reduceLeDiff, Nat.reduceMul, Nat.reduceSub, reduceCtorEq, tbLY4, Tryd.results11, gb, gr, g2, g3, g5, e]
      refine ret_done (fb (decide_eq_false fun e' => e ?_).symm)
      subst e'
      rfl
  · simp only [↓rA, rB, Int.reduceEq, Int.reduceLE, Int.reduceLT, Int.reduceToNat, Nat.reduceAdd, Nat.reduceEqDiff, Nat.reduceLT, Nat.reduceLeDiff, Nat.reduceMul, Nat.reduceSub, reduceCtorEq, tbLY4, Tryd.results11, gb, gr, g2, g3, g5, h2, h3, hl', List.length_map, Int.ofNat_lt, Nat.lt_irrefl]
    rw [List.take_of_length_le (Nat.le_refl _), List.take_of_length_le (by omega)] at hq
    exact ret_done (fb (decide_eq_true hq).symm)
/-- The kinds of nodes, as the law writes them. -/
def kindsM (l : List Nd) (s : Str) : Str := l.foldl (fun s n => s ++ strOf [IntKind.u8.wrap (IntKind.i64.wrap (48 + n.kind))]) s
theorem kindsM_size : ∀ (l : List Nd) (s : Str), ByteArray.size (kindsM l s) = ByteArray.size s + l.length
  | [], s => rfl
  | n :: r, s => by
    have h := kindsM_size r (s ++ strOf [IntKind.u8.wrap (IntKind.i64.wrap (48 + n.kind))])
    rw [show kindsM (n :: r) s = kindsM r (s ++ strOf [IntKind.u8.wrap (IntKind.i64.wrap (48 + n.kind))]) from rfl, h, ByteArray.size_append, List.length_cons]
    have : ByteArray.size (strOf [IntKind.u8.wrap (IntKind.i64.wrap (48 + n.kind))]) = 1 := rfl
    omega
theorem kindsM_snoc (l : List Nd) (n : Nd) (s : Str) : kindsM (l ++ [n]) s = kindsM l s ++ strOf [IntKind.u8.wrap (IntKind.i64.wrap (48 + n.kind))] := by
  rw [kindsM, List.foldl_append]; rfl
set_option linter.defProp false in
def tbLY5 := (And.intro (And.intro (And.intro (And.intro (And.intro (And.intro (And.intro Ty.sz3 Ty.by3) (And.intro Ty.ag3 Ty.zr3)) (And.intro (And.intro Ty.un3 Ty.sz4) (And.intro Ty.by4 Ty.ag4))) (And.intro (And.intro (And.intro Ty.zr4 Ty.un4) (And.intro Ty.sz5 Ty.by5)) (And.intro (And.intro Ty.ag5 Ty.zr5) (And.intro Ty.un5 Ty.sz9)))) (And.intro (And.intro (And.intro (And.intro Ty.by9 Ty.ag9) (And.intro Ty.zr9 Ty.un9)) (And.intro (And.intro Ty.sz23 Ty.by23) (And.intro Ty.ag23 Ty.zr23))) (And.intro (And.intro (And.intro Ty.fl23_0 Ty.pl23_0) (And.intro Ty.fl23_1 Ty.pl23_1)) (And.intro (And.intro Ty.fl23_2 Ty.pl23_2) (And.intro Ty.sz24 (And.intro Ty.by24 Ty.ag24)))))) (And.intro (And.intro (And.intro (And.intro (And.intro Ty.zr24 Ty.un24) (And.intro Ty.sz26 Ty.by26)) (And.intro (And.intro Ty.ag26 Ty.zr26) (And.intro Ty.fl26_0 Ty.pl26_0))) (And.intro (And.intro (And.intro Ty.fl26_1 Ty.pl26_1) (And.intro Ty.sz27 Ty.by27)) (And.intro (And.intro Ty.ag27 Ty.zr27) (And.intro Ty.un27 Ty.sz29)))) (And.intro (And.intro (And.intro (And.intro Ty.by29 Ty.ag29) (And.intro Ty.zr29 Ty.fl29_0)) (And.intro (And.intro Ty.pl29_0 Ty.fl29_1) (And.intro Ty.pl29_1 Ty.fl29_2))) (And.intro (And.intro (And.intro Ty.pl29_2 Ty.fl29_3) (And.intro Ty.pl29_3 Ty.fl29_4)) (And.intro (And.intro Ty.pl29_4 Ty.fl29_5) (And.intro Ty.pl29_5 (And.intro Ty.fl29_6 Ty.pl29_6))))))) (And.intro (And.intro (And.intro (And.intro (And.intro (And.intro Ty.fl29_7 Ty.pl29_7) (And.intro Ty.fl29_8 Ty.pl29_8)) (And.intro (And.intro Ty.sz31 Ty.by31) (And.intro Ty.ag31 Ty.zr31))) (And.intro (And.intro (And.intro Ty.un31 Ty.sz33) (And.intro Ty.by33 Ty.ag33)) (And.intro (And.intro Ty.zr33 Ty.fl33_0) (And.intro Ty.pl33_0 Ty.sz34)))) (And.intro (And.intro (And.intro (And.intro Ty.by34 Ty.ag34) (And.intro Ty.zr34 Ty.un34)) (And.intro (And.intro Ty.sz35 Ty.by35) (And.intro Ty.ag35 Ty.sz41))) (And.intro (And.intro (And.intro Ty.by41 Ty.ag41) (And.intro Ty.zr41 Ty.un41)) (And.intro (And.intro Ty.sz43 Ty.by43) (And.intro Ty.ag43 (And.intro Ty.zr43 Ty.fl43_0)))))) (And.intro (And.intro (And.intro (And.intro (And.intro Ty.pl43_0 Ty.fl43_1) (And.intro Ty.pl43_1 Ty.fl43_2)) (And.intro (And.intro Ty.pl43_2 Ty.fl43_3) (And.intro Ty.pl43_3 Ty.fl43_4))) (And.intro (And.intro (And.intro Ty.pl43_4 Ty.fl43_5) (And.intro Ty.pl43_5 Ty.fl43_6)) (And.intro (And.intro Ty.pl43_6 Ty.fl43_7) (And.intro Ty.pl43_7 (And.intro Ty.fl43_8 Ty.pl43_8))))) (And.intro (And.intro (And.intro (And.intro Ty.sz88 Ty.by88) (And.intro Ty.ag88 Ty.zr88)) (And.intro (And.intro Ty.un88 Ty.sz105) (And.intro Ty.by105 Ty.ag105))) (And.intro (And.intro (And.intro Ty.zr105 Ty.fl105_0) (And.intro Ty.pl105_0 Ty.fl105_1)) (And.intro (And.intro Ty.pl105_1 Ty.eq23) (And.intro Ty.eq26 (And.intro Ty.eq105 Ty.cb7))))))))
theorem kinds_ok (x : E) (hf : Fit x) (hs : shapeC x = 0) (hb : depthE x ≤ big) (hl : (graphC x).length ≤ big) : OkP Tryd.prog 19 [vE x] (vstr (kindsM (graphC x) es0)) := by
  have hg := graph_ok x hf hb
  rw [hs] at hg
  unfold big at hl
  simp only [vE, cE_eq x] at hg ⊢
  refine Ok.of_ex Ty.mixed Tryd.func19 rfl (by simp [Tryd.ntmps19]) (by kernel_rfl) fun F w0 I0 => ?_
  simp only [↓rA, rB, Int.reduceEq, Int.reduceLE, Int.reduceLT, Int.reduceToNat, Nat.reduceAdd, Nat.reduceEqDiff, Nat.reduceLT, Nat.reduceLeDiff, Nat.reduceMul, Nat.reduceSub, reduceCtorEq, tbLY5, Tryd.results19]
  refine fun b1 h1 => ?_; replace h1 := newb h1; try simp only [Nb] at h1
  simp only [↓rA, rB, Int.reduceEq, Int.reduceLE, Int.reduceLT, Int.reduceToNat, Nat.reduceAdd, Nat.reduceEqDiff, Nat.reduceLT, Nat.reduceLeDiff, Nat.reduceMul, Nat.reduceSub, reduceCtorEq, tbLY5, Tryd.results19, h1]
  refine OkF_of _ hg ?_
  simp only [↓rA, rB, Int.reduceEq, Int.reduceLE, Int.reduceLT, Int.reduceToNat, Nat.reduceAdd, Nat.reduceEqDiff, Nat.reduceLT, Nat.reduceLeDiff, Nat.reduceMul, Nat.reduceSub, reduceCtorEq, tbLY5, Tryd.results19, h1]
  refine fun b3 h3 => ?_; replace h3 := newb h3; try simp only [Nb] at h3
  simp only [↓rA, rB, Int.reduceEq, Int.reduceLE, Int.reduceLT, Int.reduceToNat, Nat.reduceAdd, Nat.reduceEqDiff, Nat.reduceLT, Nat.reduceLeDiff, Nat.reduceMul, Nat.reduceSub, reduceCtorEq, tbLY5, Tryd.results19, h1, h3]
  refine EX_forP Ty.mixed (by kernel_rfl) (graphC x).length (fun i S => S.boxes = [(b3, .c [vNds (graphC x)]), (b1, .c (cH x.hd (vEs x.args)))] ∧ S.rows = [] ∧ S.σ 3 = ptr b3 ∧ S.σ 4 = vint 0 ∧ S.σ 5 = vstr (kindsM ((graphC x).take i) es0) ∧ S.σ 6 = vint i) ⟨_, _, _, _, List.Sublist.refl _, List.Sublist.refl _, List.Perm.refl _, List.Perm.refl _, ?_⟩ (fun i S hi ⟨gb, gr, g3, g4, g5, g6⟩ => ?_) (fun S ⟨gb, gr, g3, g4, g5, g6⟩ => ?_)
  · simp only [↓rA, rB, Int.reduceEq, Int.reduceLE, Int.reduceLT, Int.reduceToNat, Nat.reduceAdd, Nat.reduceEqDiff, Nat.reduceLT, Nat.reduceLeDiff, Nat.reduceMul, Nat.reduceSub, reduceCtorEq, tbLY5, Tryd.results19, h1, h3]
    rfl
  · have hwi := wrap_succ (i := i) (N := (graphC x).length) hi (by omega)
    simp only [↓rA, rB, Int.reduceEq, Int.reduceLE, Int.reduceLT, Int.reduceToNat, Nat.reduceAdd, Nat.reduceEqDiff, Nat.reduceLT, Nat.reduceLeDiff, Nat.reduceMul, Nat.reduceSub, reduceCtorEq, tbLY5, Tryd.results19, gb, gr, g3, g4, g5, g6, h1, h3, Int.ofNat_lt, hi, List.length_map, getD_map _ _ _ hi, cNd_eq]
    refine fun y => ⟨fun e he => by obtain rfl := List.mem_singleton.1 he; rfl, [_], rfl, ?_⟩
    simp only [↓rA, rB, Int.reduceEq, Int.reduceLE, Int.reduceLT, Int.reduceToNat, Nat.reduceAdd, Nat.reduceEqDiff, Nat.reduceLT, Nat.reduceLeDiff, Nat.reduceMul, Nat.reduceSub, reduceCtorEq, tbLY5, Tryd.results19, gb, gr, g3, g4, g5, g6, h1, h3, hwi]
    rw [if_pos]
    · refine ⟨_, _, _, _, List.Sublist.refl _, List.nil_sublist _, List.Perm.refl _, List.Perm.refl _, ?_⟩
      simp only [↓rA, rB, Int.reduceEq, Int.reduceLE, Int.reduceLT, Int.reduceToNat, Nat.reduceAdd, Nat.reduceEqDiff, Nat.reduceLT, Nat.reduceLeDiff, Nat.reduceMul, Nat.reduceSub, reduceCtorEq, tbLY5, Tryd.results19, gb, gr, g3, g4, g5, g6, h1, h3, hwi]
      rw [List.take_succ_eq_append_getElem hi, kindsM_snoc]
    · rw [kindsM_size, List.length_take, show ByteArray.size es0 = 0 from rfl, show (strOf [IntKind.u8.wrap (IntKind.i64.wrap (48 + (graphC x)[i].kind))]).size = 1 from rfl]
      omega
  · rw [List.take_of_length_le (Nat.le_refl _)] at g5
    simp only [↓rA, rB, Int.reduceEq, Int.reduceLE, Int.reduceLT, Int.reduceToNat, Nat.reduceAdd, Nat.reduceEqDiff, Nat.reduceLT, Nat.reduceLeDiff, Nat.reduceMul, Nat.reduceSub, reduceCtorEq, tbLY5, Tryd.results19, gb, gr, g3, g4, g5, g6, h1, h3, Int.ofNat_lt, Nat.lt_irrefl, List.length_map]
    exact ret_done rfl
end Go.Proofs.YtphkmlogjgeipaaDoor

/- Lowering: the example's values. -/
set_option maxRecDepth 100000
namespace Go.Lo
open Go.VL Go.Ar
abbrev oneE : E := .mk { hd0 1 with val := ⟨2, 1, es0⟩ } []
abbrev sCnt : Str := ⟨#[99, 111, 117, 110, 116]⟩
abbrev sSum : Str := ⟨#[115, 117, 109]⟩
abbrev sMax : Str := ⟨#[109, 97, 120]⟩
abbrev sAmount : Str := ⟨#[97, 109, 111, 117, 110, 116]⟩
abbrev sPlus : Str := ⟨#[43]⟩
abbrev sDiv : Str := ⟨#[47]⟩
abbrev sF : Str := ⟨#[102]⟩
abbrev sUser : Str := ⟨#[117, 115, 101, 114]⟩
abbrev countE : E := overE sCnt tt
abbrev amountE : E := .mk { hd0 2 with name := sAmount } []
abbrev sumE : E := overE sSum amountE
abbrev lastE : E := .mk ⟨5, sCnt, es0, sOrders, val0, [], 0, 4, 30⟩ [tt, tt]
abbrev featE : E := .mk { hd0 3 with name := sF } []
abbrev exF : Ftr := ⟨sF, sUser, ⟨2, [], es0⟩, countE, 1⟩
abbrev exC : Cat := ⟨[⟨sOrders, sUser, [⟨sAmount, ⟨2, [], es0⟩⟩], 0⟩], [exF], [], []⟩
end Go.Lo
namespace Go.Proofs.YtphkmlogjgeipaaDoor
open Go.VL Go.Ar Go.Lo Go.Proofs.YtphkmlogjgeipaaDoor
theorem sh1 : shapeC (binE sPlus countE countE) = 0 := by decide +kernel
theorem sh2 : shapeC (binE sPlus oneE oneE) = 0 := by decide +kernel
theorem sh3 : shapeC (binE sDiv sumE countE) = 0 := by decide +kernel
theorem putM_new {l : List Nd} {n : Nd} (h : n ∉ l) : putM l n = (l ++ [n], l.length) := by
  rw [putM, if_neg h, idxM_not fun j hj e => h (by rw [e]; exact List.getElem_mem hj)]
theorem putM_old {l : List Nd} {n : Nd} (h : n ∈ l) : putM l n = (l, idxM l n) := by rw [putM, if_pos h]
theorem gr2 : graphC (binE sPlus oneE oneE) = [{ nd0 5 with val := ⟨2, 1, es0⟩, expr := oneE }, { nd0 8 with op := sPlus, inn := [0, 0] }] := by
  rw [graphC, if_pos sh2]
  simp [lowE_op, lowEs, putM, idxM, ownM]
theorem gr1 : graphC (binE sPlus countE countE) = [{ nd0 1 with table := sOrders }, { nd0 2 with expr := tt, inn := [0] }, { nd0 3 with expr := tt, inn := [1] }, { nd0 4 with op := sCnt, wk := 1, inn := [2] }, { nd0 8 with op := sPlus, inn := [3, 3] }] := by
  rw [graphC, if_pos sh1]
  simp [lowE_op, lowE_agg, lowEs, overM, putM, idxM, ownM]
theorem gr3 : graphC (binE sDiv sumE countE) = [{ nd0 1 with table := sOrders }, { nd0 2 with expr := tt, inn := [0] }, { nd0 3 with expr := amountE, inn := [1] }, { nd0 4 with op := sSum, wk := 1, inn := [2] }, { nd0 3 with expr := tt, inn := [1] }, { nd0 4 with op := sCnt, wk := 1, inn := [4] }, { nd0 8 with op := sDiv, inn := [3, 5] }] := by
  rw [graphC, if_pos sh3]
  simp [lowE_op, lowE_agg, lowEs, overM, putM, idxM, ownM]
end Go.Proofs.YtphkmlogjgeipaaDoor

/- Contracts of lowering, part r: the example. -/
set_option linter.unusedSimpArgs false
set_option maxRecDepth 100000
namespace Go.Proofs.YtphkmlogjgeipaaDoor
open Go.VL Go.Ar Go.Lo Go.Proofs.YtphkmlogjgeipaaDoor

theorem LeL_ats {w : World} {I : Cells} {b : Nat} : ∀ {l l' : List V} {o : Nat}, LeL l l' → V.ats w I l b o → V.ats w I l' b o
  | _, _, _, .nil, _ => by simp only [V.ats]
  | _, _, o, .cons h r, ha => by
    simp only [V.ats] at ha ⊢
    obtain ⟨⟨x, h1, h2, h3, h4⟩, h5⟩ := ha
    exact ⟨⟨x, h1, h2, h3, h w I x h4⟩, LeL_ats r h5⟩
theorem LeL_len : ∀ {l l' : List V}, LeL l l' → l.length = l'.length
  | _, _, .nil => rfl
  | _, _, .cons _ r => by simp [LeL_len r]
inductive LeLL : List (List V) → List (List V) → Prop
  | nil : LeLL [] []
  | cons {e e' : List V} {l l' : List (List V)} (h : LeL e e') (r : LeLL l l') : LeLL (e :: l) (e' :: l')
theorem LeLL.len : ∀ {l l' : List (List V)}, LeLL l l' → l.length = l'.length
  | _, _, .nil => rfl
  | _, _, .cons _ r => by simp [r.len]
theorem LeLL.lies {w : World} {I : Cells} {b k : Nat} : ∀ {l l' : List (List V)} {o : Nat}, LeLL l l' → V.lies w I k l b o → V.lies w I k l' b o
  | _, _, _, .nil, _ => by simp only [V.lies]
  | _, _, o, .cons h r, ha => by
    simp only [V.lies] at ha ⊢
    exact ⟨LeL_ats h ha.1, LeL_len h ▸ ha.2.1, r.lies ha.2.2⟩
theorem Le.lists {own : Option Value} {k : Nat} {es es' : List (List V)} (h : LeLL es es') : Le (.list own k es) (.list none k es') := by
  intro w I x hx
  simp only [V.rep] at hx ⊢
  obtain ⟨_, a, c, h1, h2, h3⟩ := hx
  refine ⟨fun y hy => (by cases hy), a, c, h.len ▸ h1, h.len ▸ h2, ?_⟩
  rcases h3 with e | ⟨b, o, e, hl⟩
  · subst e
    cases h
    exact .inl rfl
  · exact .inr ⟨b, o, e, h.lies hl⟩

theorem kd1 : kindsM (graphC (binE sPlus countE countE)) es0 = ⟨#[49, 50, 51, 52, 56]⟩ := by rw [gr1]; decide +kernel
theorem kd2 : kindsM (graphC (binE sPlus oneE oneE)) es0 = ⟨#[53, 56]⟩ := by rw [gr2]; decide +kernel
theorem kd3 : kindsM (graphC (binE sDiv sumE countE)) es0 = ⟨#[49, 50, 51, 52, 51, 52, 56]⟩ := by rw [gr3]; decide +kernel
abbrev maxE : E := overE sMax amountE
abbrev mo : E := binE sPlus maxE oneE
theorem fitA (h : Hd) (hu : h.unit.length ≤ big) : Fit (.mk h []) := .mk _ _ hu (by decide) fun x hx => by cases hx
theorem fitB {a b : E} (h : Hd) (hu : h.unit.length ≤ big) (ha : Fit a) (hb : Fit b) : Fit (.mk h [a, b]) := .mk _ _ hu (show 2 ≤ big by decide) fun x hx => by
  rcases List.mem_cons.1 hx with rfl | hx
  · exact ha
  · obtain rfl := List.mem_singleton.1 hx
    exact hb
theorem fitTT : Fit tt := fitA _ (by decide)
theorem fitOne : Fit oneE := fitA _ (by decide)
theorem fitFe : Fit featE := fitA _ (by decide)
theorem fitAm : Fit amountE := fitA _ (by decide)
theorem fitCnt : Fit countE := fitB _ (by decide) fitTT fitTT
theorem fitSum : Fit sumE := fitB _ (by decide) fitAm fitTT
theorem fitMax : Fit maxE := fitB _ (by decide) fitAm fitTT
theorem fitLast : Fit lastE := fitB _ (by decide) fitTT fitTT
theorem fitMo : Fit mo := fitB _ (by decide) fitMax fitOne
theorem cl1 : OkP Tryd.prog 18 [vCat exC, vE oneE] (vint 0) := class_none exC oneE fitOne [] (uses_none exC oneE fitOne [] (by decide +kernel) (by decide))
theorem cl2 : OkP Tryd.prog 18 [vCat exC, vE featE] (vint 1) := class_one exC featE fitFe (by decide) sF exF fitCnt rfl [sOrders] (uses_one exC featE fitFe (by decide) sF exF fitCnt [] [sOrders] (by decide +kernel) rfl (by decide +kernel) (by decide))
theorem cl3 : OkP Tryd.prog 18 [vCat exC, vE mo] (vint 2) := class_none exC mo fitMo [sOrders] (uses_none exC mo fitMo [sOrders] (by decide +kernel) (by decide))
theorem cl4 : OkP Tryd.prog 18 [vCat exC, vE lastE] (vint 3) := class_none exC lastE fitLast [sOrders] (uses_none exC lastE fitLast [sOrders] (by decide +kernel) (by decide))
theorem vE_over (op : Str) (x : E) : vE (overE op x) = .agg (cH ⟨5, op, es0, sOrders, val0, [], 0, 1, 0⟩ (.list none 12 [cE x, cE tt])) := by rw [vE, cE_mk]; rfl
theorem vE_last : vE lastE = .agg (cH ⟨5, sCnt, es0, sOrders, val0, [], 0, 4, 30⟩ (.list none 12 [cE tt, cE tt])) := by rw [vE, cE_mk]; rfl
theorem vE_one : vE oneE = .agg (cH { hd0 1 with val := ⟨2, 1, es0⟩ } (.list none 12 [])) := by rw [vE, cE_mk]; rfl
theorem vE_am : vE amountE = .agg (cH { hd0 2 with name := sAmount } (.list none 12 [])) := by rw [vE, cE_mk]; rfl
theorem vE_tt : vE tt = .agg (cH hTT (.list none 12 [])) := by rw [vE, cE_mk]; rfl
abbrev gr1L : List Nd := [{ nd0 1 with table := sOrders }, { nd0 2 with expr := tt, inn := [0] }, { nd0 3 with expr := tt, inn := [1] }, { nd0 4 with op := sCnt, wk := 1, inn := [2] }, { nd0 8 with op := sPlus, inn := [3, 3] }]
theorem EX_gen {C : Ctx} {k : List It} {S : St} {Q : Exit → St → Prop} (T : St → Prop) (h : T S) (hk : ∀ S, T S → EX C k S Q) : EX C k S Q := hk S h
abbrev tabV (y y1 : Value) : V := .list (some y1) 4 [[vstr sOrders, vstr sUser, .list (some y) 4 [[vstr sAmount, vint 2, nilS, vstr es0]], vint 0]]
abbrev cFx : List V := [vstr sF, vstr sUser, vint 2, nilS, vstr es0, vint 5, vstr sCnt, vstr es0, vstr sOrders, vint 0, vint 0, vstr es0, vFacs [], vint 0, vint 1, vint 0, .list none 12 [cE tt, cE tt], vint 1]
abbrev ftrV (y2 : Value) : V := .list (some y2) 18 [cFx]
theorem leCat (y y1 y2 : Value) : Le (.agg [tabV y y1, ftrV y2, nilS, nilS]) (vCat exC) := by
  refine leAgg (.cons (Le.lists (.cons (.cons (Le.refl _) (.cons (Le.refl _) (.cons (Le.lists (.cons (.cons (Le.refl _) (.cons (Le.refl _) (.cons (Le.nil 2) (.cons (Le.refl _) .nil)))) .nil)) (.cons (Le.refl _) .nil)))) .nil)) (.cons (Le.lists (.cons ?_ .nil)) (.cons (Le.nil 18) (.cons (Le.nil 18) .nil))))
  rw [cFtr_eq]
  exact .cons (Le.refl _) (.cons (Le.refl _) (.cons (Le.refl _) (.cons (Le.nil 2) (LeL.refl _))))
set_option linter.defProp false in
def tbL10 := (And.intro (And.intro (And.intro (And.intro (And.intro (And.intro (And.intro Ty.sz3 (And.intro Ty.by3 Ty.ag3)) (And.intro Ty.zr3 (And.intro Ty.un3 Ty.sz4))) (And.intro (And.intro Ty.by4 (And.intro Ty.ag4 Ty.zr4)) (And.intro Ty.un4 (And.intro Ty.sz9 Ty.by9)))) (And.intro (And.intro (And.intro Ty.ag9 (And.intro Ty.zr9 Ty.un9)) (And.intro Ty.sz23 (And.intro Ty.by23 Ty.ag23))) (And.intro (And.intro Ty.zr23 (And.intro Ty.fl23_0 Ty.pl23_0)) (And.intro Ty.fl23_1 (And.intro Ty.pl23_1 Ty.fl23_2))))) (And.intro (And.intro (And.intro (And.intro Ty.pl23_2 (And.intro Ty.sz24 Ty.by24)) (And.intro Ty.ag24 (And.intro Ty.zr24 Ty.un24))) (And.intro (And.intro Ty.sz26 (And.intro Ty.by26 Ty.ag26)) (And.intro Ty.zr26 (And.intro Ty.fl26_0 Ty.pl26_0)))) (And.intro (And.intro (And.intro Ty.fl26_1 (And.intro Ty.pl26_1 Ty.sz27)) (And.intro Ty.by27 (And.intro Ty.ag27 Ty.zr27))) (And.intro (And.intro Ty.un27 (And.intro Ty.sz29 Ty.by29)) (And.intro (And.intro Ty.ag29 Ty.zr29) (And.intro Ty.fl29_0 Ty.pl29_0)))))) (And.intro (And.intro (And.intro (And.intro (And.intro Ty.fl29_1 (And.intro Ty.pl29_1 Ty.fl29_2)) (And.intro Ty.pl29_2 (And.intro Ty.fl29_3 Ty.pl29_3))) (And.intro (And.intro Ty.fl29_4 (And.intro Ty.pl29_4 Ty.fl29_5)) (And.intro Ty.pl29_5 (And.intro Ty.fl29_6 Ty.pl29_6)))) (And.intro (And.intro (And.intro Ty.fl29_7 (And.intro Ty.pl29_7 Ty.fl29_8)) (And.intro Ty.pl29_8 (And.intro Ty.sz31 Ty.by31))) (And.intro (And.intro Ty.ag31 (And.intro Ty.zr31 Ty.un31)) (And.intro (And.intro Ty.sz33 Ty.by33) (And.intro Ty.ag33 Ty.zr33))))) (And.intro (And.intro (And.intro (And.intro Ty.fl33_0 (And.intro Ty.pl33_0 Ty.sz34)) (And.intro Ty.by34 (And.intro Ty.ag34 Ty.zr34))) (And.intro (And.intro Ty.un34 (And.intro Ty.sz35 Ty.by35)) (And.intro Ty.ag35 (And.intro Ty.sz41 Ty.by41)))) (And.intro (And.intro (And.intro Ty.ag41 (And.intro Ty.zr41 Ty.un41)) (And.intro Ty.sz43 (And.intro Ty.by43 Ty.ag43))) (And.intro (And.intro Ty.zr43 (And.intro Ty.fl43_0 Ty.pl43_0)) (And.intro (And.intro Ty.fl43_1 Ty.pl43_1) (And.intro Ty.fl43_2 Ty.pl43_2))))))) (And.intro (And.intro (And.intro (And.intro (And.intro (And.intro Ty.fl43_3 (And.intro Ty.pl43_3 Ty.fl43_4)) (And.intro Ty.pl43_4 (And.intro Ty.fl43_5 Ty.pl43_5))) (And.intro (And.intro Ty.fl43_6 (And.intro Ty.pl43_6 Ty.fl43_7)) (And.intro Ty.pl43_7 (And.intro Ty.fl43_8 Ty.pl43_8)))) (And.intro (And.intro (And.intro Ty.sz56 (And.intro Ty.by56 Ty.ag56)) (And.intro Ty.zr56 (And.intro Ty.fl56_0 Ty.pl56_0))) (And.intro (And.intro Ty.fl56_1 (And.intro Ty.pl56_1 Ty.fl56_2)) (And.intro (And.intro Ty.pl56_2 Ty.sz58) (And.intro Ty.by58 Ty.ag58))))) (And.intro (And.intro (And.intro (And.intro Ty.zr58 (And.intro Ty.fl58_0 Ty.pl58_0)) (And.intro Ty.fl58_1 (And.intro Ty.pl58_1 Ty.fl58_2))) (And.intro (And.intro Ty.pl58_2 (And.intro Ty.fl58_3 Ty.pl58_3)) (And.intro Ty.fl58_4 (And.intro Ty.pl58_4 Ty.sz60)))) (And.intro (And.intro (And.intro Ty.by60 (And.intro Ty.ag60 Ty.zr60)) (And.intro Ty.fl60_0 (And.intro Ty.pl60_0 Ty.fl60_1))) (And.intro (And.intro Ty.pl60_1 (And.intro Ty.sz61 Ty.by61)) (And.intro (And.intro Ty.ag61 Ty.zr61) (And.intro Ty.un61 Ty.sz63)))))) (And.intro (And.intro (And.intro (And.intro (And.intro Ty.by63 (And.intro Ty.ag63 Ty.zr63)) (And.intro Ty.fl63_0 (And.intro Ty.pl63_0 Ty.fl63_1))) (And.intro (And.intro Ty.pl63_1 (And.intro Ty.fl63_2 Ty.pl63_2)) (And.intro Ty.fl63_3 (And.intro Ty.pl63_3 Ty.sz64)))) (And.intro (And.intro (And.intro Ty.by64 (And.intro Ty.ag64 Ty.zr64)) (And.intro Ty.un64 (And.intro Ty.sz65 Ty.by65))) (And.intro (And.intro Ty.ag65 (And.intro Ty.zr65 Ty.un65)) (And.intro (And.intro Ty.sz67 Ty.by67) (And.intro Ty.ag67 Ty.zr67))))) (And.intro (And.intro (And.intro (And.intro Ty.fl67_0 (And.intro Ty.pl67_0 Ty.fl67_1)) (And.intro Ty.pl67_1 (And.intro Ty.fl67_2 Ty.pl67_2))) (And.intro (And.intro Ty.fl67_3 (And.intro Ty.pl67_3 Ty.sz105)) (And.intro Ty.by105 (And.intro Ty.ag105 Ty.zr105)))) (And.intro (And.intro (And.intro Ty.fl105_0 (And.intro Ty.pl105_0 Ty.fl105_1)) (And.intro Ty.pl105_1 (And.intro Ty.eq23 Ty.eq26))) (And.intro (And.intro Ty.eq105 (And.intro Ty.cb7 Ty.cb10)) (And.intro (And.intro Ty.cb16 Ty.cb17) (And.intro Ty.cb18 Ty.cb19))))))))
theorem example_ok : OkP Tryd.prog 6 [] (vbool true) := by
  have hT := true_ok
  have h1 := over_ok sCnt tt
  have h2 := over_ok sSum amountE
  have h3 := binary_ok sPlus countE countE
  have h4 := graph_ok (binE sPlus countE countE) (fitB _ (by decide) fitCnt fitCnt) (by decide +kernel)
  rw [sh1, gr1] at h4
  rw [vE_over] at h1 h2 h3
  have h5 := over_ok sMax amountE
  have h6 := binary_ok sPlus maxE oneE
  have h7 := binary_ok sPlus oneE oneE
  have h9 := binary_ok sDiv sumE countE
  have k1 := kinds_ok (binE sPlus countE countE) (fitB _ (by decide) fitCnt fitCnt) sh1 (by decide +kernel) (by rw [gr1]; decide)
  have k2 := kinds_ok (binE sPlus oneE oneE) (fitB _ (by decide) fitOne fitOne) sh2 (by decide +kernel) (by rw [gr2]; decide)
  have k3 := kinds_ok (binE sDiv sumE countE) (fitB _ (by decide) fitSum fitCnt) sh3 (by decide +kernel) (by rw [gr3]; decide)
  rw [kd1] at k1
  rw [kd2] at k2
  rw [kd3] at k3
  rw [vE_over, vE_over] at h9
  have c4 := cl4
  rw [vE_last] at c4
  have leI : ∀ {u a : V}, Le u (.list none 2 []) → Le a (.list none 12 []) → Le (.agg [vint 1, vstr es0, vstr es0, vstr es0, vint 2, vint 1, vstr es0, u, vint 0, vint 0, vint 0, a]) (vE oneE) := fun hu ha => leE (h := { hd0 1 with val := ⟨2, 1, es0⟩ }) (l := []) hu ha
  generalize hB : vE (binE sPlus countE countE) = B1 at h3 h4 k1
  refine Ok.of_ex Ty.mixed Tryd.func6 rfl (by simp [Tryd.ntmps6]) (by kernel_rfl) fun F w0 I0 => ?_
  simp only [↓rA, rB, Int.reduceEq, Int.reduceLE, Int.reduceLT, Int.reduceToNat, Nat.reduceAdd, Nat.reduceEqDiff, Nat.reduceLT, Nat.reduceLeDiff, Nat.reduceMul, Nat.reduceSub, reduceCtorEq, tbL10, Tryd.results6]
  refine fun b1 n1 => ?_; replace n1 := newb n1; try simp only [Nb] at n1
  simp only [↓rA, rB, Int.reduceEq, Int.reduceLE, Int.reduceLT, Int.reduceToNat, Nat.reduceAdd, Nat.reduceEqDiff, Nat.reduceLT, Nat.reduceLeDiff, Nat.reduceMul, Nat.reduceSub, reduceCtorEq, tbL10, Tryd.results6, n1]
  refine OkF_of _ hT ?_
  simp only [↓rA, rB, Int.reduceEq, Int.reduceLE, Int.reduceLT, Int.reduceToNat, Nat.reduceAdd, Nat.reduceEqDiff, Nat.reduceLT, Nat.reduceLeDiff, Nat.reduceMul, Nat.reduceSub, reduceCtorEq, tbL10, Tryd.results6, n1]
  refine OkF_of _ h1 ?_
  simp only [↓rA, rB, Int.reduceEq, Int.reduceLE, Int.reduceLT, Int.reduceToNat, Nat.reduceAdd, Nat.reduceEqDiff, Nat.reduceLT, Nat.reduceLeDiff, Nat.reduceMul, Nat.reduceSub, reduceCtorEq, tbL10, Tryd.results6, n1]
  refine fun b2 n2 => ?_; replace n2 := newb n2; try simp only [Nb] at n2
  simp only [↓rA, rB, Int.reduceEq, Int.reduceLE, Int.reduceLT, Int.reduceToNat, Nat.reduceAdd, Nat.reduceEqDiff, Nat.reduceLT, Nat.reduceLeDiff, Nat.reduceMul, Nat.reduceSub, reduceCtorEq, tbL10, Tryd.results6, n1, n2]
  refine OkF_le (.cons (Le.refl _) (.cons (leE (h := { hd0 2 with name := sAmount }) (l := []) (Le.nil 2) (Le.nil 12)) .nil)) _ h2 ?_
  simp only [↓rA, rB, Int.reduceEq, Int.reduceLE, Int.reduceLT, Int.reduceToNat, Nat.reduceAdd, Nat.reduceEqDiff, Nat.reduceLT, Nat.reduceLeDiff, Nat.reduceMul, Nat.reduceSub, reduceCtorEq, tbL10, Tryd.results6, n1, n2]
  refine fun b3 n3 => ?_; replace n3 := newb n3; try simp only [Nb] at n3
  simp only [↓rA, rB, Int.reduceEq, Int.reduceLE, Int.reduceLT, Int.reduceToNat, Nat.reduceAdd, Nat.reduceEqDiff, Nat.reduceLT, Nat.reduceLeDiff, Nat.reduceMul, Nat.reduceSub, reduceCtorEq, tbL10, Tryd.results6, n1, n2, n3]
  refine OkF_of _ h3 ?_
  simp only [↓rA, rB, Int.reduceEq, Int.reduceLE, Int.reduceLT, Int.reduceToNat, Nat.reduceAdd, Nat.reduceEqDiff, Nat.reduceLT, Nat.reduceLeDiff, Nat.reduceMul, Nat.reduceSub, reduceCtorEq, tbL10, Tryd.results6, n1, n2, n3]
  refine OkF_of _ h4 ?_
  simp only [↓rA, rB, Int.reduceEq, Int.reduceLE, Int.reduceLT, Int.reduceToNat, Nat.reduceAdd, Nat.reduceEqDiff, Nat.reduceLT, Nat.reduceLeDiff, Nat.reduceMul, Nat.reduceSub, reduceCtorEq, tbL10, Tryd.results6, n1, n2, n3]
  refine fun b4 n4 => ?_; replace n4 := newb n4; try simp only [Nb] at n4
  simp only [↓rA, rB, Int.reduceEq, Int.reduceLE, Int.reduceLT, Int.reduceToNat, Nat.reduceAdd, Nat.reduceEqDiff, Nat.reduceLT, Nat.reduceLeDiff, Nat.reduceMul, Nat.reduceSub, reduceCtorEq, tbL10, Tryd.results6, Int.cast_ofNat_Int, cNd_eq, n1, n2, n3, n4]
  refine fun b6 n6 => ?_; replace n6 := newb n6; try simp only [Nb] at n6
  simp only [↓rA, rB, Int.reduceEq, Int.reduceLE, Int.reduceLT, Int.reduceToNat, Nat.reduceAdd, Nat.reduceEqDiff, Nat.reduceLT, Nat.reduceLeDiff, Nat.reduceMul, Nat.reduceSub, reduceCtorEq, tbL10, Tryd.results6, Int.cast_ofNat_Int, cNd_eq, n1, n2, n3, n4, n6]
  refine fun b7 n7 => ?_; replace n7 := newb n7; try simp only [Nb] at n7
  simp only [↓rA, rB, Int.reduceEq, Int.reduceLE, Int.reduceLT, Int.reduceToNat, Nat.reduceAdd, Nat.reduceEqDiff, Nat.reduceLT, Nat.reduceLeDiff, Nat.reduceMul, Nat.reduceSub, reduceCtorEq, tbL10, Tryd.results6, Int.cast_ofNat_Int, cNd_eq, n1, n2, n3, n4, n6, n7]
  intro y y1 y2
  refine fun b8 n8 => ?_; replace n8 := newb n8; try simp only [Nb] at n8
  simp only [↓rA, rB, Int.reduceEq, Int.reduceLE, Int.reduceLT, Int.reduceToNat, Nat.reduceAdd, Nat.reduceEqDiff, Nat.reduceLT, Nat.reduceLeDiff, Nat.reduceMul, Nat.reduceSub, reduceCtorEq, tbL10, Tryd.results6, n1, n2, n3, n4, n6, n7, n8]
  have leOne : ∀ {a : V} {x : E}, Le a (vE x) → LeL [.agg [tabV y y1, ftrV y2, nilS, nilS], a] [vCat exC, vE x] := fun h => .cons (leCat y y1 y2) (.cons h .nil)
  refine CallV_le (leOne (leE (h := { hd0 1 with val := ⟨2, 1, es0⟩ }) (l := []) (Le.nil 2) (Le.nil 12))) _ cl1 ?_
  simp only [↓rA, rB, Int.reduceEq, Int.reduceLE, Int.reduceLT, Int.reduceToNat, Nat.reduceAdd, Nat.reduceEqDiff, Nat.reduceLT, Nat.reduceLeDiff, Nat.reduceMul, Nat.reduceSub, reduceCtorEq, tbL10, Tryd.results6, n1, n2, n3, n4, n6, n7, n8]
  refine CallV_le (leOne (leE (h := { hd0 3 with name := sF }) (l := []) (Le.nil 2) (Le.nil 12))) _ cl2 ?_
  simp only [↓rA, rB, Int.reduceEq, Int.reduceLE, Int.reduceLT, Int.reduceToNat, Nat.reduceAdd, Nat.reduceEqDiff, Nat.reduceLT, Nat.reduceLeDiff, Nat.reduceMul, Nat.reduceSub, reduceCtorEq, tbL10, Tryd.results6, n1, n2, n3, n4, n6, n7, n8]
  refine ⟨by rw [cE_len]; exact Nat.le_refl _, ?_⟩
  rw [List.take_of_length_le (by rw [cE_len]; exact Nat.le_refl _)]
  refine CallV_of _ h5.v ?_
  simp only [↓rA, rB, Int.reduceEq, Int.reduceLE, Int.reduceLT, Int.reduceToNat, Nat.reduceAdd, Nat.reduceEqDiff, Nat.reduceLT, Nat.reduceLeDiff, Nat.reduceMul, Nat.reduceSub, reduceCtorEq, tbL10, Tryd.results6, n1, n2, n3, n4, n6, n7, n8]
  refine CallV_le (.cons (Le.refl _) (.cons (Le.refl _) (.cons (leI (Le.nil 2) (Le.nil 12)) .nil))) _ h6 ?_
  simp only [↓rA, rB, Int.reduceEq, Int.reduceLE, Int.reduceLT, Int.reduceToNat, Nat.reduceAdd, Nat.reduceEqDiff, Nat.reduceLT, Nat.reduceLeDiff, Nat.reduceMul, Nat.reduceSub, reduceCtorEq, tbL10, Tryd.results6, n1, n2, n3, n4, n6, n7, n8]
  refine CallV_le (leOne (Le.refl _)) _ cl3 ?_
  simp only [↓rA, rB, Int.reduceEq, Int.reduceLE, Int.reduceLT, Int.reduceToNat, Nat.reduceAdd, Nat.reduceEqDiff, Nat.reduceLT, Nat.reduceLeDiff, Nat.reduceMul, Nat.reduceSub, reduceCtorEq, tbL10, Tryd.results6, n1, n2, n3, n4, n6, n7, n8]
  refine CallV_le (.cons (leCat y y1 y2) (.cons (Le.refl _) .nil)) _ c4 ?_
  simp only [↓rA, rB, Int.reduceEq, Int.reduceLE, Int.reduceLT, Int.reduceToNat, Nat.reduceAdd, Nat.reduceEqDiff, Nat.reduceLT, Nat.reduceLeDiff, Nat.reduceMul, Nat.reduceSub, reduceCtorEq, tbL10, Tryd.results6, n1, n2, n3, n4, n6, n7, n8]
  refine OkF_le (.cons (Le.refl _) (.cons (leI (Le.nil 2) (Le.nil 12)) (.cons (leI (Le.nil 2) (Le.nil 12)) .nil))) _ h7 ?_
  simp only [↓rA, rB, Int.reduceEq, Int.reduceLE, Int.reduceLT, Int.reduceToNat, Nat.reduceAdd, Nat.reduceEqDiff, Nat.reduceLT, Nat.reduceLeDiff, Nat.reduceMul, Nat.reduceSub, reduceCtorEq, tbL10, Tryd.results6, n1, n2, n3, n4, n6, n7, n8]
  refine OkF_of _ k2 ?_
  simp only [↓rA, rB, Int.reduceEq, Int.reduceLE, Int.reduceLT, Int.reduceToNat, Nat.reduceAdd, Nat.reduceEqDiff, Nat.reduceLT, Nat.reduceLeDiff, Nat.reduceMul, Nat.reduceSub, reduceCtorEq, tbL10, Tryd.results6, n1, n2, n3, n4, n6, n7, n8]
  refine OkF_of _ h3 ?_
  simp only [↓rA, rB, Int.reduceEq, Int.reduceLE, Int.reduceLT, Int.reduceToNat, Nat.reduceAdd, Nat.reduceEqDiff, Nat.reduceLT, Nat.reduceLeDiff, Nat.reduceMul, Nat.reduceSub, reduceCtorEq, tbL10, Tryd.results6, n1, n2, n3, n4, n6, n7, n8]
  refine OkF_of _ k1 ?_
  simp only [↓rA, rB, Int.reduceEq, Int.reduceLE, Int.reduceLT, Int.reduceToNat, Nat.reduceAdd, Nat.reduceEqDiff, Nat.reduceLT, Nat.reduceLeDiff, Nat.reduceMul, Nat.reduceSub, reduceCtorEq, tbL10, Tryd.results6, n1, n2, n3, n4, n6, n7, n8, cNd_eq, Int.cast_ofNat_Int]
  refine OkF_of _ h9 ?_
  simp only [↓rA, rB, Int.reduceEq, Int.reduceLE, Int.reduceLT, Int.reduceToNat, Nat.reduceAdd, Nat.reduceEqDiff, Nat.reduceLT, Nat.reduceLeDiff, Nat.reduceMul, Nat.reduceSub, reduceCtorEq, tbL10, Tryd.results6, n1, n2, n3, n4, n6, n7, n8]
  refine OkF_of _ k3 ?_
  simp only [↓rA, rB, Int.reduceEq, Int.reduceLE, Int.reduceLT, Int.reduceToNat, Nat.reduceAdd, Nat.reduceEqDiff, Nat.reduceLT, Nat.reduceLeDiff, Nat.reduceMul, Nat.reduceSub, reduceCtorEq, tbL10, Tryd.results6, n1, n2, n3, n4, n6, n7, n8]
  exact ret_done rfl
end Go.Proofs.YtphkmlogjgeipaaDoor

/- Lowering: what a lowered list of nodes is. -/
set_option maxRecDepth 100000
namespace Go.Lo
open Go.VL Go.Ar
def szF (acc : List Nat) (n : Nd) : Nat := 1 + (n.inn.map fun t => acc.getD t.toNat 0).sum
def szStep (acc : List Nat) (n : Nd) : List Nat := acc ++ [szF acc n]
def szs (L : List Nd) : List Nat := L.foldl szStep []
theorem szs_snoc (L : List Nd) (n : Nd) : szs (L ++ [n]) = szs L ++ [szF (szs L) n] := by
  rw [szs, List.foldl_append]; rfl
theorem foldSz_pre : ∀ (M : List Nd) (acc : List Nat), acc <+: M.foldl szStep acc
  | [], _ => List.prefix_refl _
  | n :: r, acc => (List.prefix_append acc _).trans (foldSz_pre r (szStep acc n))
theorem foldSz_len : ∀ (M : List Nd) (acc : List Nat), (M.foldl szStep acc).length = acc.length + M.length
  | [], _ => rfl
  | n :: r, acc => by
    rw [List.foldl_cons, foldSz_len r, szStep, List.length_append]
    simp only [List.length_cons, List.length_nil]
    omega
theorem szs_len (L : List Nd) : (szs L).length = L.length := by
  have := foldSz_len L []
  rw [szs, this]; simp
theorem szs_pre {L L' : List Nd} (h : L <+: L') : szs L <+: szs L' := by
  obtain ⟨M, rfl⟩ := h
  rw [szs, szs, List.foldl_append]
  exact foldSz_pre M _
theorem getD_pre {a b : List Nat} (h : a <+: b) {i : Nat} (hi : i < a.length) : b.getD i 0 = a.getD i 0 := by
  obtain ⟨m, rfl⟩ := h
  simp only [List.getD_eq_getElem?_getD]
  rw [List.getElem?_append_left hi]
theorem szs_stable {L L' : List Nd} (h : L <+: L') {i : Nat} (hi : i < L.length) : (szs L').getD i 0 = (szs L).getD i 0 := getD_pre (szs_pre h) (by rw [szs_len]; exact hi)
def WF (L : List Nd) : Prop := ∀ i (h : i < L.length), ∀ t ∈ L[i].inn, 0 ≤ t ∧ t < i
theorem map_congr' {α β : Type} {f g : α → β} : ∀ {l : List α}, (∀ x ∈ l, f x = g x) → l.map f = l.map g
  | [], _ => rfl
  | x :: r, h => by rw [List.map_cons, List.map_cons, h x List.mem_cons_self, map_congr' fun y hy => h y (List.mem_cons_of_mem _ hy)]
theorem szF_stable {L L' : List Nd} (h : L <+: L') {n : Nd} (hn : ∀ t ∈ n.inn, 0 ≤ t ∧ t < L.length) : szF (szs L') n = szF (szs L) n := by
  unfold szF
  rw [map_congr' fun t ht => szs_stable h (i := t.toNat) (by have := hn t ht; omega)]
theorem szs_at {L : List Nd} (hw : WF L) {i : Nat} (hi : i < L.length) : (szs L).getD i 0 = szF (szs L) L[i] := by
  have hp : L.take i <+: L := List.take_prefix _ _
  have hp1 : L.take (i + 1) <+: L := List.take_prefix _ _
  have hl : (L.take i).length = i := by rw [List.length_take]; omega
  rw [szs_stable hp1 (i := i) (by rw [List.length_take]; omega), List.take_succ_eq_append_getElem hi, szs_snoc]
  rw [szF_stable hp (n := L[i]) (fun t ht => by rw [hl]; exact hw i hi t ht)]
  simp only [List.getD_eq_getElem?_getD]
  rw [List.getElem?_append_right (by rw [szs_len, hl]; exact Nat.le_refl _), szs_len, hl, Nat.sub_self]
  rfl
/-- L' is L with the nodes for rs (of the sizes ns); each new node is in rs or used by a later one. -/
structure Low (L L' : List Nd) (rs : List Int) (ns : List Nat) (top c : Nat) : Prop where
  pre : L <+: L'
  wf : WF L'
  nd : L'.Nodup
  rsb : ∀ t ∈ rs, 0 ≤ t ∧ t < L'.length
  nse : (rs.map fun t => (szs L').getD t.toNat 0) = ns
  topb : ∀ i, L.length ≤ i → i < L'.length → (szs L').getD i 0 ≤ top
  use : ∀ i, L.length ≤ i → i < L'.length → (i : Int) ∈ rs ∨ ∃ j, i < j ∧ ∃ h : j < L'.length, (i : Int) ∈ L'[j].inn
  cnt : L'.length ≤ L.length + c
theorem Low.refl {L : List Nd} (hw : WF L) (hn : L.Nodup) : Low L L [] [] 0 0 :=
  ⟨List.prefix_refl _, hw, hn, fun t ht => (by cases ht), rfl, fun i h1 h2 => by omega, fun i h1 h2 => by omega, Nat.le_refl _⟩
theorem pre_get {L L' : List Nd} (h : L <+: L') {j : Nat} (hj : j < L.length) : ∃ h' : j < L'.length, L'[j] = L[j] := by
  obtain ⟨M, rfl⟩ := h
  exact ⟨by rw [List.length_append]; omega, List.getElem_append_left hj⟩
theorem Low.app {L L1 L2 : List Nd} {rs rs' ns ns' a b c d} (h : Low L L1 rs ns a c) (h' : Low L1 L2 rs' ns' b d) : Low L L2 (rs ++ rs') (ns ++ ns') (max a b) (c + d) := by
  have hle : L1.length ≤ L2.length := h'.pre.length_le
  refine ⟨h.pre.trans h'.pre, h'.wf, h'.nd, ?_, ?_, ?_, ?_, ?_⟩
  · intro t ht
    rcases List.mem_append.1 ht with ht | ht
    · have := h.rsb t ht
      omega
    · exact h'.rsb t ht
  · rw [List.map_append, h'.nse, ← h.nse]
    congr 1
    exact map_congr' fun t ht => szs_stable h'.pre (by have := h.rsb t ht; omega)
  · intro i h1 h2
    rcases Nat.lt_or_ge i L1.length with hi | hi
    · rw [szs_stable h'.pre hi]
      exact Nat.le_trans (h.topb i h1 hi) (Nat.le_max_left _ _)
    · exact Nat.le_trans (h'.topb i hi h2) (Nat.le_max_right _ _)
  · intro i h1 h2
    rcases Nat.lt_or_ge i L1.length with hi | hi
    · rcases h.use i h1 hi with hr | ⟨j, hj, hjl, hm⟩
      · exact .inl (List.mem_append.2 (.inl hr))
      · obtain ⟨hj2, e⟩ := pre_get h'.pre hjl
        exact .inr ⟨j, hj, hj2, by rw [e]; exact hm⟩
    · rcases h'.use i hi h2 with hr | hr
      · exact .inl (List.mem_append.2 (.inr hr))
      · exact .inr hr
  · have := h.cnt
    have := h'.cnt
    omega
mutual
def nsE : E → Nat
  | .mk h l => if h.kind = 5 then 4 else 1 + (nsEs l).sum
def nsEs : List E → List Nat
  | [] => []
  | x :: r => nsE x :: nsEs r
end
theorem nsE_mk (h : Hd) (l : List E) : nsE (.mk h l) = if h.kind = 5 then 4 else 1 + (nsEs l).sum := by rw [nsE]
theorem Low.le {L L1 : List Nd} {rs ns a c a' c'} (h : Low L L1 rs ns a c) (ha : a ≤ a') (hc : c ≤ c') : Low L L1 rs ns a' c' :=
  ⟨h.pre, h.wf, h.nd, h.rsb, h.nse, fun i h1 h2 => Nat.le_trans (h.topb i h1 h2) ha, h.use, Nat.le_trans h.cnt (by omega)⟩
end Go.Lo
namespace Go.Proofs.YtphkmlogjgeipaaDoor
open Go.VL Go.Ar Go.Lo Go.Proofs.YtphkmlogjgeipaaDoor
theorem low_put {L L1 : List Nd} {rs ns a c} {n : Nd} (h : Low L L1 rs ns a c) (hn : n.inn = rs) : Low L (putM L1 n).1 [((putM L1 n).2 : Int)] [1 + ns.sum] (max a (1 + ns.sum)) (c + 1) := by
  by_cases hm : n ∈ L1
  · obtain ⟨hq, hqe⟩ := idxM_get hm
    rw [putM_old hm]
    have hs := szs_at h.wf hq
    rw [hqe, szF, hn, h.nse] at hs
    refine ⟨h.pre, h.wf, h.nd, ?_, ?_, fun i h1 h2 => Nat.le_trans (h.topb i h1 h2) (Nat.le_max_left _ _), ?_, by have := h.cnt; simp only; omega⟩
    · intro t ht
      obtain rfl := List.mem_singleton.1 ht
      simp only
      omega
    · simp only [List.map_cons, List.map_nil, Int.toNat_natCast]
      rw [hs]
    · intro i h1 h2
      rcases h.use i h1 h2 with hr | hr
      · have hr' : (i : Int) ∈ L1[idxM L1 n].inn := by rw [hqe, hn]; exact hr
        have := (h.wf _ hq _ hr').2
        exact .inr ⟨idxM L1 n, by omega, hq, hr'⟩
      · exact .inr hr
  · rw [putM_new hm]
    have hp : L1 <+: L1 ++ [n] := List.prefix_append _ _
    have hsz : (szs (L1 ++ [n])).getD L1.length 0 = 1 + ns.sum := by
      rw [szs_snoc]
      simp only [List.getD_eq_getElem?_getD]
      rw [List.getElem?_append_right (by rw [szs_len]; exact Nat.le_refl _), szs_len, Nat.sub_self, szF, hn]
      rw [h.nse]
      rfl
    refine ⟨h.pre.trans hp, ?_, ?_, ?_, ?_, ?_, ?_, ?_⟩
    · intro i hi t ht
      rcases Nat.lt_or_ge i L1.length with hl | hl
      · rw [List.getElem_append_left hl] at ht
        exact h.wf i hl t ht
      · have : i = L1.length := by simp only [List.length_append, List.length_cons, List.length_nil] at hi; omega
        subst this
        rw [List.getElem_append_right (Nat.le_refl _)] at ht
        simp only [Nat.sub_self, List.getElem_cons_zero] at ht
        rw [hn] at ht
        exact h.rsb t ht
    · refine List.nodup_append.2 ⟨h.nd, by simp, fun a ha b hb => ?_⟩
      obtain rfl := List.mem_singleton.1 hb
      intro e
      subst e
      exact hm ha
    · intro t ht
      obtain rfl := List.mem_singleton.1 ht
      simp only [List.length_append, List.length_cons, List.length_nil]
      omega
    · simp only [List.map_cons, List.map_nil, Int.toNat_natCast]
      rw [hsz]
    · intro i h1 h2
      rcases Nat.lt_or_ge i L1.length with hl | hl
      · rw [szs_stable hp hl]
        exact Nat.le_trans (h.topb i h1 hl) (Nat.le_max_left _ _)
      · have : i = L1.length := by simp only [List.length_append, List.length_cons, List.length_nil] at h2; omega
        subst this
        rw [hsz]
        exact Nat.le_max_right _ _
    · intro i h1 h2
      rcases Nat.lt_or_ge i L1.length with hl | hl
      · rcases h.use i h1 hl with hr | ⟨j, hj, hjl, hm'⟩
        · refine .inr ⟨L1.length, hl, by simp, ?_⟩
          rw [List.getElem_append_right (Nat.le_refl _)]
          simp only [Nat.sub_self, List.getElem_cons_zero]
          rw [hn]
          exact hr
        · obtain ⟨hj2, e⟩ := pre_get hp hjl
          exact .inr ⟨j, hj, hj2, by rw [e]; exact hm'⟩
      · have : i = L1.length := by simp only [List.length_append, List.length_cons, List.length_nil] at h2; omega
        subst this
        exact .inl (List.mem_singleton.2 rfl)
    · have := h.cnt
      simp only [List.length_append, List.length_cons, List.length_nil]
      omega
theorem lowEs_low : ∀ (l : List E) (L : List Nd), (∀ x ∈ l, ∀ L, WF L → L.Nodup → Low L (lowE L x).1 [((lowE L x).2 : Int)] [nsE x] (nsE x) (cntN x + 3 * cntM x)) → WF L → L.Nodup →
    Low L (lowEs L l).1 (lowEs L l).2 (nsEs l) (nsEs l).sum (cntNs l + 3 * cntMs l)
  | [], L, _, hw, hn => Low.refl hw hn
  | x :: r, L, h, hw, hn => by
    have h1 := h x List.mem_cons_self L hw hn
    have h2 := lowEs_low r (lowE L x).1 (fun y hy => h y (List.mem_cons_of_mem _ hy)) h1.wf h1.nd
    have h3 := h1.app h2
    rw [lowEs]
    refine Low.le h3 ?_ ?_
    · simp only [nsEs, List.sum_cons]; omega
    · simp only [cntNs, cntMs]; omega
theorem over_low (L : List Nd) (h : Hd) (a c : E) (hw : WF L) (hn : L.Nodup) : Low L (overM L h a c).1 [((overM L h a c).2 : Int)] [4] 4 4 := by
  have h1 := low_put (n := { nd0 1 with table := h.table }) (Low.refl hw hn) rfl
  have h2 := low_put (n := { nd0 2 with expr := c, inn := [((putM L { nd0 1 with table := h.table }).2 : Int)] }) h1 rfl
  have h3 := low_put (n := { nd0 3 with expr := a, inn := [((putM (putM L { nd0 1 with table := h.table }).1 { nd0 2 with expr := c, inn := [((putM L { nd0 1 with table := h.table }).2 : Int)] }).2 : Int)] }) h2 rfl
  exact low_put h3 rfl
theorem low_ok : ∀ x, Agg2 x → ∀ L, WF L → L.Nodup → Low L (lowE L x).1 [((lowE L x).2 : Int)] [nsE x] (nsE x) (cntN x + 3 * cntM x) := by
  intro x
  induction x using E.ind with
  | h hd l ih =>
  intro hg L hw hn
  cases hg with
  | mk _ _ hk ha =>
  rw [nsE_mk, cntN_mk, cntM_mk]
  by_cases e : hd.kind = 5
  · rw [if_pos e, if_pos e, if_pos e]
    match l, hk e with
    | a :: c :: r, _ =>
      rw [lowE_agg _ _ _ _ _ e]
      exact over_low L hd a c hw hn
  · rw [if_neg e, if_neg e, if_neg e, lowE_op _ _ _ e]
    have h1 := lowEs_low l L (fun x hx => ih x hx (ha x hx)) hw hn
    have h2 := low_put (n := { ownM hd l with inn := (lowEs L l).2 }) h1 rfl
    exact h2.le (by omega) (by omega)
/-- An operation's node is new, if all before are those of its operands. -/
theorem op_last (h : Hd) (l : List E) (e : ¬ h.kind = 5) (ha : ∀ x ∈ l, Agg2 x) : lowE [] (.mk h l) = ((lowEs [] l).1 ++ [{ ownM h l with inn := (lowEs [] l).2 }], (lowEs [] l).1.length) := by
  rw [lowE_op _ _ _ e]
  have h1 := lowEs_low l [] (fun x hx => low_ok x (ha x hx)) (fun i hi => by cases hi) List.nodup_nil
  refine putM_new fun hm => ?_
  obtain ⟨q, hq, hqe⟩ := List.getElem_of_mem hm
  have hs := szs_at h1.wf hq
  have ht := h1.topb q (Nat.zero_le _) hq
  rw [hqe, szF, h1.nse] at hs
  omega
theorem root_last (x : E) (hg : Agg2 x) : (lowE [] x).1.length = (lowE [] x).2 + 1 := by
  cases x with
  | mk h l =>
  cases hg with
  | mk _ _ hk ha =>
  by_cases e : h.kind = 5
  · match l, hk e with
    | a :: c :: r, _ =>
      rw [lowE_agg _ _ _ _ _ e]
      simp [overM, putM, idxM]
  · rw [op_last h l e ha]
    simp
end Go.Proofs.YtphkmlogjgeipaaDoor

/- Lowering: the graph of an expression. -/
set_option maxRecDepth 100000
namespace Go.Proofs.YtphkmlogjgeipaaDoor
open Go.VL Go.Ar Go.Lo Go.Proofs.YtphkmlogjgeipaaDoor
theorem putM_all {P : Nd → Prop} {L : List Nd} {n : Nd} (h : ∀ m ∈ L, P m) (hn : P n) : ∀ m ∈ (putM L n).1, P m := by
  intro m hm
  unfold putM at hm
  split at hm
  · exact h m hm
  · rcases List.mem_append.1 hm with hm | hm
    · exact h m hm
    · obtain rfl := List.mem_singleton.1 hm
      exact hn
theorem fit_exp0 : Fit exp0 := fitA _ (by decide)
theorem own_fit (h : Hd) (l : List E) (hf : Fit (.mk h l)) : Fit (ownM h l).expr := by
  unfold ownM
  repeat' split
  all_goals first | exact hf | exact fit_exp0
theorem own_inn (h : Hd) (l : List E) (ks : List Int) : ({ ownM h l with inn := ks } : Nd).inn = ks := rfl
theorem lowEs_fit : ∀ (l : List E) (L : List Nd), (∀ x ∈ l, ∀ L, (∀ n ∈ L, FitN n) → ∀ n ∈ (lowE L x).1, FitN n) → (∀ n ∈ L, FitN n) → ∀ n ∈ (lowEs L l).1, FitN n
  | [], L, _, h => h
  | x :: r, L, hx, h => by
    rw [lowEs]
    exact lowEs_fit r _ (fun y hy => hx y (List.mem_cons_of_mem _ hy)) (hx x List.mem_cons_self L h)
theorem low_fit : ∀ x, Fit x → ∀ L, (∀ n ∈ L, FitN n) → ∀ n ∈ (lowE L x).1, FitN n := by
  intro x
  induction x using E.ind with
  | h hd l ih =>
  intro hf L hL
  have hl := hf.len
  have ha := hf.args
  simp only [E.args] at hl ha
  rw [lowE_mk]
  split
  · unfold aggM
    split
    · rename_i a c r
      have h0 : (0 : Nat) ≤ big := Nat.zero_le _
      have h1 : (1 : Nat) ≤ big := by decide
      exact putM_all (putM_all (putM_all (putM_all hL ⟨fit_exp0, h0⟩) ⟨ha c (by simp), h1⟩) ⟨ha a (by simp), h1⟩) ⟨fit_exp0, h1⟩
    · exact hL
  · refine putM_all (lowEs_fit l L (fun y hy => ih y hy (ha y hy)) hL) ⟨own_fit hd l hf, ?_⟩
    rw [own_inn, lowEs_ks]
    exact hl
/-- What a graph is. -/
structure Gr (x : E) (L : List Nd) : Prop where
  pos : 0 < L.length
  le : L.length ≤ cntN x + 3 * cntM x
  sm : L.length ≤ 256
  nd : L.Nodup
  wf : WF L
  use : ∀ i, i + 1 < L.length → ∃ j, i < j ∧ ∃ h : j < L.length, (i : Int) ∈ L[j].inn
  fit : ∀ n ∈ L, FitN n
theorem graph_gr (x : E) (hf : Fit x) (e : shapeC x = 0) : Gr x (graphC x) := by
  obtain ⟨p1, p2, p3⟩ := shape_parts e
  have hg := proper_agg2 x false p3
  rw [graphC, if_pos e]
  have h := low_ok x hg [] (fun i hi => by cases hi) List.nodup_nil
  have hr := root_last x hg
  have hc := cnt_le x
  have hn := h.cnt
  have hlen := lowE_len x []
  simp only [List.length_nil] at hn hlen
  refine ⟨by omega, by omega, by omega, h.nd, h.wf, fun i hi => ?_, low_fit x hf [] fun n hn => by cases hn⟩
  rcases h.use i (Nat.zero_le _) (by omega) with hm | hm
  · have := List.mem_singleton.1 hm
    omega
  · exact hm
end Go.Proofs.YtphkmlogjgeipaaDoor

/- Contracts of lowering, part s: the law's 'small', the comparison of nodes. -/
set_option linter.unusedSimpArgs false
set_option maxRecDepth 100000
-- @call 21
namespace Go.Proofs.YtphkmlogjgeipaaDoor
open Go.VL Go.Ar Go.Lo Go.Proofs.YtphkmlogjgeipaaDoor

set_option linter.defProp false in
def tbN10 := (And.intro (And.intro (And.intro (And.intro (And.intro (And.intro Ty.sz3 Ty.by3) (And.intro Ty.ag3 Ty.zr3)) (And.intro (And.intro Ty.un3 Ty.sz4) (And.intro Ty.by4 (And.intro Ty.ag4 Ty.zr4)))) (And.intro (And.intro (And.intro Ty.un4 Ty.sz9) (And.intro Ty.by9 (And.intro Ty.ag9 Ty.zr9))) (And.intro (And.intro Ty.un9 Ty.sz23) (And.intro Ty.by23 (And.intro Ty.ag23 Ty.zr23))))) (And.intro (And.intro (And.intro (And.intro Ty.fl23_0 Ty.pl23_0) (And.intro Ty.fl23_1 (And.intro Ty.pl23_1 Ty.fl23_2))) (And.intro (And.intro Ty.pl23_2 Ty.sz24) (And.intro Ty.by24 (And.intro Ty.ag24 Ty.zr24)))) (And.intro (And.intro (And.intro Ty.un24 Ty.sz26) (And.intro Ty.by26 (And.intro Ty.ag26 Ty.zr26))) (And.intro (And.intro Ty.fl26_0 Ty.pl26_0) (And.intro Ty.fl26_1 (And.intro Ty.pl26_1 Ty.sz27)))))) (And.intro (And.intro (And.intro (And.intro (And.intro Ty.by27 Ty.ag27) (And.intro Ty.zr27 Ty.un27)) (And.intro (And.intro Ty.sz29 Ty.by29) (And.intro Ty.ag29 (And.intro Ty.zr29 Ty.fl29_0)))) (And.intro (And.intro (And.intro Ty.pl29_0 Ty.fl29_1) (And.intro Ty.pl29_1 (And.intro Ty.fl29_2 Ty.pl29_2))) (And.intro (And.intro Ty.fl29_3 Ty.pl29_3) (And.intro Ty.fl29_4 (And.intro Ty.pl29_4 Ty.fl29_5))))) (And.intro (And.intro (And.intro (And.intro Ty.pl29_5 Ty.fl29_6) (And.intro Ty.pl29_6 (And.intro Ty.fl29_7 Ty.pl29_7))) (And.intro (And.intro Ty.fl29_8 Ty.pl29_8) (And.intro Ty.sz105 (And.intro Ty.by105 Ty.ag105)))) (And.intro (And.intro (And.intro Ty.zr105 Ty.fl105_0) (And.intro Ty.pl105_0 (And.intro Ty.fl105_1 Ty.pl105_1))) (And.intro (And.intro Ty.eq23 Ty.eq26) (And.intro Ty.eq105 (And.intro Ty.cb21 Ty.cb28)))))))
theorem sizeR_ok : ∀ x : E, Fit x → OkP Tryd.prog 28 [vE x] (vint (IntKind.i64.wrap (sizeE x))) := by
  intro x
  induction x using E.ind with
  | h hd l ih =>
    intro hf
    have hl := hf.len
    have ha := hf.args
    simp only [E.args, big] at hl ha
    rw [vE, cE_mk]
    refine Ok.of_ex Ty.mixed Tryd.func28 rfl (by simp [Tryd.ntmps28]) (by kernel_rfl) fun F w0 I0 => ?_
    simp only [↓rA, rB, Int.reduceEq, Int.reduceLE, Int.reduceLT, Int.reduceToNat, Nat.reduceAdd, Nat.reduceEqDiff, Nat.reduceLT, Nat.reduceLeDiff, Nat.reduceMul, Nat.reduceSub, reduceCtorEq, tbN10, Tryd.results28]
    refine fun b1 h1 => ?_; replace h1 := newb h1; try simp only [Nb] at h1
    simp only [↓rA, rB, Int.reduceEq, Int.reduceLE, Int.reduceLT, Int.reduceToNat, Nat.reduceAdd, Nat.reduceEqDiff, Nat.reduceLT, Nat.reduceLeDiff, Nat.reduceMul, Nat.reduceSub, reduceCtorEq, tbN10, Tryd.results28, h1]
    refine EX_for Ty.mixed (by kernel_rfl) l.length (fun i S => S.boxes = [(b1, .c (cH hd (vEs l)))] ∧ S.rows = [] ∧ S.σ 1 = ptr b1 ∧ S.σ 3 = vint (IntKind.i64.wrap (1 + sizeEs (l.take i))) ∧ S.σ 4 = vint i) ⟨0, ?_⟩ (fun i S hi ⟨gb, gr, g1, g3, g4⟩ => ?_) (fun S ⟨gb, gr, g1, g3, g4⟩ => ?_)
    · simp only [↓rA, rB, Int.reduceEq, Int.reduceLE, Int.reduceLT, Int.reduceToNat, Nat.reduceAdd, Nat.reduceEqDiff, Nat.reduceLT, Nat.reduceLeDiff, Nat.reduceMul, Nat.reduceSub, reduceCtorEq, tbN10, Tryd.results28, List.length_map]
      exact congrArg (fun n => V.lit (.int .i64 n)) (by decide)
    · have hwi := wrap_succ (i := i) (N := l.length) hi (by omega)
      have hx := List.getElem_mem hi
      have hc := ih l[i] hx (ha _ hx)
      rw [vE, cE_eq] at hc
      simp only [↓rA, rB, Int.reduceEq, Int.reduceLE, Int.reduceLT, Int.reduceToNat, Nat.reduceAdd, Nat.reduceEqDiff, Nat.reduceLT, Nat.reduceLeDiff, Nat.reduceMul, Nat.reduceSub, reduceCtorEq, tbN10, Tryd.results28, gb, gr, g1, g3, g4, h1, Int.ofNat_lt, hi, List.length_map, getD_map _ _ _ hi, cE_eq]
      refine OkF_of _ hc ?_
      simp only [↓rA, rB, Int.reduceEq, Int.reduceLE, Int.reduceLT, Int.reduceToNat, Nat.reduceAdd, Nat.reduceEqDiff, Nat.reduceLT, Nat.reduceLeDiff, Nat.reduceMul, Nat.reduceSub, reduceCtorEq, tbN10, Tryd.results28, gb, gr, g1, g3, g4, h1, hwi]
      refine ⟨0, rfl, ?_⟩
      rw [wrapAdd, List.take_succ_eq_append_getElem hi, sizeEs_append]
      exact congrArg (fun n => V.lit (.int .i64 (IntKind.i64.wrap n))) (by simp only [sizeEs]; omega)
    · simp only [↓rA, rB, Int.reduceEq, Int.reduceLE, Int.reduceLT, Int.reduceToNat, Nat.reduceAdd, Nat.reduceEqDiff, Nat.reduceLT, Nat.reduceLeDiff, Nat.reduceMul, Nat.reduceSub, reduceCtorEq, tbN10, Tryd.results28, gb, gr, g1, g3, g4, h1, Int.ofNat_lt, Nat.lt_irrefl, List.length_map]
      refine ret_done ?_
      rw [sizeE_mk, List.take_of_length_le (Nat.le_refl _)]
      exact congrArg (fun n => V.lit (.int .i64 (IntKind.i64.wrap n))) (by omega)
set_option linter.defProp false in
def tbN11 := (And.intro (And.intro (And.intro (And.intro (And.intro (And.intro Ty.sz3 (And.intro Ty.by3 Ty.ag3)) (And.intro (And.intro Ty.zr3 Ty.un3) (And.intro Ty.sz4 Ty.by4))) (And.intro (And.intro Ty.ag4 (And.intro Ty.zr4 Ty.un4)) (And.intro (And.intro Ty.sz9 Ty.by9) (And.intro Ty.ag9 Ty.zr9)))) (And.intro (And.intro (And.intro Ty.un9 (And.intro Ty.sz23 Ty.by23)) (And.intro (And.intro Ty.ag23 Ty.zr23) (And.intro Ty.fl23_0 Ty.pl23_0))) (And.intro (And.intro (And.intro Ty.fl23_1 Ty.pl23_1) (And.intro Ty.fl23_2 Ty.pl23_2)) (And.intro (And.intro Ty.sz24 Ty.by24) (And.intro Ty.ag24 Ty.zr24))))) (And.intro (And.intro (And.intro (And.intro Ty.un24 (And.intro Ty.sz26 Ty.by26)) (And.intro (And.intro Ty.ag26 Ty.zr26) (And.intro Ty.fl26_0 Ty.pl26_0))) (And.intro (And.intro Ty.fl26_1 (And.intro Ty.pl26_1 Ty.sz27)) (And.intro (And.intro Ty.by27 Ty.ag27) (And.intro Ty.zr27 Ty.un27)))) (And.intro (And.intro (And.intro Ty.sz29 (And.intro Ty.by29 Ty.ag29)) (And.intro (And.intro Ty.zr29 Ty.fl29_0) (And.intro Ty.pl29_0 Ty.fl29_1))) (And.intro (And.intro (And.intro Ty.pl29_1 Ty.fl29_2) (And.intro Ty.pl29_2 Ty.fl29_3)) (And.intro (And.intro Ty.pl29_3 Ty.fl29_4) (And.intro Ty.pl29_4 Ty.fl29_5)))))) (And.intro (And.intro (And.intro (And.intro (And.intro Ty.pl29_5 (And.intro Ty.fl29_6 Ty.pl29_6)) (And.intro (And.intro Ty.fl29_7 Ty.pl29_7) (And.intro Ty.fl29_8 Ty.pl29_8))) (And.intro (And.intro Ty.sz31 (And.intro Ty.by31 Ty.ag31)) (And.intro (And.intro Ty.zr31 Ty.un31) (And.intro Ty.sz33 Ty.by33)))) (And.intro (And.intro (And.intro Ty.ag33 (And.intro Ty.zr33 Ty.fl33_0)) (And.intro (And.intro Ty.pl33_0 Ty.sz41) (And.intro Ty.by41 Ty.ag41))) (And.intro (And.intro (And.intro Ty.zr41 Ty.un41) (And.intro Ty.sz43 Ty.by43)) (And.intro (And.intro Ty.ag43 Ty.zr43) (And.intro Ty.fl43_0 Ty.pl43_0))))) (And.intro (And.intro (And.intro (And.intro Ty.fl43_1 (And.intro Ty.pl43_1 Ty.fl43_2)) (And.intro (And.intro Ty.pl43_2 Ty.fl43_3) (And.intro Ty.pl43_3 Ty.fl43_4))) (And.intro (And.intro Ty.pl43_4 (And.intro Ty.fl43_5 Ty.pl43_5)) (And.intro (And.intro Ty.fl43_6 Ty.pl43_6) (And.intro Ty.fl43_7 Ty.pl43_7)))) (And.intro (And.intro (And.intro Ty.fl43_8 (And.intro Ty.pl43_8 Ty.sz105)) (And.intro (And.intro Ty.by105 Ty.ag105) (And.intro Ty.zr105 Ty.fl105_0))) (And.intro (And.intro (And.intro Ty.pl105_0 Ty.fl105_1) (And.intro Ty.pl105_1 Ty.eq23)) (And.intro (And.intro Ty.eq26 Ty.eq105) (And.intro Ty.cb21 Ty.cb28)))))))
theorem small_ok (g : List Nd) (hl : g.length ≤ big) (hf : ∀ n ∈ g, FitN n) : Ok Tryd.prog 15 [vG g] [] fun v bs rs => (∃ b : Bool, v = vbool b) ∧ bs = [] ∧ rs = [] := by
  unfold big at hl
  refine Ok.of_ex Ty.mixed Tryd.func15 rfl (by simp [Tryd.ntmps15]) (by kernel_rfl) fun F w0 I0 => ?_
  simp only [↓rA, rB, Int.reduceEq, Int.reduceLE, Int.reduceLT, Int.reduceToNat, Nat.reduceAdd, Nat.reduceEqDiff, Nat.reduceLT, Nat.reduceLeDiff, Nat.reduceMul, Nat.reduceSub, reduceCtorEq, tbN11, Tryd.results15]
  refine fun b1 h1 => ?_; replace h1 := newb h1; try simp only [Nb] at h1
  simp only [↓rA, rB, Int.reduceEq, Int.reduceLE, Int.reduceLT, Int.reduceToNat, Nat.reduceAdd, Nat.reduceEqDiff, Nat.reduceLT, Nat.reduceLeDiff, Nat.reduceMul, Nat.reduceSub, reduceCtorEq, tbN11, Tryd.results15, h1]
  refine EX_for Ty.mixed (by kernel_rfl) g.length (fun i S => S.boxes = [(b1, .c [vNds g])] ∧ S.rows = [] ∧ S.σ 1 = ptr b1 ∧ S.σ 3 = vint i) ⟨0, ?_⟩ (fun i S hi ⟨gb, gr, g1, g3⟩ => ?_) (fun S ⟨gb, gr, g1, g3⟩ => ?_)
  · simp only [↓rA, rB, Int.reduceEq, Int.reduceLE, Int.reduceLT, Int.reduceToNat, Nat.reduceAdd, Nat.reduceEqDiff, Nat.reduceLT, Nat.reduceLeDiff, Nat.reduceMul, Nat.reduceSub, reduceCtorEq, tbN11, Tryd.results15, List.length_map]
    try exact rfl
  · have hwi := wrap_succ (i := i) (N := g.length) hi (by omega)
    have hfn := hf _ (List.getElem_mem hi)
    have hc := sizeR_ok g[i].expr hfn.1
    rw [vE, cE_eq] at hc
    by_cases c1 : (8 : Int) < (g[i].inn.length : Int)
    · simp only [↓rA, rB, Int.reduceEq, Int.reduceLE, Int.reduceLT, Int.reduceToNat, Nat.reduceAdd, Nat.reduceEqDiff, Nat.reduceLT, Nat.reduceLeDiff, Nat.reduceMul, Nat.reduceSub, reduceCtorEq, tbN11, Tryd.results15, gb, gr, g1, g3, h1, Int.ofNat_lt, hi, List.length_map, getD_map _ _ _ hi, cNd_eq, c1]
      exact ⟨_, [], [], Le.refl _, List.nil_sublist _, List.nil_sublist _, ⟨_, rfl⟩, rfl, rfl⟩
    simp only [↓rA, rB, Int.reduceEq, Int.reduceLE, Int.reduceLT, Int.reduceToNat, Nat.reduceAdd, Nat.reduceEqDiff, Nat.reduceLT, Nat.reduceLeDiff, Nat.reduceMul, Nat.reduceSub, reduceCtorEq, tbN11, Tryd.results15, gb, gr, g1, g3, h1, Int.ofNat_lt, hi, List.length_map, getD_map _ _ _ hi, cNd_eq, c1]
    refine OkF_of _ hc ?_
    by_cases c2 : (200 : Int) < IntKind.i64.wrap (sizeE g[i].expr)
    · simp only [↓rA, rB, Int.reduceEq, Int.reduceLE, Int.reduceLT, Int.reduceToNat, Nat.reduceAdd, Nat.reduceEqDiff, Nat.reduceLT, Nat.reduceLeDiff, Nat.reduceMul, Nat.reduceSub, reduceCtorEq, tbN11, Tryd.results15, gb, gr, g1, g3, h1, c2]
      exact ⟨_, [], [], Le.refl _, List.nil_sublist _, List.nil_sublist _, ⟨_, rfl⟩, rfl, rfl⟩
    · simp only [↓rA, rB, Int.reduceEq, Int.reduceLE, Int.reduceLT, Int.reduceToNat, Nat.reduceAdd, Nat.reduceEqDiff, Nat.reduceLT, Nat.reduceLeDiff, Nat.reduceMul, Nat.reduceSub, reduceCtorEq, tbN11, Tryd.results15, gb, gr, g1, g3, h1, c2, hwi]
      exact ⟨0, rfl⟩
  · simp only [↓rA, rB, Int.reduceEq, Int.reduceLE, Int.reduceLT, Int.reduceToNat, Nat.reduceAdd, Nat.reduceEqDiff, Nat.reduceLT, Nat.reduceLeDiff, Nat.reduceMul, Nat.reduceSub, reduceCtorEq, tbN11, Tryd.results15, gb, gr, g1, g3, h1, Int.ofNat_lt, Nat.lt_irrefl, List.length_map]
    exact ⟨_, [], [], Le.refl _, List.nil_sublist _, List.nil_sublist _, ⟨_, rfl⟩, rfl, rfl⟩
set_option linter.defProp false in
def tbN12 := (And.intro (And.intro (And.intro (And.intro (And.intro (And.intro Ty.sz3 (And.intro Ty.by3 Ty.ag3)) (And.intro (And.intro Ty.zr3 Ty.un3) (And.intro Ty.sz4 Ty.by4))) (And.intro (And.intro Ty.ag4 (And.intro Ty.zr4 Ty.un4)) (And.intro (And.intro Ty.sz9 Ty.by9) (And.intro Ty.ag9 Ty.zr9)))) (And.intro (And.intro (And.intro Ty.un9 (And.intro Ty.sz23 Ty.by23)) (And.intro (And.intro Ty.ag23 Ty.zr23) (And.intro Ty.fl23_0 Ty.pl23_0))) (And.intro (And.intro Ty.fl23_1 (And.intro Ty.pl23_1 Ty.fl23_2)) (And.intro (And.intro Ty.pl23_2 Ty.sz24) (And.intro Ty.by24 Ty.ag24))))) (And.intro (And.intro (And.intro (And.intro Ty.zr24 (And.intro Ty.un24 Ty.sz26)) (And.intro (And.intro Ty.by26 Ty.ag26) (And.intro Ty.zr26 Ty.fl26_0))) (And.intro (And.intro Ty.pl26_0 (And.intro Ty.fl26_1 Ty.pl26_1)) (And.intro (And.intro Ty.sz27 Ty.by27) (And.intro Ty.ag27 Ty.zr27)))) (And.intro (And.intro (And.intro Ty.un27 (And.intro Ty.sz29 Ty.by29)) (And.intro (And.intro Ty.ag29 Ty.zr29) (And.intro Ty.fl29_0 Ty.pl29_0))) (And.intro (And.intro Ty.fl29_1 (And.intro Ty.pl29_1 Ty.fl29_2)) (And.intro (And.intro Ty.pl29_2 Ty.fl29_3) (And.intro Ty.pl29_3 Ty.fl29_4)))))) (And.intro (And.intro (And.intro (And.intro (And.intro Ty.pl29_4 (And.intro Ty.fl29_5 Ty.pl29_5)) (And.intro (And.intro Ty.fl29_6 Ty.pl29_6) (And.intro Ty.fl29_7 Ty.pl29_7))) (And.intro (And.intro Ty.fl29_8 (And.intro Ty.pl29_8 Ty.sz31)) (And.intro (And.intro Ty.by31 Ty.ag31) (And.intro Ty.zr31 Ty.un31)))) (And.intro (And.intro (And.intro Ty.sz40 (And.intro Ty.by40 Ty.ag40)) (And.intro (And.intro Ty.zr40 Ty.sz41) (And.intro Ty.by41 Ty.ag41))) (And.intro (And.intro Ty.zr41 (And.intro Ty.un41 Ty.sz43)) (And.intro (And.intro Ty.by43 Ty.ag43) (And.intro Ty.zr43 Ty.fl43_0))))) (And.intro (And.intro (And.intro (And.intro Ty.pl43_0 (And.intro Ty.fl43_1 Ty.pl43_1)) (And.intro (And.intro Ty.fl43_2 Ty.pl43_2) (And.intro Ty.fl43_3 Ty.pl43_3))) (And.intro (And.intro Ty.fl43_4 (And.intro Ty.pl43_4 Ty.fl43_5)) (And.intro (And.intro Ty.pl43_5 Ty.fl43_6) (And.intro Ty.pl43_6 Ty.fl43_7)))) (And.intro (And.intro (And.intro Ty.pl43_7 (And.intro Ty.fl43_8 Ty.pl43_8)) (And.intro (And.intro Ty.sz105 Ty.by105) (And.intro Ty.ag105 Ty.zr105))) (And.intro (And.intro (And.intro Ty.fl105_0 Ty.pl105_0) (And.intro Ty.fl105_1 Ty.pl105_1)) (And.intro (And.intro Ty.eq23 Ty.eq26) (And.intro Ty.eq105 Ty.cb21)))))))
theorem eqNodes_ok (u v : List Nd) (hu : u.length ≤ big) (hf : ∀ n ∈ u, FitN n) : OkP Tryd.prog 26 [vNds u, vNds v, fnN] (vbool (decide (u = v))) := by
  have fb : ∀ {a b : Bool}, a = b → V.lit (.bool a) = vbool b := fun h => by rw [h]
  unfold big at hu
  refine Ok.of_ex Ty.mixed Tryd.func26 rfl (by simp [Tryd.ntmps26]) (by kernel_rfl) fun F w0 I0 => ?_
  by_cases hl : ¬ u.length = v.length
  · have hl' : ¬ (u.length : Int) = v.length := by omega
    simp only [↓rA, rB, Int.reduceEq, Int.reduceLE, Int.reduceLT, Int.reduceToNat, Nat.reduceAdd, Nat.reduceEqDiff, Nat.reduceLT, Nat.reduceLeDiff, Nat.reduceMul, Nat.reduceSub, reduceCtorEq, tbN12, Tryd.results26, List.length_map, hl']
    exact ret_done (fb (decide_eq_false fun e => hl (by rw [e])).symm)
  have hl' : (u.length : Int) = v.length := by omega
  have hl : u.length = v.length := by omega
  simp only [↓rA, rB, Int.reduceEq, Int.reduceLE, Int.reduceLT, Int.reduceToNat, Nat.reduceAdd, Nat.reduceEqDiff, Nat.reduceLT, Nat.reduceLeDiff, Nat.reduceMul, Nat.reduceSub, reduceCtorEq, tbN12, Tryd.results26, List.length_map, hl']
  refine EX_for Ty.mixed (by kernel_rfl) v.length (fun i S => u.take i = v.take i ∧ S.boxes = [] ∧ S.rows = [] ∧ S.σ 1 = vNds v ∧ S.σ 2 = fnN ∧ S.σ 15 = vNds u ∧ S.σ 16 = vint v.length ∧ S.σ 17 = vint i) ⟨0, ?_⟩ (fun i S hi ⟨hq, gb, gr, g1, g2, g15, g16, g17⟩ => ?_) (fun S ⟨hq, gb, gr, g1, g2, g15, g16, g17⟩ => ?_)
  · simp only [↓rA, rB, Int.reduceEq, Int.reduceLE, Int.reduceLT, Int.reduceToNat, Nat.reduceAdd, Nat.reduceEqDiff, Nat.reduceLT, Nat.reduceLeDiff, Nat.reduceMul, Nat.reduceSub, reduceCtorEq, tbN12, Tryd.results26, List.length_map, hl']
    try exact rfl
  · have hwi := wrap_succ (i := i) (N := v.length) hi (by omega)
    have hiu : i < u.length := by omega
    have hc := sameNode_ok u[i] v[i] (hf _ (List.getElem_mem hiu))
    simp only [cNd_eq] at hc
    simp only [↓rA, rB, Int.reduceEq, Int.reduceLE, Int.reduceLT, Int.reduceToNat, Nat.reduceAdd, Nat.reduceEqDiff, Nat.reduceLT, Nat.reduceLeDiff, Nat.reduceMul, Nat.reduceSub, reduceCtorEq, tbN12, Tryd.results26, gb, gr, g1, g2, g15, g16, g17, hl', Int.ofNat_lt, hi, hiu, List.length_map, getD_map _ _ _ hi, getD_map _ _ _ hiu, cNd_eq]
    refine fun b8 h8 => ?_; replace h8 := newb h8; try simp only [Nb] at h8
    simp only [↓rA, rB, Int.reduceEq, Int.reduceLE, Int.reduceLT, Int.reduceToNat, Nat.reduceAdd, Nat.reduceEqDiff, Nat.reduceLT, Nat.reduceLeDiff, Nat.reduceMul, Nat.reduceSub, reduceCtorEq, tbN12, Tryd.results26, gb, gr, g1, g2, g15, g16, g17, h8, hl', Int.ofNat_lt, hi, hiu, List.length_map, getD_map _ _ _ hi, getD_map _ _ _ hiu, cNd_eq]
    refine fun b9 h9 => ?_; replace h9 := newb h9; try simp only [Nb] at h9
    simp only [↓rA, rB, Int.reduceEq, Int.reduceLE, Int.reduceLT, Int.reduceToNat, Nat.reduceAdd, Nat.reduceEqDiff, Nat.reduceLT, Nat.reduceLeDiff, Nat.reduceMul, Nat.reduceSub, reduceCtorEq, tbN12, Tryd.results26, gb, gr, g1, g2, g15, g16, g17, h8, h9]
    refine OkF_of _ hc ?_
    by_cases e : u[i] = v[i]
    · simp only [↓rA, rB, Int.reduceEq, Int.reduceLE, Int.reduceLT, Int.reduceToNat, Nat.reduceAdd, Nat.reduceEqDiff, Nat.reduceLT, Nat.reduceLeDiff, Nat.reduceMul, Nat.reduceSub, reduceCtorEq, tbN12, Tryd.results26, gb, gr, g1, g2, g15, g16, g17, e, hwi]
      exact ⟨2, by rw [List.take_succ_eq_append_getElem hi, List.take_succ_eq_append_getElem hiu, hq, e], rfl⟩
    · simp only [↓rA, rB, Int.reduceEq, Int.reduceLE, Int.reduceLT, Int.reduceToNat, Nat.reduceAdd, Nat.reduceEqDiff, Nat.reduceLT, Nat.reduceLeDiff, Nat.reduceMul, Nat.reduceSub, reduceCtorEq, tbN12, Tryd.results26, gb, gr, g1, g2, g15, g16, g17, e]
      refine ret_done (fb (decide_eq_false fun e' => e ?_).symm)
      subst e'
      rfl
  · simp only [↓rA, rB, Int.reduceEq, Int.reduceLE, Int.reduceLT, Int.reduceToNat, Nat.reduceAdd, Nat.reduceEqDiff, Nat.reduceLT, Nat.reduceLeDiff, Nat.reduceMul, Nat.reduceSub, reduceCtorEq, tbN12, Tryd.results26, gb, gr, g1, g2, g15, g16, g17, hl', List.length_map, Int.ofNat_lt, Nat.lt_irrefl]
    rw [List.take_of_length_le (Nat.le_refl _), List.take_of_length_le (by omega)] at hq
    exact ret_done (fb (decide_eq_true hq).symm)
end Go.Proofs.YtphkmlogjgeipaaDoor

/- Contracts of lowering, part t: one node is raised (lower.node). Printed by mkN2.py. -/
set_option linter.unusedSimpArgs false
set_option maxRecDepth 100000
namespace Go.Lo
open Go.VL Go.Ar
def atN (g : List Nd) (t : Int) : Nd := g.getD t.toNat (nd0 0)
def in0 (n : Nd) : Int := n.inn.headD 0
/-- One node with the operands al, raised: the expression, and whether it may stand. -/
def nodeM (g : List Nd) (n : Nd) (al : List E) : E × Bool :=
  if n.kind = 5 then (n.expr, decide (al.length = 0))
  else if n.kind = 6 then (.mk { hd0 3 with name := n.name } al, true)
  else if n.kind = 7 then (.mk { hd0 4 with name := n.name } al, true)
  else if n.kind = 4 then
    if n.inn.length = 1 ∧ (atN g (in0 n)).kind = 3 then
      if (atN g (in0 n)).inn.length = 1 ∧ (atN g (in0 (atN g (in0 n)))).kind = 2 then
        if (atN g (in0 (atN g (in0 n)))).inn.length = 1 ∧ (atN g (in0 (atN g (in0 (atN g (in0 n)))))).kind = 1 then
          (.mk ⟨5, n.op, es0, (atN g (in0 (atN g (in0 (atN g (in0 n)))))).table, val0, [], n.param, n.wk, n.ws⟩ [(atN g (in0 n)).expr, (atN g (in0 (atN g (in0 n)))).expr], true)
        else (.mk (hd0 0) al, false)
      else (.mk (hd0 0) al, false)
    else (.mk (hd0 0) al, false)
  else if n.kind = 8 then
    if al.length = 3 then (.mk (hd0 8) al, true)
    else if al.length = 2 then (if n.op = sDefault then (.mk (hd0 9) al, true) else (.mk { hd0 7 with op := n.op } al, true))
    else (.mk { hd0 6 with op := n.op } al, true)
  else (.mk (hd0 0) al, false)
theorem atN_get {g : List Nd} {t : Int} {k : Nat} (h : k < g.length) (e : t = (k : Int)) : atN g t = g[k] := by
  subst e
  rw [atN, Int.toNat_natCast, List.getD_eq_getElem?_getD, List.getElem?_eq_getElem h]
  rfl
end Go.Lo
namespace Go.Proofs.YtphkmlogjgeipaaDoor
open Go.VL Go.Ar Go.Lo Go.Proofs.YtphkmlogjgeipaaDoor

abbrev zN : List V := [vint 0, vstr es0, vint 0, vstr es0, vstr es0, vstr es0, vint 0, vint 0, vstr es0, nilS, vint 0, vint 0, vint 0, nilS, vstr es0, vint 0, vint 0, vint 0, vint 0, vint 0, vstr es0, vstr es0, nilS]
/-- The boxes of node: the expression that is made (its kind, op, name), the result, the node, the graph. -/
abbrev bxN (b3 b4 b6 b8 : Nat) (g : List Nd) (n : Nd) (a : V) (k o m : V) : List (Nat × B) :=
  [(b8, .c [k, o, m, vstr es0, vint 0, vint 0, vstr es0, nilS, vint 0, vint 0, vint 0, a]), (b6, .c [vint 0, vstr es0, vstr es0, vstr es0, vint 0, vint 0, vstr es0, nilS, vint 0, vint 0, vint 0, nilS]), (b4, .c (cN n n.expr.hd (vEs n.expr.args) (vints n.inn))), (b3, .c [vNds g])]

def InA7 (b3 b4 b6 b8 : Nat) (g : List Nd) (n : Nd) (a : V) (L : Nat → Bool) (S : St) : Prop :=
  S.rows = [] ∧ S.σ 4 = ptr b4 ∧ S.σ 6 = ptr b6 ∧ S.σ 8 = ptr b8 ∧ (L 0 = true → S.σ 25 = pt b4 21) ∧ (L 1 = true → S.σ 26 = vstr n.name) ∧ (L 2 = true → S.σ 27 = pt b8 0) ∧ (L 4 = true → S.σ 28 = pt b8 2) ∧ S.boxes = bxN b3 b4 b6 b8 g n a (bif L 3 then vint 3 else vint 0) (vstr es0) (bif L 5 then vstr n.name else vstr es0)

def InA9 (b3 b4 b6 b8 : Nat) (g : List Nd) (n : Nd) (a : V) (L : Nat → Bool) (S : St) : Prop :=
  S.rows = [] ∧ S.σ 4 = ptr b4 ∧ S.σ 6 = ptr b6 ∧ S.σ 8 = ptr b8 ∧ (L 0 = true → S.σ 31 = pt b4 21) ∧ (L 1 = true → S.σ 32 = vstr n.name) ∧ (L 2 = true → S.σ 33 = pt b8 0) ∧ (L 4 = true → S.σ 34 = pt b8 2) ∧ S.boxes = bxN b3 b4 b6 b8 g n a (bif L 3 then vint 4 else vint 0) (vstr es0) (bif L 5 then vstr n.name else vstr es0)

def InA27 (b3 b4 b6 b8 : Nat) (g : List Nd) (n : Nd) (a : V) (L : Nat → Bool) (S : St) : Prop :=
  S.rows = [] ∧ S.σ 4 = ptr b4 ∧ S.σ 6 = ptr b6 ∧ S.σ 8 = ptr b8 ∧ (L 0 = true → S.σ 150 = pt b4 14) ∧ (L 1 = true → S.σ 151 = vstr n.op) ∧ (L 2 = true → S.σ 152 = pt b8 0) ∧ (L 4 = true → S.σ 153 = pt b8 1) ∧ S.boxes = bxN b3 b4 b6 b8 g n a (bif L 3 then vint 7 else vint 0) (bif L 5 then vstr n.op else vstr es0) (vstr es0)

def InA21 (b3 b4 b6 b8 : Nat) (g : List Nd) (n : Nd) (a : V) (L : Nat → Bool) (S : St) : Prop :=
  S.rows = [] ∧ S.σ 4 = ptr b4 ∧ S.σ 6 = ptr b6 ∧ S.σ 8 = ptr b8 ∧ (L 0 = true → S.σ 127 = pt b4 14) ∧ (L 1 = true → S.σ 128 = vstr n.op) ∧ (L 2 = true → S.σ 129 = pt b8 0) ∧ (L 4 = true → S.σ 130 = pt b8 1) ∧ S.boxes = bxN b3 b4 b6 b8 g n a (bif L 3 then vint 6 else vint 0) (bif L 5 then vstr n.op else vstr es0) (vstr es0)

def InA13 (b3 b4 b6 b8 : Nat) (g : List Nd) (n : Nd) (a : V) (k : Int) (x : Nd) (L : Nat → Bool) (S : St) : Prop :=
  S.rows = [] ∧ S.σ 3 = ptr b3 ∧ S.σ 4 = ptr b4 ∧ S.σ 6 = ptr b6 ∧ S.σ 8 = ptr b8 ∧ (L 0 = true → S.σ 54 = pt b3 0) ∧ (L 1 = true → S.σ 55 = vNds g) ∧ (L 2 = true → S.σ 56 = pt b4 22) ∧ (L 3 = true → S.σ 57 = vints n.inn) ∧ (L 4 = true → S.σ 58 = .ref [vint k]) ∧ (L 5 = true → S.σ 59 = vint k) ∧ (L 6 = true → S.σ 60 = .ref (cNd x)) ∧ (L 7 = true → S.σ 61 = .agg (cN x x.expr.hd (vEs x.expr.args) (vints x.inn))) ∧
    ((L 8 = false ∧ L 9 = false ∧ S.boxes = bxN b3 b4 b6 b8 g n a (vint 0) (vstr es0) (vstr es0)) ∨ (L 8 = true ∧ ∃ z, S.σ 9 = ptr z ∧ ((b3 ≠ z ∧ z ≠ b3) ∧ (b4 ≠ z ∧ z ≠ b4) ∧ (b6 ≠ z ∧ z ≠ b6) ∧ (b8 ≠ z ∧ z ≠ b8)) ∧ (∃ c, c.length = 23 ∧ (L 9 = true → c = cN x x.expr.hd (vEs x.expr.args) (vints x.inn)) ∧ S.boxes = (z, .c c) :: bxN b3 b4 b6 b8 g n a (vint 0) (vstr es0) (vstr es0))))

def InA16 (b3 b4 b6 b8 : Nat) (b9 : Nat) (m : Nd) (g : List Nd) (n : Nd) (a : V) (k : Int) (x : Nd) (L : Nat → Bool) (S : St) : Prop :=
  S.rows = [] ∧ S.σ 3 = ptr b3 ∧ S.σ 4 = ptr b4 ∧ S.σ 6 = ptr b6 ∧ S.σ 8 = ptr b8 ∧ S.σ 9 = ptr b9 ∧ (L 0 = true → S.σ 79 = pt b3 0) ∧ (L 1 = true → S.σ 80 = vNds g) ∧ (L 2 = true → S.σ 81 = pt b9 22) ∧ (L 3 = true → S.σ 82 = vints m.inn) ∧ (L 4 = true → S.σ 83 = .ref [vint k]) ∧ (L 5 = true → S.σ 84 = vint k) ∧ (L 6 = true → S.σ 85 = .ref (cNd x)) ∧ (L 7 = true → S.σ 86 = .agg (cN x x.expr.hd (vEs x.expr.args) (vints x.inn))) ∧
    ((L 8 = false ∧ L 9 = false ∧ S.boxes = (b9, .c (cN m m.expr.hd (vEs m.expr.args) (vints m.inn))) :: bxN b3 b4 b6 b8 g n a (vint 0) (vstr es0) (vstr es0)) ∨ (L 8 = true ∧ ∃ z, S.σ 10 = ptr z ∧ ((b3 ≠ z ∧ z ≠ b3) ∧ (b4 ≠ z ∧ z ≠ b4) ∧ (b6 ≠ z ∧ z ≠ b6) ∧ (b8 ≠ z ∧ z ≠ b8) ∧ (b9 ≠ z ∧ z ≠ b9)) ∧ (∃ c, c.length = 23 ∧ (L 9 = true → c = cN x x.expr.hd (vEs x.expr.args) (vints x.inn)) ∧ S.boxes = (z, .c c) :: (b9, .c (cN m m.expr.hd (vEs m.expr.args) (vints m.inn))) :: bxN b3 b4 b6 b8 g n a (vint 0) (vstr es0) (vstr es0))))

set_option linter.defProp false in
def tbN20 := (And.intro (And.intro (And.intro (And.intro (And.intro (And.intro Ty.sz3 (And.intro Ty.by3 Ty.ag3)) (And.intro (And.intro Ty.zr3 Ty.un3) (And.intro Ty.sz4 Ty.by4))) (And.intro (And.intro Ty.ag4 (And.intro Ty.zr4 Ty.un4)) (And.intro (And.intro Ty.sz9 Ty.by9) (And.intro Ty.ag9 Ty.zr9)))) (And.intro (And.intro (And.intro Ty.un9 (And.intro Ty.sz23 Ty.by23)) (And.intro (And.intro Ty.ag23 Ty.zr23) (And.intro Ty.fl23_0 Ty.pl23_0))) (And.intro (And.intro Ty.fl23_1 (And.intro Ty.pl23_1 Ty.fl23_2)) (And.intro (And.intro Ty.pl23_2 Ty.sz24) (And.intro Ty.by24 Ty.ag24))))) (And.intro (And.intro (And.intro (And.intro Ty.zr24 (And.intro Ty.un24 Ty.sz26)) (And.intro (And.intro Ty.by26 Ty.ag26) (And.intro Ty.zr26 Ty.fl26_0))) (And.intro (And.intro Ty.pl26_0 (And.intro Ty.fl26_1 Ty.pl26_1)) (And.intro (And.intro Ty.sz27 Ty.by27) (And.intro Ty.ag27 Ty.zr27)))) (And.intro (And.intro (And.intro Ty.un27 (And.intro Ty.sz29 Ty.by29)) (And.intro (And.intro Ty.ag29 Ty.zr29) (And.intro Ty.fl29_0 Ty.pl29_0))) (And.intro (And.intro (And.intro Ty.fl29_1 Ty.pl29_1) (And.intro Ty.fl29_2 Ty.pl29_2)) (And.intro (And.intro Ty.fl29_3 Ty.pl29_3) (And.intro Ty.fl29_4 Ty.pl29_4)))))) (And.intro (And.intro (And.intro (And.intro (And.intro Ty.fl29_5 (And.intro Ty.pl29_5 Ty.fl29_6)) (And.intro (And.intro Ty.pl29_6 Ty.fl29_7) (And.intro Ty.pl29_7 Ty.fl29_8))) (And.intro (And.intro Ty.pl29_8 (And.intro Ty.sz31 Ty.by31)) (And.intro (And.intro Ty.ag31 Ty.zr31) (And.intro Ty.un31 Ty.sz33)))) (And.intro (And.intro (And.intro Ty.by33 (And.intro Ty.ag33 Ty.zr33)) (And.intro (And.intro Ty.fl33_0 Ty.pl33_0) (And.intro Ty.sz41 Ty.by41))) (And.intro (And.intro Ty.ag41 (And.intro Ty.zr41 Ty.un41)) (And.intro (And.intro Ty.sz43 Ty.by43) (And.intro Ty.ag43 Ty.zr43))))) (And.intro (And.intro (And.intro (And.intro Ty.fl43_0 (And.intro Ty.pl43_0 Ty.fl43_1)) (And.intro (And.intro Ty.pl43_1 Ty.fl43_2) (And.intro Ty.pl43_2 Ty.fl43_3))) (And.intro (And.intro Ty.pl43_3 (And.intro Ty.fl43_4 Ty.pl43_4)) (And.intro (And.intro Ty.fl43_5 Ty.pl43_5) (And.intro Ty.fl43_6 Ty.pl43_6)))) (And.intro (And.intro (And.intro Ty.fl43_7 (And.intro Ty.pl43_7 Ty.fl43_8)) (And.intro (And.intro Ty.pl43_8 Ty.sz105) (And.intro Ty.by105 Ty.ag105))) (And.intro (And.intro (And.intro Ty.zr105 Ty.fl105_0) (And.intro Ty.pl105_0 Ty.fl105_1)) (And.intro (And.intro Ty.pl105_1 Ty.eq23) (And.intro Ty.eq26 Ty.eq105)))))))
theorem node_ok (g : List Nd) (n : Nd) (al : List E) (i : Nat) (hi : i ≤ g.length) (hwf : ∀ j (h : j < g.length), j < i → ∀ t ∈ g[j].inn, 0 ≤ t ∧ t < j) (hn : ∀ t ∈ n.inn, 0 ≤ t ∧ t < i) :
    OkP Tryd.prog 25 [vG g, .agg (cNd n), vEs al] (.tup [vE (nodeM g n al).1, vbool (nodeM g n al).2]) := by
  have fin : ∀ (h : Hd) (l : List E) (u a : V) (b : Bool) (X : List (Nat × B)) (Y : List Row), h.unit = [] → Le u (.list none 2 []) → Le a (vEs l) → nodeM g n al = (.mk h l, b) →
      ∃ v bs' rs', Le (.tup [.agg [vint h.kind, vstr h.op, vstr h.name, vstr h.table, vint h.val.kind, vint h.val.n, vstr h.val.s, u, vint h.param, vint h.wk, vint h.ws, a], .lit (.bool b)]) v ∧ bs'.Sublist X ∧ rs'.Sublist Y ∧ v = .tup [vE (nodeM g n al).1, vbool (nodeM g n al).2] ∧ bs' = [] ∧ rs' = [] := by
    intro h l u a b X Y hu hlu hla hM
    refine ⟨_, [], [], leTup (.cons (leE (h := h) (l := l) ?_ hla) (.cons (Le.refl _) .nil)), List.nil_sublist _, List.nil_sublist _, by rw [hM], rfl, rfl⟩
    rw [hu]
    exact hlu
  have z2 := Le.nil 2
  have h11 : ((1 : Nat) : Int) = 1 := rfl
  simp only [cNd_eq n]
  refine Ok.of_exM [(7, 3), (9, 3), (13, 3), (16, 3), (21, 3), (27, 3)] Ty.mixed Tryd.func25 rfl (by simp [Tryd.ntmps25]) (by kernel_rfl) fun F w0 I0 => ?_
  simp only [↓rA, rB, Int.reduceEq, Int.reduceLE, Int.reduceLT, Int.reduceToNat, Nat.reduceAdd, Nat.reduceEqDiff, Nat.reduceLT, Nat.reduceLeDiff, Nat.reduceMul, Nat.reduceSub, reduceCtorEq, tbN20, Tryd.results25]
  refine fun b3 h3 => ?_; replace h3 := newb h3; try simp only [Nb] at h3
  simp only [↓rA, rB, Int.reduceEq, Int.reduceLE, Int.reduceLT, Int.reduceToNat, Nat.reduceAdd, Nat.reduceEqDiff, Nat.reduceLT, Nat.reduceLeDiff, Nat.reduceMul, Nat.reduceSub, reduceCtorEq, tbN20, Tryd.results25, h3]
  refine fun b4 h4 => ?_; replace h4 := newb h4; try simp only [Nb] at h4
  simp only [↓rA, rB, Int.reduceEq, Int.reduceLE, Int.reduceLT, Int.reduceToNat, Nat.reduceAdd, Nat.reduceEqDiff, Nat.reduceLT, Nat.reduceLeDiff, Nat.reduceMul, Nat.reduceSub, reduceCtorEq, tbN20, Tryd.results25, h3, h4]
  refine fun b6 h6 => ?_; replace h6 := newb h6; try simp only [Nb] at h6
  simp only [↓rA, rB, Int.reduceEq, Int.reduceLE, Int.reduceLT, Int.reduceToNat, Nat.reduceAdd, Nat.reduceEqDiff, Nat.reduceLT, Nat.reduceLeDiff, Nat.reduceMul, Nat.reduceSub, reduceCtorEq, tbN20, Tryd.results25, h3, h4, h6]
  refine fun b8 h8 => ?_; replace h8 := newb h8; try simp only [Nb] at h8
  have hb : (b3 ≠ b4 ∧ b4 ≠ b3) ∧ (b3 ≠ b6 ∧ b6 ≠ b3) ∧ (b4 ≠ b6 ∧ b6 ≠ b4) := ⟨h4.1, h6.2.1, h6.1⟩
  rcases (by omega : n.kind = 5 ∨ n.kind = 6 ∨ n.kind = 7 ∨ n.kind = 4 ∨ n.kind = 8 ∨ (¬ n.kind = 5 ∧ ¬ n.kind = 6 ∧ ¬ n.kind = 7 ∧ ¬ n.kind = 4 ∧ ¬ n.kind = 8)) with e | e | e | e | e | e
  · by_cases ha : al.length = 0
    · have ha' : (al.length : Int) = 0 := by omega
      have hM : nodeM g n al = (n.expr, true) := by simp [nodeM, e, ha]
      rw [hM]
      simp only [vE, cE_eq]
      simp only [↓rA, rB, Int.reduceEq, Int.reduceLE, Int.reduceLT, Int.reduceToNat, Nat.reduceAdd, Nat.reduceEqDiff, Nat.reduceLT, Nat.reduceLeDiff, Nat.reduceMul, Nat.reduceSub, reduceCtorEq, tbN20, Tryd.results25, h4, h6, h8, e, List.length_map, ha']
      exact ret_done rfl
    · have ha' : ¬ (al.length : Int) = 0 := by omega
      have hM : nodeM g n al = (n.expr, false) := by simp [nodeM, e, ha]
      rw [hM]
      simp only [vE, cE_eq]
      simp only [↓rA, rB, Int.reduceEq, Int.reduceLE, Int.reduceLT, Int.reduceToNat, Nat.reduceAdd, Nat.reduceEqDiff, Nat.reduceLT, Nat.reduceLeDiff, Nat.reduceMul, Nat.reduceSub, reduceCtorEq, tbN20, Tryd.results25, h4, h6, h8, e, List.length_map, ha']
      exact ret_done rfl
  · simp only [↓rA, rB, Int.reduceEq, Int.reduceLE, Int.reduceLT, Int.reduceToNat, Nat.reduceAdd, Nat.reduceEqDiff, Nat.reduceLT, Nat.reduceLeDiff, Nat.reduceMul, Nat.reduceSub, reduceCtorEq, tbN20, Tryd.results25, h4, h6, h8, e]
    refine EX_inv (some true) Ty.mixed (by kernel_rfl) (by kernel_rfl) (InA7 b3 b4 b6 b8 g n (vEs al)) ?_ ?_ ?_
    · refine ⟨?_, ?_, ?_, ?_, fun h => (by cases h), fun h => (by cases h), fun h => (by cases h), fun h => (by cases h), ?_⟩ <;> rfl
    · intro L S i o ho hL he ⟨gr, g4, g6, g8, f0, f1, f2, f4, gb⟩
      match i, ho with
      | 0, ho =>
        cases ho
        simp only [↓rA, rB, Int.reduceEq, Int.reduceLE, Int.reduceLT, Int.reduceToNat, Nat.reduceAdd, Nat.reduceEqDiff, Nat.reduceLT, Nat.reduceLeDiff, Nat.reduceMul, Nat.reduceSub, reduceCtorEq, tbN20, Tryd.results25, gr, g4, g6, g8, gb, h4, h6, h8]
        exact ⟨gr, g4, g6, g8, fun _ => rfl, f1, f2, f4, gb⟩
      | 1, ho =>
        cases ho
        have d0 := f0 (he ⟨0, .data⟩ (by simp) rfl)
        simp only [↓rA, rB, Int.reduceEq, Int.reduceLE, Int.reduceLT, Int.reduceToNat, Nat.reduceAdd, Nat.reduceEqDiff, Nat.reduceLT, Nat.reduceLeDiff, Nat.reduceMul, Nat.reduceSub, reduceCtorEq, tbN20, Tryd.results25, gr, g4, g6, g8, gb, h4, h6, h8, d0]
        exact ⟨gr, g4, g6, g8, f0, fun _ => rfl, f2, f4, gb⟩
      | 2, ho =>
        cases ho
        simp only [↓rA, rB, Int.reduceEq, Int.reduceLE, Int.reduceLT, Int.reduceToNat, Nat.reduceAdd, Nat.reduceEqDiff, Nat.reduceLT, Nat.reduceLeDiff, Nat.reduceMul, Nat.reduceSub, reduceCtorEq, tbN20, Tryd.results25, gr, g4, g6, g8, gb, h4, h6, h8]
        exact ⟨gr, g4, g6, g8, f0, f1, fun _ => rfl, f4, gb⟩
      | 3, ho =>
        cases ho
        have d2 := f2 (he ⟨2, .data⟩ (by simp) rfl)
        simp only [↓rA, rB, Int.reduceEq, Int.reduceLE, Int.reduceLT, Int.reduceToNat, Nat.reduceAdd, Nat.reduceEqDiff, Nat.reduceLT, Nat.reduceLeDiff, Nat.reduceMul, Nat.reduceSub, reduceCtorEq, tbN20, Tryd.results25, gr, g4, g6, g8, gb, h4, h6, h8, d2]
        exact ⟨gr, g4, g6, g8, f0, f1, f2, f4, rfl⟩
      | 4, ho =>
        cases ho
        simp only [↓rA, rB, Int.reduceEq, Int.reduceLE, Int.reduceLT, Int.reduceToNat, Nat.reduceAdd, Nat.reduceEqDiff, Nat.reduceLT, Nat.reduceLeDiff, Nat.reduceMul, Nat.reduceSub, reduceCtorEq, tbN20, Tryd.results25, gr, g4, g6, g8, gb, h4, h6, h8]
        exact ⟨gr, g4, g6, g8, f0, f1, f2, fun _ => rfl, gb⟩
      | 5, ho =>
        cases ho
        have d4 := f4 (he ⟨4, .data⟩ (by simp) rfl)
        have d1 := f1 (he ⟨1, .data⟩ (by simp) rfl)
        simp only [↓rA, rB, Int.reduceEq, Int.reduceLE, Int.reduceLT, Int.reduceToNat, Nat.reduceAdd, Nat.reduceEqDiff, Nat.reduceLT, Nat.reduceLeDiff, Nat.reduceMul, Nat.reduceSub, reduceCtorEq, tbN20, Tryd.results25, gr, g4, g6, g8, gb, h4, h6, h8, d4, d1]
        exact ⟨gr, g4, g6, g8, f0, f1, f2, f4, rfl⟩
      | n + 6, ho => cases ho
    · intro L S hL ⟨gr, g4, g6, g8, f0, f1, f2, f4, gb⟩
      replace hL : ∀ i, i < 6 → L i = true := hL
      have l3 := hL 3 (by decide)
      have l5 := hL 5 (by decide)
      unfold bxN at gb
      rw [l3, l5] at gb
      simp only [cond_true] at gb
      simp only [↓rA, rB, Int.reduceEq, Int.reduceLE, Int.reduceLT, Int.reduceToNat, Nat.reduceAdd, Nat.reduceEqDiff, Nat.reduceLT, Nat.reduceLeDiff, Nat.reduceMul, Nat.reduceSub, reduceCtorEq, tbN20, Tryd.results25, gr, g4, g6, g8, gb, h4, h6, h8]
      exact fin { hd0 3 with name := n.name } al _ _ true _ _ rfl z2 (Le.refl _) (by simp [nodeM, e])
  · simp only [↓rA, rB, Int.reduceEq, Int.reduceLE, Int.reduceLT, Int.reduceToNat, Nat.reduceAdd, Nat.reduceEqDiff, Nat.reduceLT, Nat.reduceLeDiff, Nat.reduceMul, Nat.reduceSub, reduceCtorEq, tbN20, Tryd.results25, h4, h6, h8, e]
    refine EX_inv (some true) Ty.mixed (by kernel_rfl) (by kernel_rfl) (InA9 b3 b4 b6 b8 g n (vEs al)) ?_ ?_ ?_
    · refine ⟨?_, ?_, ?_, ?_, fun h => (by cases h), fun h => (by cases h), fun h => (by cases h), fun h => (by cases h), ?_⟩ <;> rfl
    · intro L S i o ho hL he ⟨gr, g4, g6, g8, f0, f1, f2, f4, gb⟩
      match i, ho with
      | 0, ho =>
        cases ho
        simp only [↓rA, rB, Int.reduceEq, Int.reduceLE, Int.reduceLT, Int.reduceToNat, Nat.reduceAdd, Nat.reduceEqDiff, Nat.reduceLT, Nat.reduceLeDiff, Nat.reduceMul, Nat.reduceSub, reduceCtorEq, tbN20, Tryd.results25, gr, g4, g6, g8, gb, h4, h6, h8]
        exact ⟨gr, g4, g6, g8, fun _ => rfl, f1, f2, f4, gb⟩
      | 1, ho =>
        cases ho
        have d0 := f0 (he ⟨0, .data⟩ (by simp) rfl)
        simp only [↓rA, rB, Int.reduceEq, Int.reduceLE, Int.reduceLT, Int.reduceToNat, Nat.reduceAdd, Nat.reduceEqDiff, Nat.reduceLT, Nat.reduceLeDiff, Nat.reduceMul, Nat.reduceSub, reduceCtorEq, tbN20, Tryd.results25, gr, g4, g6, g8, gb, h4, h6, h8, d0]
        exact ⟨gr, g4, g6, g8, f0, fun _ => rfl, f2, f4, gb⟩
      | 2, ho =>
        cases ho
        simp only [↓rA, rB, Int.reduceEq, Int.reduceLE, Int.reduceLT, Int.reduceToNat, Nat.reduceAdd, Nat.reduceEqDiff, Nat.reduceLT, Nat.reduceLeDiff, Nat.reduceMul, Nat.reduceSub, reduceCtorEq, tbN20, Tryd.results25, gr, g4, g6, g8, gb, h4, h6, h8]
        exact ⟨gr, g4, g6, g8, f0, f1, fun _ => rfl, f4, gb⟩
      | 3, ho =>
        cases ho
        have d2 := f2 (he ⟨2, .data⟩ (by simp) rfl)
        simp only [↓rA, rB, Int.reduceEq, Int.reduceLE, Int.reduceLT, Int.reduceToNat, Nat.reduceAdd, Nat.reduceEqDiff, Nat.reduceLT, Nat.reduceLeDiff, Nat.reduceMul, Nat.reduceSub, reduceCtorEq, tbN20, Tryd.results25, gr, g4, g6, g8, gb, h4, h6, h8, d2]
        exact ⟨gr, g4, g6, g8, f0, f1, f2, f4, rfl⟩
      | 4, ho =>
        cases ho
        simp only [↓rA, rB, Int.reduceEq, Int.reduceLE, Int.reduceLT, Int.reduceToNat, Nat.reduceAdd, Nat.reduceEqDiff, Nat.reduceLT, Nat.reduceLeDiff, Nat.reduceMul, Nat.reduceSub, reduceCtorEq, tbN20, Tryd.results25, gr, g4, g6, g8, gb, h4, h6, h8]
        exact ⟨gr, g4, g6, g8, f0, f1, f2, fun _ => rfl, gb⟩
      | 5, ho =>
        cases ho
        have d4 := f4 (he ⟨4, .data⟩ (by simp) rfl)
        have d1 := f1 (he ⟨1, .data⟩ (by simp) rfl)
        simp only [↓rA, rB, Int.reduceEq, Int.reduceLE, Int.reduceLT, Int.reduceToNat, Nat.reduceAdd, Nat.reduceEqDiff, Nat.reduceLT, Nat.reduceLeDiff, Nat.reduceMul, Nat.reduceSub, reduceCtorEq, tbN20, Tryd.results25, gr, g4, g6, g8, gb, h4, h6, h8, d4, d1]
        exact ⟨gr, g4, g6, g8, f0, f1, f2, f4, rfl⟩
      | n + 6, ho => cases ho
    · intro L S hL ⟨gr, g4, g6, g8, f0, f1, f2, f4, gb⟩
      replace hL : ∀ i, i < 6 → L i = true := hL
      have l3 := hL 3 (by decide)
      have l5 := hL 5 (by decide)
      unfold bxN at gb
      rw [l3, l5] at gb
      simp only [cond_true] at gb
      simp only [↓rA, rB, Int.reduceEq, Int.reduceLE, Int.reduceLT, Int.reduceToNat, Nat.reduceAdd, Nat.reduceEqDiff, Nat.reduceLT, Nat.reduceLeDiff, Nat.reduceMul, Nat.reduceSub, reduceCtorEq, tbN20, Tryd.results25, gr, g4, g6, g8, gb, h4, h6, h8]
      exact fin { hd0 4 with name := n.name } al _ _ true _ _ rfl z2 (Le.refl _) (by simp [nodeM, e])
  · have bad : nodeM g n al = (.mk (hd0 0) al, false) → ∀ X Y, ∃ v bs' rs', Le (.tup [.agg [vint 0, vstr es0, vstr es0, vstr es0, vint 0, vint 0, vstr es0, nilS, vint 0, vint 0, vint 0, vEs al], .lit (.bool false)]) v ∧ bs'.Sublist X ∧ rs'.Sublist Y ∧ v = .tup [vE (nodeM g n al).1, vbool (nodeM g n al).2] ∧ bs' = [] ∧ rs' = [] :=
      fun h X Y => fin (hd0 0) al _ _ false X Y rfl z2 (Le.refl _) h
    by_cases c1 : n.inn.length = 1
    case neg =>
      have c1' : ¬ (n.inn.length : Int) = 1 := by omega
      simp only [↓rA, rB, Int.reduceEq, Int.reduceLE, Int.reduceLT, Int.reduceToNat, Nat.reduceAdd, Nat.reduceEqDiff, Nat.reduceLT, Nat.reduceLeDiff, Nat.reduceMul, Nat.reduceSub, reduceCtorEq, tbN20, Tryd.results25, h4, h6, h8, e, List.length_map, c1']
      exact bad (by simp [nodeM, e, c1]) _ _
    obtain ⟨k0, hk0⟩ : ∃ k, n.inn = [k] := by
      match hq : n.inn, c1 with
      | [k], _ => exact ⟨k, rfl⟩
    have hr0 := hn k0 (by rw [hk0]; exact List.mem_cons_self)
    obtain ⟨j0, rfl⟩ : ∃ j : Nat, k0 = (j : Int) := ⟨k0.toNat, by omega⟩
    have hj0 : j0 < g.length := by omega
    have ha0 : atN g (in0 n) = g[j0] := atN_get hj0 (by rw [in0, hk0]; rfl)
    have hw0 := hwf j0 hj0 (by omega)
    by_cases c2 : g[j0].kind = 3
    case neg =>
      simp only [↓rA, rB, Int.reduceEq, Int.reduceLE, Int.reduceLT, Int.reduceToNat, Nat.reduceAdd, Nat.reduceEqDiff, Nat.reduceLT, Nat.reduceLeDiff, Nat.reduceMul, Nat.reduceSub, reduceCtorEq, tbN20, Tryd.results25, h11, h4, h6, h8, hb, e, hk0, Int.ofNat_lt, hj0, List.length_map, getD_map _ _ _ hj0, cNd_eq, c2]
      exact bad (by simp [nodeM, e, c1, ha0, c2]) _ _
    simp only [↓rA, rB, Int.reduceEq, Int.reduceLE, Int.reduceLT, Int.reduceToNat, Nat.reduceAdd, Nat.reduceEqDiff, Nat.reduceLT, Nat.reduceLeDiff, Nat.reduceMul, Nat.reduceSub, reduceCtorEq, tbN20, Tryd.results25, h11, h4, h6, h8, hb, e, hk0, Int.ofNat_lt, hj0, List.length_map, getD_map _ _ _ hj0, cNd_eq, c2]
    refine EX_invA Ty.mixed (by kernel_rfl) (by kernel_rfl) (InA13 b3 b4 b6 b8 g n (vEs al) (j0 : Int) g[j0]) ?_ ?_ ?_
    · refine ⟨?_, ?_, ?_, ?_, ?_, fun h => (by cases h), fun h => (by cases h), fun h => (by cases h), fun h => (by cases h), fun h => (by cases h), fun h => (by cases h), fun h => (by cases h), fun h => (by cases h), .inl ⟨rfl, rfl, ?_⟩⟩ <;> first | rfl | simp only [↓rA, rB, Int.reduceEq, Int.reduceLE, Int.reduceLT, Int.reduceToNat, Nat.reduceAdd, Nat.reduceEqDiff, Nat.reduceLT, Nat.reduceLeDiff, Nat.reduceMul, Nat.reduceSub, reduceCtorEq, tbN20, Tryd.results25, h11, bxN, hk0] | simp only [bxN, hk0]
    · skip
      intro L S i o ho hL he ⟨gr, g3, g4, g6, g8, f0, f1, f2, f3, f4, f5, f6, f7, hph⟩
      match i, ho with
      | 0, ho =>
        cases ho
        rcases hph with ⟨q8, q9, gb⟩ | ⟨q8, z, gz, hz, c, hc, hc9, gb⟩
        · simp only [↓rA, rB, Int.reduceEq, Int.reduceLE, Int.reduceLT, Int.reduceToNat, Nat.reduceAdd, Nat.reduceEqDiff, Nat.reduceLT, Nat.reduceLeDiff, Nat.reduceMul, Nat.reduceSub, reduceCtorEq, tbN20, Tryd.results25, gr, g3, g4, g6, g8, gb, h4, h6, h8]
          exact ⟨gr, g3, g4, g6, g8, fun _ => rfl, f1, f2, f3, f4, f5, f6, f7, .inl ⟨q8, q9, gb⟩⟩
        · simp only [↓rA, rB, Int.reduceEq, Int.reduceLE, Int.reduceLT, Int.reduceToNat, Nat.reduceAdd, Nat.reduceEqDiff, Nat.reduceLT, Nat.reduceLeDiff, Nat.reduceMul, Nat.reduceSub, reduceCtorEq, tbN20, Tryd.results25, gr, g3, g4, g6, g8, gb, h4, h6, h8, hz]
          exact ⟨gr, g3, g4, g6, g8, fun _ => rfl, f1, f2, f3, f4, f5, f6, f7, .inr ⟨q8, z, gz, hz, c, hc, hc9, gb⟩⟩
      | 1, ho =>
        cases ho
        have d0 := f0 (he ⟨0, .data⟩ (by simp) rfl)
        rcases hph with ⟨q8, q9, gb⟩ | ⟨q8, z, gz, hz, c, hc, hc9, gb⟩
        · simp only [↓rA, rB, Int.reduceEq, Int.reduceLE, Int.reduceLT, Int.reduceToNat, Nat.reduceAdd, Nat.reduceEqDiff, Nat.reduceLT, Nat.reduceLeDiff, Nat.reduceMul, Nat.reduceSub, reduceCtorEq, tbN20, Tryd.results25, gr, g3, g4, g6, g8, gb, h4, h6, h8, d0]
          exact ⟨gr, g3, g4, g6, g8, f0, fun _ => rfl, f2, f3, f4, f5, f6, f7, .inl ⟨q8, q9, gb⟩⟩
        · simp only [↓rA, rB, Int.reduceEq, Int.reduceLE, Int.reduceLT, Int.reduceToNat, Nat.reduceAdd, Nat.reduceEqDiff, Nat.reduceLT, Nat.reduceLeDiff, Nat.reduceMul, Nat.reduceSub, reduceCtorEq, tbN20, Tryd.results25, gr, g3, g4, g6, g8, gb, h4, h6, h8, hz, d0]
          exact ⟨gr, g3, g4, g6, g8, f0, fun _ => rfl, f2, f3, f4, f5, f6, f7, .inr ⟨q8, z, gz, hz, c, hc, hc9, gb⟩⟩
      | 2, ho =>
        cases ho
        rcases hph with ⟨q8, q9, gb⟩ | ⟨q8, z, gz, hz, c, hc, hc9, gb⟩
        · simp only [↓rA, rB, Int.reduceEq, Int.reduceLE, Int.reduceLT, Int.reduceToNat, Nat.reduceAdd, Nat.reduceEqDiff, Nat.reduceLT, Nat.reduceLeDiff, Nat.reduceMul, Nat.reduceSub, reduceCtorEq, tbN20, Tryd.results25, gr, g3, g4, g6, g8, gb, h4, h6, h8]
          exact ⟨gr, g3, g4, g6, g8, f0, f1, fun _ => rfl, f3, f4, f5, f6, f7, .inl ⟨q8, q9, gb⟩⟩
        · simp only [↓rA, rB, Int.reduceEq, Int.reduceLE, Int.reduceLT, Int.reduceToNat, Nat.reduceAdd, Nat.reduceEqDiff, Nat.reduceLT, Nat.reduceLeDiff, Nat.reduceMul, Nat.reduceSub, reduceCtorEq, tbN20, Tryd.results25, gr, g3, g4, g6, g8, gb, h4, h6, h8, hz]
          exact ⟨gr, g3, g4, g6, g8, f0, f1, fun _ => rfl, f3, f4, f5, f6, f7, .inr ⟨q8, z, gz, hz, c, hc, hc9, gb⟩⟩
      | 3, ho =>
        cases ho
        have d2 := f2 (he ⟨2, .data⟩ (by simp) rfl)
        rcases hph with ⟨q8, q9, gb⟩ | ⟨q8, z, gz, hz, c, hc, hc9, gb⟩
        · simp only [↓rA, rB, Int.reduceEq, Int.reduceLE, Int.reduceLT, Int.reduceToNat, Nat.reduceAdd, Nat.reduceEqDiff, Nat.reduceLT, Nat.reduceLeDiff, Nat.reduceMul, Nat.reduceSub, reduceCtorEq, tbN20, Tryd.results25, gr, g3, g4, g6, g8, gb, h4, h6, h8, d2]
          exact ⟨gr, g3, g4, g6, g8, f0, f1, f2, fun _ => rfl, f4, f5, f6, f7, .inl ⟨q8, q9, gb⟩⟩
        · simp only [↓rA, rB, Int.reduceEq, Int.reduceLE, Int.reduceLT, Int.reduceToNat, Nat.reduceAdd, Nat.reduceEqDiff, Nat.reduceLT, Nat.reduceLeDiff, Nat.reduceMul, Nat.reduceSub, reduceCtorEq, tbN20, Tryd.results25, gr, g3, g4, g6, g8, gb, h4, h6, h8, hz, d2]
          exact ⟨gr, g3, g4, g6, g8, f0, f1, f2, fun _ => rfl, f4, f5, f6, f7, .inr ⟨q8, z, gz, hz, c, hc, hc9, gb⟩⟩
      | 4, ho =>
        cases ho
        have d3 := f3 (he ⟨3, .data⟩ (by simp) rfl)
        rcases hph with ⟨q8, q9, gb⟩ | ⟨q8, z, gz, hz, c, hc, hc9, gb⟩
        · simp only [↓rA, rB, Int.reduceEq, Int.reduceLE, Int.reduceLT, Int.reduceToNat, Nat.reduceAdd, Nat.reduceEqDiff, Nat.reduceLT, Nat.reduceLeDiff, Nat.reduceMul, Nat.reduceSub, reduceCtorEq, tbN20, Tryd.results25, gr, g3, g4, g6, g8, gb, h4, h6, h8, d3, hk0]
          exact ⟨gr, g3, g4, g6, g8, f0, f1, f2, f3, fun _ => rfl, f5, f6, f7, .inl ⟨q8, q9, gb⟩⟩
        · simp only [↓rA, rB, Int.reduceEq, Int.reduceLE, Int.reduceLT, Int.reduceToNat, Nat.reduceAdd, Nat.reduceEqDiff, Nat.reduceLT, Nat.reduceLeDiff, Nat.reduceMul, Nat.reduceSub, reduceCtorEq, tbN20, Tryd.results25, gr, g3, g4, g6, g8, gb, h4, h6, h8, hz, d3, hk0]
          exact ⟨gr, g3, g4, g6, g8, f0, f1, f2, f3, fun _ => rfl, f5, f6, f7, .inr ⟨q8, z, gz, hz, c, hc, hc9, gb⟩⟩
      | 5, ho =>
        cases ho
        have d4 := f4 (he ⟨4, .data⟩ (by simp) rfl)
        rcases hph with ⟨q8, q9, gb⟩ | ⟨q8, z, gz, hz, c, hc, hc9, gb⟩
        · simp only [↓rA, rB, Int.reduceEq, Int.reduceLE, Int.reduceLT, Int.reduceToNat, Nat.reduceAdd, Nat.reduceEqDiff, Nat.reduceLT, Nat.reduceLeDiff, Nat.reduceMul, Nat.reduceSub, reduceCtorEq, tbN20, Tryd.results25, gr, g3, g4, g6, g8, gb, h4, h6, h8, d4]
          exact ⟨gr, g3, g4, g6, g8, f0, f1, f2, f3, f4, fun _ => rfl, f6, f7, .inl ⟨q8, q9, gb⟩⟩
        · simp only [↓rA, rB, Int.reduceEq, Int.reduceLE, Int.reduceLT, Int.reduceToNat, Nat.reduceAdd, Nat.reduceEqDiff, Nat.reduceLT, Nat.reduceLeDiff, Nat.reduceMul, Nat.reduceSub, reduceCtorEq, tbN20, Tryd.results25, gr, g3, g4, g6, g8, gb, h4, h6, h8, hz, d4]
          exact ⟨gr, g3, g4, g6, g8, f0, f1, f2, f3, f4, fun _ => rfl, f6, f7, .inr ⟨q8, z, gz, hz, c, hc, hc9, gb⟩⟩
      | 6, ho =>
        cases ho
        have d1 := f1 (he ⟨1, .data⟩ (by simp) rfl)
        have d5 := f5 (he ⟨5, .data⟩ (by simp) rfl)
        rcases hph with ⟨q8, q9, gb⟩ | ⟨q8, z, gz, hz, c, hc, hc9, gb⟩
        · simp only [↓rA, rB, Int.reduceEq, Int.reduceLE, Int.reduceLT, Int.reduceToNat, Nat.reduceAdd, Nat.reduceEqDiff, Nat.reduceLT, Nat.reduceLeDiff, Nat.reduceMul, Nat.reduceSub, reduceCtorEq, tbN20, Tryd.results25, gr, g3, g4, g6, g8, gb, h4, h6, h8, d1, d5, Int.ofNat_lt, hj0, List.length_map, getD_map _ _ _ hj0]
          exact ⟨gr, g3, g4, g6, g8, f0, f1, f2, f3, f4, f5, fun _ => rfl, f7, .inl ⟨q8, q9, gb⟩⟩
        · simp only [↓rA, rB, Int.reduceEq, Int.reduceLE, Int.reduceLT, Int.reduceToNat, Nat.reduceAdd, Nat.reduceEqDiff, Nat.reduceLT, Nat.reduceLeDiff, Nat.reduceMul, Nat.reduceSub, reduceCtorEq, tbN20, Tryd.results25, gr, g3, g4, g6, g8, gb, h4, h6, h8, hz, d1, d5, Int.ofNat_lt, hj0, List.length_map, getD_map _ _ _ hj0]
          exact ⟨gr, g3, g4, g6, g8, f0, f1, f2, f3, f4, f5, fun _ => rfl, f7, .inr ⟨q8, z, gz, hz, c, hc, hc9, gb⟩⟩
      | 7, ho =>
        cases ho
        have d6 := f6 (he ⟨6, .data⟩ (by simp) rfl)
        rcases hph with ⟨q8, q9, gb⟩ | ⟨q8, z, gz, hz, c, hc, hc9, gb⟩
        · simp only [↓rA, rB, Int.reduceEq, Int.reduceLE, Int.reduceLT, Int.reduceToNat, Nat.reduceAdd, Nat.reduceEqDiff, Nat.reduceLT, Nat.reduceLeDiff, Nat.reduceMul, Nat.reduceSub, reduceCtorEq, tbN20, Tryd.results25, gr, g3, g4, g6, g8, gb, h4, h6, h8, d6, cNd_eq]
          exact ⟨gr, g3, g4, g6, g8, f0, f1, f2, f3, f4, f5, f6, fun _ => rfl, .inl ⟨q8, q9, gb⟩⟩
        · simp only [↓rA, rB, Int.reduceEq, Int.reduceLE, Int.reduceLT, Int.reduceToNat, Nat.reduceAdd, Nat.reduceEqDiff, Nat.reduceLT, Nat.reduceLeDiff, Nat.reduceMul, Nat.reduceSub, reduceCtorEq, tbN20, Tryd.results25, gr, g3, g4, g6, g8, gb, h4, h6, h8, hz, d6, cNd_eq]
          exact ⟨gr, g3, g4, g6, g8, f0, f1, f2, f3, f4, f5, f6, fun _ => rfl, .inr ⟨q8, z, gz, hz, c, hc, hc9, gb⟩⟩
      | 8, ho =>
        cases ho
        rcases hph with ⟨q8, q9, gb⟩ | ⟨q8, _⟩
        · simp only [↓rA, rB, Int.reduceEq, Int.reduceLE, Int.reduceLT, Int.reduceToNat, Nat.reduceAdd, Nat.reduceEqDiff, Nat.reduceLT, Nat.reduceLeDiff, Nat.reduceMul, Nat.reduceSub, reduceCtorEq, tbN20, Tryd.results25, gr, g3, g4, g6, g8, gb]
          refine fun z hz => ?_; replace hz := newb hz; try simp only [Nb] at hz
          simp only [↓rA, rB, Int.reduceEq, Int.reduceLE, Int.reduceLT, Int.reduceToNat, Nat.reduceAdd, Nat.reduceEqDiff, Nat.reduceLT, Nat.reduceLeDiff, Nat.reduceMul, Nat.reduceSub, reduceCtorEq, tbN20, Tryd.results25, gr, g3, g4, g6, g8, gb, hz]
          exact ⟨gr, g3, g4, g6, g8, f0, f1, f2, f3, f4, f5, f6, f7, .inr ⟨rfl, z, rfl, ⟨hz.2.2.2.1, hz.2.2.1, hz.2.1, hz.1⟩, zN, rfl, fun h => Bool.noConfusion (Eq.trans (Eq.symm q9) (show L 9 = true from h)), by show (z, B.c zN) :: S.boxes = _; rw [gb]⟩⟩
        · rw [q8] at hL; cases hL
      | 9, ho =>
        cases ho
        have d7 := f7 (he ⟨7, .data⟩ (by simp) rfl)
        have e8 := he ⟨8, .data⟩ (by simp) rfl
        replace e8 : L 8 = true := e8
        rcases hph with ⟨q8, _⟩ | ⟨q8, z, gz, hz, c, hc, hc9, gb⟩
        · rw [q8] at e8; cases e8
        · have hd : c.drop 23 = [] := List.drop_of_length_le (by omega)
          simp only [↓rA, rB, Int.reduceEq, Int.reduceLE, Int.reduceLT, Int.reduceToNat, Nat.reduceAdd, Nat.reduceEqDiff, Nat.reduceLT, Nat.reduceLeDiff, Nat.reduceMul, Nat.reduceSub, reduceCtorEq, tbN20, Tryd.results25, gr, g3, g4, g6, g8, gb, gz, hz, d7, hc, hd]
          exact ⟨gr, g3, g4, g6, g8, f0, f1, f2, f3, f4, f5, f6, f7, .inr ⟨q8, z, gz, hz, _, rfl, fun _ => rfl, rfl⟩⟩
      | n + 10, ho => cases ho
    · skip
      intro L S hL ⟨gr, g3, g4, g6, g8, f0, f1, f2, f3, f4, f5, f6, f7, hph⟩
      replace hL : ∀ i, i < 10 → L i = true := hL
      have e8 := hL 8 (by decide)
      rcases hph with ⟨q8, _⟩ | ⟨q8, b9, g9, h9, c, hc, hc9, gb⟩
      · rw [q8] at e8; cases e8
      obtain rfl := hc9 (hL 9 (by decide))
      clear f0 f1 f2 f3 f4 f5 f6 f7
      by_cases c3 : g[j0].inn.length = 1
      case neg =>
        have c3' : ¬ (g[j0].inn.length : Int) = 1 := by omega
        simp only [↓rA, rB, Int.reduceEq, Int.reduceLE, Int.reduceLT, Int.reduceToNat, Nat.reduceAdd, Nat.reduceEqDiff, Nat.reduceLT, Nat.reduceLeDiff, Nat.reduceMul, Nat.reduceSub, reduceCtorEq, tbN20, Tryd.results25, gr, g3, g4, g6, g8, g9, gb, h4, h6, h8, hb, h9, List.length_map, c3']
        exact bad (by simp [nodeM, e, c1, ha0, c2, c3]) _ _
      obtain ⟨k1, hk1⟩ : ∃ k, g[j0].inn = [k] := by
        match hq : g[j0].inn, c3 with
        | [k], _ => exact ⟨k, rfl⟩
      have hr1 := hw0 k1 (by rw [hk1]; exact List.mem_cons_self)
      obtain ⟨j1, rfl⟩ : ∃ j : Nat, k1 = (j : Int) := ⟨k1.toNat, by omega⟩
      have hj1 : j1 < g.length := by omega
      have ha1 : atN g (in0 g[j0]) = g[j1] := atN_get hj1 (by rw [in0, hk1]; rfl)
      have hw1 := hwf j1 hj1 (by omega)
      by_cases c4 : g[j1].kind = 2
      case neg =>
        simp only [↓rA, rB, Int.reduceEq, Int.reduceLE, Int.reduceLT, Int.reduceToNat, Nat.reduceAdd, Nat.reduceEqDiff, Nat.reduceLT, Nat.reduceLeDiff, Nat.reduceMul, Nat.reduceSub, reduceCtorEq, tbN20, Tryd.results25, h11, gr, g3, g4, g6, g8, g9, gb, h4, h6, h8, hb, h9, hk1, Int.ofNat_lt, hj1, List.length_map, getD_map _ _ _ hj1, cNd_eq, c4]
        exact bad (by simp [nodeM, e, c1, ha0, c2, c3, ha1, c4]) _ _
      simp only [↓rA, rB, Int.reduceEq, Int.reduceLE, Int.reduceLT, Int.reduceToNat, Nat.reduceAdd, Nat.reduceEqDiff, Nat.reduceLT, Nat.reduceLeDiff, Nat.reduceMul, Nat.reduceSub, reduceCtorEq, tbN20, Tryd.results25, h11, gr, g3, g4, g6, g8, g9, gb, h4, h6, h8, hb, h9, hk1, Int.ofNat_lt, hj1, List.length_map, getD_map _ _ _ hj1, cNd_eq, c4]
      refine EX_invA Ty.mixed (by kernel_rfl) (by kernel_rfl) (InA16 b3 b4 b6 b8 b9 g[j0] g n (vEs al) (j1 : Int) g[j1]) ?_ ?_ ?_
      · refine ⟨?_, ?_, ?_, ?_, ?_, ?_, fun h => (by cases h), fun h => (by cases h), fun h => (by cases h), fun h => (by cases h), fun h => (by cases h), fun h => (by cases h), fun h => (by cases h), fun h => (by cases h), .inl ⟨rfl, rfl, ?_⟩⟩ <;> first | rfl | simp only [↓rA, rB, Int.reduceEq, Int.reduceLE, Int.reduceLT, Int.reduceToNat, Nat.reduceAdd, Nat.reduceEqDiff, Nat.reduceLT, Nat.reduceLeDiff, Nat.reduceMul, Nat.reduceSub, reduceCtorEq, tbN20, Tryd.results25, gr, g3, g4, g6, g8, g9, gb] | simp only [bxN, hk1]
      · clear gb gr g3 g4 g6 g8 g9
        intro L S i o ho hL he ⟨gr, g3, g4, g6, g8, g9, f0, f1, f2, f3, f4, f5, f6, f7, hph⟩
        match i, ho with
        | 0, ho =>
          cases ho
          rcases hph with ⟨q8, q9, gb⟩ | ⟨q8, z, gz, hz, c, hc, hc9, gb⟩
          · simp only [↓rA, rB, Int.reduceEq, Int.reduceLE, Int.reduceLT, Int.reduceToNat, Nat.reduceAdd, Nat.reduceEqDiff, Nat.reduceLT, Nat.reduceLeDiff, Nat.reduceMul, Nat.reduceSub, reduceCtorEq, tbN20, Tryd.results25, gr, g3, g4, g6, g8, g9, gb, h4, h6, h8, h9]
            exact ⟨gr, g3, g4, g6, g8, g9, fun _ => rfl, f1, f2, f3, f4, f5, f6, f7, .inl ⟨q8, q9, gb⟩⟩
          · simp only [↓rA, rB, Int.reduceEq, Int.reduceLE, Int.reduceLT, Int.reduceToNat, Nat.reduceAdd, Nat.reduceEqDiff, Nat.reduceLT, Nat.reduceLeDiff, Nat.reduceMul, Nat.reduceSub, reduceCtorEq, tbN20, Tryd.results25, gr, g3, g4, g6, g8, g9, gb, h4, h6, h8, h9, hz]
            exact ⟨gr, g3, g4, g6, g8, g9, fun _ => rfl, f1, f2, f3, f4, f5, f6, f7, .inr ⟨q8, z, gz, hz, c, hc, hc9, gb⟩⟩
        | 1, ho =>
          cases ho
          have d0 := f0 (he ⟨0, .data⟩ (by simp) rfl)
          rcases hph with ⟨q8, q9, gb⟩ | ⟨q8, z, gz, hz, c, hc, hc9, gb⟩
          · simp only [↓rA, rB, Int.reduceEq, Int.reduceLE, Int.reduceLT, Int.reduceToNat, Nat.reduceAdd, Nat.reduceEqDiff, Nat.reduceLT, Nat.reduceLeDiff, Nat.reduceMul, Nat.reduceSub, reduceCtorEq, tbN20, Tryd.results25, gr, g3, g4, g6, g8, g9, gb, h4, h6, h8, h9, d0]
            exact ⟨gr, g3, g4, g6, g8, g9, f0, fun _ => rfl, f2, f3, f4, f5, f6, f7, .inl ⟨q8, q9, gb⟩⟩
          · simp only [↓rA, rB, Int.reduceEq, Int.reduceLE, Int.reduceLT, Int.reduceToNat, Nat.reduceAdd, Nat.reduceEqDiff, Nat.reduceLT, Nat.reduceLeDiff, Nat.reduceMul, Nat.reduceSub, reduceCtorEq, tbN20, Tryd.results25, gr, g3, g4, g6, g8, g9, gb, h4, h6, h8, h9, hz, d0]
            exact ⟨gr, g3, g4, g6, g8, g9, f0, fun _ => rfl, f2, f3, f4, f5, f6, f7, .inr ⟨q8, z, gz, hz, c, hc, hc9, gb⟩⟩
        | 2, ho =>
          cases ho
          rcases hph with ⟨q8, q9, gb⟩ | ⟨q8, z, gz, hz, c, hc, hc9, gb⟩
          · simp only [↓rA, rB, Int.reduceEq, Int.reduceLE, Int.reduceLT, Int.reduceToNat, Nat.reduceAdd, Nat.reduceEqDiff, Nat.reduceLT, Nat.reduceLeDiff, Nat.reduceMul, Nat.reduceSub, reduceCtorEq, tbN20, Tryd.results25, gr, g3, g4, g6, g8, g9, gb, h4, h6, h8, h9]
            exact ⟨gr, g3, g4, g6, g8, g9, f0, f1, fun _ => rfl, f3, f4, f5, f6, f7, .inl ⟨q8, q9, gb⟩⟩
          · simp only [↓rA, rB, Int.reduceEq, Int.reduceLE, Int.reduceLT, Int.reduceToNat, Nat.reduceAdd, Nat.reduceEqDiff, Nat.reduceLT, Nat.reduceLeDiff, Nat.reduceMul, Nat.reduceSub, reduceCtorEq, tbN20, Tryd.results25, gr, g3, g4, g6, g8, g9, gb, h4, h6, h8, h9, hz]
            exact ⟨gr, g3, g4, g6, g8, g9, f0, f1, fun _ => rfl, f3, f4, f5, f6, f7, .inr ⟨q8, z, gz, hz, c, hc, hc9, gb⟩⟩
        | 3, ho =>
          cases ho
          have d2 := f2 (he ⟨2, .data⟩ (by simp) rfl)
          rcases hph with ⟨q8, q9, gb⟩ | ⟨q8, z, gz, hz, c, hc, hc9, gb⟩
          · simp only [↓rA, rB, Int.reduceEq, Int.reduceLE, Int.reduceLT, Int.reduceToNat, Nat.reduceAdd, Nat.reduceEqDiff, Nat.reduceLT, Nat.reduceLeDiff, Nat.reduceMul, Nat.reduceSub, reduceCtorEq, tbN20, Tryd.results25, gr, g3, g4, g6, g8, g9, gb, h4, h6, h8, h9, d2]
            exact ⟨gr, g3, g4, g6, g8, g9, f0, f1, f2, fun _ => rfl, f4, f5, f6, f7, .inl ⟨q8, q9, gb⟩⟩
          · simp only [↓rA, rB, Int.reduceEq, Int.reduceLE, Int.reduceLT, Int.reduceToNat, Nat.reduceAdd, Nat.reduceEqDiff, Nat.reduceLT, Nat.reduceLeDiff, Nat.reduceMul, Nat.reduceSub, reduceCtorEq, tbN20, Tryd.results25, gr, g3, g4, g6, g8, g9, gb, h4, h6, h8, h9, hz, d2]
            exact ⟨gr, g3, g4, g6, g8, g9, f0, f1, f2, fun _ => rfl, f4, f5, f6, f7, .inr ⟨q8, z, gz, hz, c, hc, hc9, gb⟩⟩
        | 4, ho =>
          cases ho
          have d3 := f3 (he ⟨3, .data⟩ (by simp) rfl)
          rcases hph with ⟨q8, q9, gb⟩ | ⟨q8, z, gz, hz, c, hc, hc9, gb⟩
          · simp only [↓rA, rB, Int.reduceEq, Int.reduceLE, Int.reduceLT, Int.reduceToNat, Nat.reduceAdd, Nat.reduceEqDiff, Nat.reduceLT, Nat.reduceLeDiff, Nat.reduceMul, Nat.reduceSub, reduceCtorEq, tbN20, Tryd.results25, gr, g3, g4, g6, g8, g9, gb, h4, h6, h8, h9, d3, hk1]
            exact ⟨gr, g3, g4, g6, g8, g9, f0, f1, f2, f3, fun _ => rfl, f5, f6, f7, .inl ⟨q8, q9, gb⟩⟩
          · simp only [↓rA, rB, Int.reduceEq, Int.reduceLE, Int.reduceLT, Int.reduceToNat, Nat.reduceAdd, Nat.reduceEqDiff, Nat.reduceLT, Nat.reduceLeDiff, Nat.reduceMul, Nat.reduceSub, reduceCtorEq, tbN20, Tryd.results25, gr, g3, g4, g6, g8, g9, gb, h4, h6, h8, h9, hz, d3, hk1]
            exact ⟨gr, g3, g4, g6, g8, g9, f0, f1, f2, f3, fun _ => rfl, f5, f6, f7, .inr ⟨q8, z, gz, hz, c, hc, hc9, gb⟩⟩
        | 5, ho =>
          cases ho
          have d4 := f4 (he ⟨4, .data⟩ (by simp) rfl)
          rcases hph with ⟨q8, q9, gb⟩ | ⟨q8, z, gz, hz, c, hc, hc9, gb⟩
          · simp only [↓rA, rB, Int.reduceEq, Int.reduceLE, Int.reduceLT, Int.reduceToNat, Nat.reduceAdd, Nat.reduceEqDiff, Nat.reduceLT, Nat.reduceLeDiff, Nat.reduceMul, Nat.reduceSub, reduceCtorEq, tbN20, Tryd.results25, gr, g3, g4, g6, g8, g9, gb, h4, h6, h8, h9, d4]
            exact ⟨gr, g3, g4, g6, g8, g9, f0, f1, f2, f3, f4, fun _ => rfl, f6, f7, .inl ⟨q8, q9, gb⟩⟩
          · simp only [↓rA, rB, Int.reduceEq, Int.reduceLE, Int.reduceLT, Int.reduceToNat, Nat.reduceAdd, Nat.reduceEqDiff, Nat.reduceLT, Nat.reduceLeDiff, Nat.reduceMul, Nat.reduceSub, reduceCtorEq, tbN20, Tryd.results25, gr, g3, g4, g6, g8, g9, gb, h4, h6, h8, h9, hz, d4]
            exact ⟨gr, g3, g4, g6, g8, g9, f0, f1, f2, f3, f4, fun _ => rfl, f6, f7, .inr ⟨q8, z, gz, hz, c, hc, hc9, gb⟩⟩
        | 6, ho =>
          cases ho
          have d1 := f1 (he ⟨1, .data⟩ (by simp) rfl)
          have d5 := f5 (he ⟨5, .data⟩ (by simp) rfl)
          rcases hph with ⟨q8, q9, gb⟩ | ⟨q8, z, gz, hz, c, hc, hc9, gb⟩
          · simp only [↓rA, rB, Int.reduceEq, Int.reduceLE, Int.reduceLT, Int.reduceToNat, Nat.reduceAdd, Nat.reduceEqDiff, Nat.reduceLT, Nat.reduceLeDiff, Nat.reduceMul, Nat.reduceSub, reduceCtorEq, tbN20, Tryd.results25, gr, g3, g4, g6, g8, g9, gb, h4, h6, h8, h9, d1, d5, Int.ofNat_lt, hj1, List.length_map, getD_map _ _ _ hj1]
            exact ⟨gr, g3, g4, g6, g8, g9, f0, f1, f2, f3, f4, f5, fun _ => rfl, f7, .inl ⟨q8, q9, gb⟩⟩
          · simp only [↓rA, rB, Int.reduceEq, Int.reduceLE, Int.reduceLT, Int.reduceToNat, Nat.reduceAdd, Nat.reduceEqDiff, Nat.reduceLT, Nat.reduceLeDiff, Nat.reduceMul, Nat.reduceSub, reduceCtorEq, tbN20, Tryd.results25, gr, g3, g4, g6, g8, g9, gb, h4, h6, h8, h9, hz, d1, d5, Int.ofNat_lt, hj1, List.length_map, getD_map _ _ _ hj1]
            exact ⟨gr, g3, g4, g6, g8, g9, f0, f1, f2, f3, f4, f5, fun _ => rfl, f7, .inr ⟨q8, z, gz, hz, c, hc, hc9, gb⟩⟩
        | 7, ho =>
          cases ho
          have d6 := f6 (he ⟨6, .data⟩ (by simp) rfl)
          rcases hph with ⟨q8, q9, gb⟩ | ⟨q8, z, gz, hz, c, hc, hc9, gb⟩
          · simp only [↓rA, rB, Int.reduceEq, Int.reduceLE, Int.reduceLT, Int.reduceToNat, Nat.reduceAdd, Nat.reduceEqDiff, Nat.reduceLT, Nat.reduceLeDiff, Nat.reduceMul, Nat.reduceSub, reduceCtorEq, tbN20, Tryd.results25, gr, g3, g4, g6, g8, g9, gb, h4, h6, h8, h9, d6, cNd_eq]
            exact ⟨gr, g3, g4, g6, g8, g9, f0, f1, f2, f3, f4, f5, f6, fun _ => rfl, .inl ⟨q8, q9, gb⟩⟩
          · simp only [↓rA, rB, Int.reduceEq, Int.reduceLE, Int.reduceLT, Int.reduceToNat, Nat.reduceAdd, Nat.reduceEqDiff, Nat.reduceLT, Nat.reduceLeDiff, Nat.reduceMul, Nat.reduceSub, reduceCtorEq, tbN20, Tryd.results25, gr, g3, g4, g6, g8, g9, gb, h4, h6, h8, h9, hz, d6, cNd_eq]
            exact ⟨gr, g3, g4, g6, g8, g9, f0, f1, f2, f3, f4, f5, f6, fun _ => rfl, .inr ⟨q8, z, gz, hz, c, hc, hc9, gb⟩⟩
        | 8, ho =>
          cases ho
          rcases hph with ⟨q8, q9, gb⟩ | ⟨q8, _⟩
          · simp only [↓rA, rB, Int.reduceEq, Int.reduceLE, Int.reduceLT, Int.reduceToNat, Nat.reduceAdd, Nat.reduceEqDiff, Nat.reduceLT, Nat.reduceLeDiff, Nat.reduceMul, Nat.reduceSub, reduceCtorEq, tbN20, Tryd.results25, gr, g3, g4, g6, g8, g9, gb]
            refine fun z hz => ?_; replace hz := newb hz; try simp only [Nb] at hz
            simp only [↓rA, rB, Int.reduceEq, Int.reduceLE, Int.reduceLT, Int.reduceToNat, Nat.reduceAdd, Nat.reduceEqDiff, Nat.reduceLT, Nat.reduceLeDiff, Nat.reduceMul, Nat.reduceSub, reduceCtorEq, tbN20, Tryd.results25, gr, g3, g4, g6, g8, g9, gb, hz]
            exact ⟨gr, g3, g4, g6, g8, g9, f0, f1, f2, f3, f4, f5, f6, f7, .inr ⟨rfl, z, rfl, ⟨hz.2.2.2.2.1, hz.2.2.2.1, hz.2.2.1, hz.2.1, hz.1⟩, zN, rfl, fun h => Bool.noConfusion (Eq.trans (Eq.symm q9) (show L 9 = true from h)), by show (z, B.c zN) :: S.boxes = _; rw [gb]⟩⟩
          · rw [q8] at hL; cases hL
        | 9, ho =>
          cases ho
          have d7 := f7 (he ⟨7, .data⟩ (by simp) rfl)
          have e8 := he ⟨8, .data⟩ (by simp) rfl
          replace e8 : L 8 = true := e8
          rcases hph with ⟨q8, _⟩ | ⟨q8, z, gz, hz, c, hc, hc9, gb⟩
          · rw [q8] at e8; cases e8
          · have hd : c.drop 23 = [] := List.drop_of_length_le (by omega)
            simp only [↓rA, rB, Int.reduceEq, Int.reduceLE, Int.reduceLT, Int.reduceToNat, Nat.reduceAdd, Nat.reduceEqDiff, Nat.reduceLT, Nat.reduceLeDiff, Nat.reduceMul, Nat.reduceSub, reduceCtorEq, tbN20, Tryd.results25, gr, g3, g4, g6, g8, g9, gb, gz, hz, d7, hc, hd]
            exact ⟨gr, g3, g4, g6, g8, g9, f0, f1, f2, f3, f4, f5, f6, f7, .inr ⟨q8, z, gz, hz, _, rfl, fun _ => rfl, rfl⟩⟩
        | n + 10, ho => cases ho
      · clear gb gr g3 g4 g6 g8 g9
        intro L S hL ⟨gr, g3, g4, g6, g8, g9, f0, f1, f2, f3, f4, f5, f6, f7, hph⟩
        replace hL : ∀ i, i < 10 → L i = true := hL
        have e8 := hL 8 (by decide)
        rcases hph with ⟨q8, _⟩ | ⟨q8, b10, g10, h10, c, hc, hc9, gb⟩
        · rw [q8] at e8; cases e8
        obtain rfl := hc9 (hL 9 (by decide))
        clear f0 f1 f2 f3 f4 f5 f6 f7
        by_cases c5 : g[j1].inn.length = 1
        case neg =>
          have c5' : ¬ (g[j1].inn.length : Int) = 1 := by omega
          simp only [↓rA, rB, Int.reduceEq, Int.reduceLE, Int.reduceLT, Int.reduceToNat, Nat.reduceAdd, Nat.reduceEqDiff, Nat.reduceLT, Nat.reduceLeDiff, Nat.reduceMul, Nat.reduceSub, reduceCtorEq, tbN20, Tryd.results25, gr, g3, g4, g6, g8, g9, g10, gb, h4, h6, h8, hb, h9, h10, List.length_map, c5']
          exact bad (by simp [nodeM, e, c1, ha0, c2, c3, ha1, c4, c5]) _ _
        obtain ⟨k2, hk2⟩ : ∃ k, g[j1].inn = [k] := by
          match hq : g[j1].inn, c5 with
          | [k], _ => exact ⟨k, rfl⟩
        have hr2 := hw1 k2 (by rw [hk2]; exact List.mem_cons_self)
        obtain ⟨j2, rfl⟩ : ∃ j : Nat, k2 = (j : Int) := ⟨k2.toNat, by omega⟩
        have hj2 : j2 < g.length := by omega
        have ha2 : atN g (in0 g[j1]) = g[j2] := atN_get hj2 (by rw [in0, hk2]; rfl)
        have hw2 := hwf j2 hj2 (by omega)
        by_cases c6 : g[j2].kind = 1
        case neg =>
          simp only [↓rA, rB, Int.reduceEq, Int.reduceLE, Int.reduceLT, Int.reduceToNat, Nat.reduceAdd, Nat.reduceEqDiff, Nat.reduceLT, Nat.reduceLeDiff, Nat.reduceMul, Nat.reduceSub, reduceCtorEq, tbN20, Tryd.results25, h11, gr, g3, g4, g6, g8, g9, g10, gb, h4, h6, h8, hb, h9, h10, hk2, Int.ofNat_lt, hj2, List.length_map, getD_map _ _ _ hj2, cNd_eq, c6]
          exact bad (by simp [nodeM, e, c1, ha0, c2, c3, ha1, c4, c5, ha2, c6]) _ _
        simp only [↓rA, rB, Int.reduceEq, Int.reduceLE, Int.reduceLT, Int.reduceToNat, Nat.reduceAdd, Nat.reduceEqDiff, Nat.reduceLT, Nat.reduceLeDiff, Nat.reduceMul, Nat.reduceSub, reduceCtorEq, tbN20, Tryd.results25, h11, gr, g3, g4, g6, g8, g9, g10, gb, h4, h6, h8, hb, h9, h10, hk2, Int.ofNat_lt, hj2, List.length_map, getD_map _ _ _ hj2, cNd_eq, c6]
        refine fin ⟨5, n.op, es0, g[j2].table, val0, [], n.param, n.wk, n.ws⟩ [g[j0].expr, g[j1].expr] _ _ true _ _ rfl z2 ?_ (by simp [nodeM, e, c1, ha0, c2, c3, ha1, c4, c5, ha2, c6])
        simp only [vEs, List.map_cons, List.map_nil, cE_eq]
        first | exact Le.refl _ | exact Le.list _ _ _
  · by_cases a3 : al.length = 3
    · have a3' : (al.length : Int) = 3 := by omega
      simp only [↓rA, rB, Int.reduceEq, Int.reduceLE, Int.reduceLT, Int.reduceToNat, Nat.reduceAdd, Nat.reduceEqDiff, Nat.reduceLT, Nat.reduceLeDiff, Nat.reduceMul, Nat.reduceSub, reduceCtorEq, tbN20, Tryd.results25, h4, h6, h8, e, List.length_map, a3']
      exact fin (hd0 8) al _ _ true _ _ rfl z2 (Le.refl _) (by simp [nodeM, e, a3])
    have a3' : ¬ (al.length : Int) = 3 := by omega
    by_cases a2 : al.length = 2
    · have a2' : (al.length : Int) = 2 := by omega
      have a23 : ¬ ((2 : Int) = 3) := by decide
      by_cases od : n.op = sDefault
      · simp only [↓rA, rB, Int.reduceEq, Int.reduceLE, Int.reduceLT, Int.reduceToNat, Nat.reduceAdd, Nat.reduceEqDiff, Nat.reduceLT, Nat.reduceLeDiff, Nat.reduceMul, Nat.reduceSub, reduceCtorEq, tbN20, Tryd.results25, h4, h6, h8, e, List.length_map, a2', a23, od]
        exact fin (hd0 9) al _ _ true _ _ rfl z2 (Le.refl _) (by simp [nodeM, e, a2, od])
      · simp only [↓rA, rB, Int.reduceEq, Int.reduceLE, Int.reduceLT, Int.reduceToNat, Nat.reduceAdd, Nat.reduceEqDiff, Nat.reduceLT, Nat.reduceLeDiff, Nat.reduceMul, Nat.reduceSub, reduceCtorEq, tbN20, Tryd.results25, h4, h6, h8, e, List.length_map, a2', a23, od]
        refine EX_inv (some true) Ty.mixed (by kernel_rfl) (by kernel_rfl) (InA27 b3 b4 b6 b8 g n (vEs al)) ?_ ?_ ?_
        · refine ⟨?_, ?_, ?_, ?_, fun h => (by cases h), fun h => (by cases h), fun h => (by cases h), fun h => (by cases h), ?_⟩ <;> rfl
        · intro L S i o ho hL he ⟨gr, g4, g6, g8, f0, f1, f2, f4, gb⟩
          match i, ho with
          | 0, ho =>
            cases ho
            simp only [↓rA, rB, Int.reduceEq, Int.reduceLE, Int.reduceLT, Int.reduceToNat, Nat.reduceAdd, Nat.reduceEqDiff, Nat.reduceLT, Nat.reduceLeDiff, Nat.reduceMul, Nat.reduceSub, reduceCtorEq, tbN20, Tryd.results25, gr, g4, g6, g8, gb, h4, h6, h8]
            exact ⟨gr, g4, g6, g8, fun _ => rfl, f1, f2, f4, gb⟩
          | 1, ho =>
            cases ho
            have d0 := f0 (he ⟨0, .data⟩ (by simp) rfl)
            simp only [↓rA, rB, Int.reduceEq, Int.reduceLE, Int.reduceLT, Int.reduceToNat, Nat.reduceAdd, Nat.reduceEqDiff, Nat.reduceLT, Nat.reduceLeDiff, Nat.reduceMul, Nat.reduceSub, reduceCtorEq, tbN20, Tryd.results25, gr, g4, g6, g8, gb, h4, h6, h8, d0]
            exact ⟨gr, g4, g6, g8, f0, fun _ => rfl, f2, f4, gb⟩
          | 2, ho =>
            cases ho
            simp only [↓rA, rB, Int.reduceEq, Int.reduceLE, Int.reduceLT, Int.reduceToNat, Nat.reduceAdd, Nat.reduceEqDiff, Nat.reduceLT, Nat.reduceLeDiff, Nat.reduceMul, Nat.reduceSub, reduceCtorEq, tbN20, Tryd.results25, gr, g4, g6, g8, gb, h4, h6, h8]
            exact ⟨gr, g4, g6, g8, f0, f1, fun _ => rfl, f4, gb⟩
          | 3, ho =>
            cases ho
            have d2 := f2 (he ⟨2, .data⟩ (by simp) rfl)
            simp only [↓rA, rB, Int.reduceEq, Int.reduceLE, Int.reduceLT, Int.reduceToNat, Nat.reduceAdd, Nat.reduceEqDiff, Nat.reduceLT, Nat.reduceLeDiff, Nat.reduceMul, Nat.reduceSub, reduceCtorEq, tbN20, Tryd.results25, gr, g4, g6, g8, gb, h4, h6, h8, d2]
            exact ⟨gr, g4, g6, g8, f0, f1, f2, f4, rfl⟩
          | 4, ho =>
            cases ho
            simp only [↓rA, rB, Int.reduceEq, Int.reduceLE, Int.reduceLT, Int.reduceToNat, Nat.reduceAdd, Nat.reduceEqDiff, Nat.reduceLT, Nat.reduceLeDiff, Nat.reduceMul, Nat.reduceSub, reduceCtorEq, tbN20, Tryd.results25, gr, g4, g6, g8, gb, h4, h6, h8]
            exact ⟨gr, g4, g6, g8, f0, f1, f2, fun _ => rfl, gb⟩
          | 5, ho =>
            cases ho
            have d4 := f4 (he ⟨4, .data⟩ (by simp) rfl)
            have d1 := f1 (he ⟨1, .data⟩ (by simp) rfl)
            simp only [↓rA, rB, Int.reduceEq, Int.reduceLE, Int.reduceLT, Int.reduceToNat, Nat.reduceAdd, Nat.reduceEqDiff, Nat.reduceLT, Nat.reduceLeDiff, Nat.reduceMul, Nat.reduceSub, reduceCtorEq, tbN20, Tryd.results25, gr, g4, g6, g8, gb, h4, h6, h8, d4, d1]
            exact ⟨gr, g4, g6, g8, f0, f1, f2, f4, rfl⟩
          | n + 6, ho => cases ho
        · intro L S hL ⟨gr, g4, g6, g8, f0, f1, f2, f4, gb⟩
          replace hL : ∀ i, i < 6 → L i = true := hL
          have l3 := hL 3 (by decide)
          have l5 := hL 5 (by decide)
          unfold bxN at gb
          rw [l3, l5] at gb
          simp only [cond_true] at gb
          simp only [↓rA, rB, Int.reduceEq, Int.reduceLE, Int.reduceLT, Int.reduceToNat, Nat.reduceAdd, Nat.reduceEqDiff, Nat.reduceLT, Nat.reduceLeDiff, Nat.reduceMul, Nat.reduceSub, reduceCtorEq, tbN20, Tryd.results25, gr, g4, g6, g8, gb, h4, h6, h8]
          exact fin { hd0 7 with op := n.op } al _ _ true _ _ rfl z2 (Le.refl _) (by simp [nodeM, e, a2, od])
    · have a2' : ¬ (al.length : Int) = 2 := by omega
      simp only [↓rA, rB, Int.reduceEq, Int.reduceLE, Int.reduceLT, Int.reduceToNat, Nat.reduceAdd, Nat.reduceEqDiff, Nat.reduceLT, Nat.reduceLeDiff, Nat.reduceMul, Nat.reduceSub, reduceCtorEq, tbN20, Tryd.results25, h4, h6, h8, e, List.length_map, a2', a3']
      refine EX_inv (some true) Ty.mixed (by kernel_rfl) (by kernel_rfl) (InA21 b3 b4 b6 b8 g n (vEs al)) ?_ ?_ ?_
      · refine ⟨?_, ?_, ?_, ?_, fun h => (by cases h), fun h => (by cases h), fun h => (by cases h), fun h => (by cases h), ?_⟩ <;> rfl
      · intro L S i o ho hL he ⟨gr, g4, g6, g8, f0, f1, f2, f4, gb⟩
        match i, ho with
        | 0, ho =>
          cases ho
          simp only [↓rA, rB, Int.reduceEq, Int.reduceLE, Int.reduceLT, Int.reduceToNat, Nat.reduceAdd, Nat.reduceEqDiff, Nat.reduceLT, Nat.reduceLeDiff, Nat.reduceMul, Nat.reduceSub, reduceCtorEq, tbN20, Tryd.results25, gr, g4, g6, g8, gb, h4, h6, h8]
          exact ⟨gr, g4, g6, g8, fun _ => rfl, f1, f2, f4, gb⟩
        | 1, ho =>
          cases ho
          have d0 := f0 (he ⟨0, .data⟩ (by simp) rfl)
          simp only [↓rA, rB, Int.reduceEq, Int.reduceLE, Int.reduceLT, Int.reduceToNat, Nat.reduceAdd, Nat.reduceEqDiff, Nat.reduceLT, Nat.reduceLeDiff, Nat.reduceMul, Nat.reduceSub, reduceCtorEq, tbN20, Tryd.results25, gr, g4, g6, g8, gb, h4, h6, h8, d0]
          exact ⟨gr, g4, g6, g8, f0, fun _ => rfl, f2, f4, gb⟩
        | 2, ho =>
          cases ho
          simp only [↓rA, rB, Int.reduceEq, Int.reduceLE, Int.reduceLT, Int.reduceToNat, Nat.reduceAdd, Nat.reduceEqDiff, Nat.reduceLT, Nat.reduceLeDiff, Nat.reduceMul, Nat.reduceSub, reduceCtorEq, tbN20, Tryd.results25, gr, g4, g6, g8, gb, h4, h6, h8]
          exact ⟨gr, g4, g6, g8, f0, f1, fun _ => rfl, f4, gb⟩
        | 3, ho =>
          cases ho
          have d2 := f2 (he ⟨2, .data⟩ (by simp) rfl)
          simp only [↓rA, rB, Int.reduceEq, Int.reduceLE, Int.reduceLT, Int.reduceToNat, Nat.reduceAdd, Nat.reduceEqDiff, Nat.reduceLT, Nat.reduceLeDiff, Nat.reduceMul, Nat.reduceSub, reduceCtorEq, tbN20, Tryd.results25, gr, g4, g6, g8, gb, h4, h6, h8, d2]
          exact ⟨gr, g4, g6, g8, f0, f1, f2, f4, rfl⟩
        | 4, ho =>
          cases ho
          simp only [↓rA, rB, Int.reduceEq, Int.reduceLE, Int.reduceLT, Int.reduceToNat, Nat.reduceAdd, Nat.reduceEqDiff, Nat.reduceLT, Nat.reduceLeDiff, Nat.reduceMul, Nat.reduceSub, reduceCtorEq, tbN20, Tryd.results25, gr, g4, g6, g8, gb, h4, h6, h8]
          exact ⟨gr, g4, g6, g8, f0, f1, f2, fun _ => rfl, gb⟩
        | 5, ho =>
          cases ho
          have d4 := f4 (he ⟨4, .data⟩ (by simp) rfl)
          have d1 := f1 (he ⟨1, .data⟩ (by simp) rfl)
          simp only [↓rA, rB, Int.reduceEq, Int.reduceLE, Int.reduceLT, Int.reduceToNat, Nat.reduceAdd, Nat.reduceEqDiff, Nat.reduceLT, Nat.reduceLeDiff, Nat.reduceMul, Nat.reduceSub, reduceCtorEq, tbN20, Tryd.results25, gr, g4, g6, g8, gb, h4, h6, h8, d4, d1]
          exact ⟨gr, g4, g6, g8, f0, f1, f2, f4, rfl⟩
        | n + 6, ho => cases ho
      · intro L S hL ⟨gr, g4, g6, g8, f0, f1, f2, f4, gb⟩
        replace hL : ∀ i, i < 6 → L i = true := hL
        have l3 := hL 3 (by decide)
        have l5 := hL 5 (by decide)
        unfold bxN at gb
        rw [l3, l5] at gb
        simp only [cond_true] at gb
        simp only [↓rA, rB, Int.reduceEq, Int.reduceLE, Int.reduceLT, Int.reduceToNat, Nat.reduceAdd, Nat.reduceEqDiff, Nat.reduceLT, Nat.reduceLeDiff, Nat.reduceMul, Nat.reduceSub, reduceCtorEq, tbN20, Tryd.results25, gr, g4, g6, g8, gb, h4, h6, h8]
        exact fin { hd0 6 with op := n.op } al _ _ true _ _ rfl z2 (Le.refl _) (by simp [nodeM, e, a2, a3])
  · obtain ⟨e5, e6, e7, e4, e8⟩ := e
    simp only [↓rA, rB, Int.reduceEq, Int.reduceLE, Int.reduceLT, Int.reduceToNat, Nat.reduceAdd, Nat.reduceEqDiff, Nat.reduceLT, Nat.reduceLeDiff, Nat.reduceMul, Nat.reduceSub, reduceCtorEq, tbN20, Tryd.results25, h4, h6, h8, e5, e6, e7, e4, e8]
    exact fin (hd0 0) al _ _ false _ _ rfl z2 (Le.refl _) (by simp [nodeM, e5, e6, e7, e4, e8])
end Go.Proofs.YtphkmlogjgeipaaDoor

/- Contracts of lowering, part u: the model of raising; lower.Raise. -/
set_option linter.unusedSimpArgs false
set_option maxRecDepth 100000
-- @call 21
namespace Go.Lo
open Go.VL Go.Ar
def okIn (i : Nat) (l : List Int) : Bool := l.all fun t => decide (0 ≤ t) && decide (t < i)
theorem okIn_iff {i : Nat} {l : List Int} : okIn i l = true ↔ ∀ t ∈ l, 0 ≤ t ∧ t < i := by simp [okIn]
def szI (ss : List Int) : List Int → Int → Int
  | [], s => s
  | t :: r, s => szI ss r (IntKind.i64.wrap (s + ss.getD t.toNat 0))
theorem szI_snoc (ss : List Int) : ∀ (l : List Int) (t s : Int), szI ss (l ++ [t]) s = IntKind.i64.wrap (szI ss l s + ss.getD t.toNat 0)
  | [], t, s => rfl
  | x :: r, t, s => by simp only [List.cons_append, szI, szI_snoc ss r]
/-- One node is raised behind those before it: their sizes and expressions. -/
def stepM (g : List Nd) (st : List Int × List E) (n : Nd) : Option (List Int × List E) :=
  if okIn st.1.length n.inn = true then
    if n.kind = 1 ∨ n.kind = 2 ∨ n.kind = 3 then some (st.1 ++ [szI st.1 n.inn 1], st.2 ++ [exp0])
    else if (nodeM g n (n.inn.map fun t => st.2.getD t.toNat exp0)).2 = true ∧ ¬ 256 < szI st.1 n.inn 1 then some (st.1 ++ [szI st.1 n.inn 1], st.2 ++ [(nodeM g n (n.inn.map fun t => st.2.getD t.toNat exp0)).1]) else none
  else none
def raiseF (g l : List Nd) : Option (List Int × List E) := l.foldlM (stepM g) ([], [])
theorem raiseF_snoc (g l : List Nd) (n : Nd) : raiseF g (l ++ [n]) = (raiseF g l).bind fun st => stepM g st n := by
  simp [raiseF, List.foldlM_append]
theorem raiseF_none {g l m : List Nd} (h : raiseF g l = none) (hp : l <+: m) : raiseF g m = none := by
  obtain ⟨r, rfl⟩ := hp
  simp only [raiseF, List.foldlM_append] at h ⊢
  rw [h]; rfl
/-- What stands in the room for expressions. -/
structure RelC (cs : List (List V)) (xs : List E) : Prop where
  len : cs.length = xs.length
  el : ∀ k (h : k < cs.length) (h' : k < xs.length), cs[k].length = 12 ∧ okC cs[k] = true ∧ LeL cs[k] (cE xs[k])
abbrev zE : List V := [vint 0, vstr es0, vstr es0, vstr es0, vint 0, vint 0, vstr es0, nilS, vint 0, vint 0, vint 0, nilS]
theorem flat_len {cs : List (List V)} (h : ∀ c ∈ cs, c.length = 12) : cs.flatten.length = cs.length * 12 := by
  induction cs with
  | nil => rfl
  | cons c r ih =>
    rw [List.flatten_cons, List.length_append, h c List.mem_cons_self, ih fun x hx => h x (List.mem_cons_of_mem _ hx), List.length_cons]
    omega
theorem RelC.all {cs : List (List V)} {xs : List E} (h : RelC cs xs) : ∀ c ∈ cs, c.length = 12 := fun c hc => by
  obtain ⟨k, hk, rfl⟩ := List.getElem_of_mem hc
  exact (h.el k hk (by rw [← h.len]; exact hk)).1
theorem RelC.snoc {cs : List (List V)} {xs : List E} (h : RelC cs xs) {c : List V} {x : E} (h1 : c.length = 12) (h2 : okC c = true) (h3 : LeL c (cE x)) : RelC (cs ++ [c]) (xs ++ [x]) := by
  have hl := h.len
  refine ⟨by simp [hl], fun k hk hk' => ?_⟩
  simp only [List.length_append, List.length_cons, List.length_nil] at hk hk'
  rcases Nat.lt_or_ge k cs.length with hc | hc
  · rw [List.getElem_append_left hc, List.getElem_append_left (by omega)]
    exact h.el k hc (by omega)
  · have e : k = cs.length := by omega
    subst e
    rw [List.getElem_append_right (Nat.le_refl _), List.getElem_append_right (by omega)]
    simp only [Nat.sub_self, hl, List.getElem_cons_zero]
    exact ⟨h1, h2, h3⟩
/-- The room at index k. -/
theorem flat_at {cs : List (List V)} (h : ∀ c ∈ cs, c.length = 12) {k : Nat} (hk : k < cs.length) (Z : List V) : ((cs.flatten ++ Z).drop (k * 12)).take 12 = cs[k] ∧ k * 12 + 12 ≤ (cs.flatten ++ Z).length := by
  have e : cs.flatten ++ Z = (cs.take k).flatten ++ (cs[k] ++ ((cs.drop (k + 1)).flatten ++ Z)) := by
    conv => lhs; rw [← List.take_append_drop k cs, List.drop_eq_getElem_cons hk]
    simp only [List.flatten_append, List.flatten_cons, List.append_assoc]
  have hl : (cs.take k).flatten.length = k * 12 := by
    rw [flat_len fun c hc => h c (List.mem_of_mem_take hc), List.length_take, Nat.min_eq_left (by omega)]
  have hc := h _ (List.getElem_mem hk)
  rw [e, List.drop_left' hl, List.take_left' hc]
  refine ⟨rfl, ?_⟩
  simp only [List.length_append, hl, hc]
  omega
end Go.Lo
namespace Go.Proofs.YtphkmlogjgeipaaDoor
open Go.VL Go.Ar Go.Lo Go.Proofs.YtphkmlogjgeipaaDoor
noncomputable def raiseM (g : List Nd) : E × Int := match raiseF g g with
  | none => (exp0, 3)
  | some st => if g = [] then (exp0, 3) else if shapeC (st.2.getLastD exp0) = 0 ∧ g = graphC (st.2.getLastD exp0) then (st.2.getLastD exp0, 0) else (exp0, 3)
theorem okC_cE (x : E) : okC (cE x) = true := by rw [cE_eq]; rfl
theorem relLL {cs : List (List V)} {xs : List E} (h : RelC cs xs) : ∀ (l : List Int), (∀ t ∈ l, 0 ≤ t ∧ t < cs.length) → LeLL (l.map fun t => cs.getD t.toNat []) ((l.map fun t => xs.getD t.toNat exp0).map cE)
  | [], _ => .nil
  | t :: r, ht => by
    obtain ⟨h0, h1⟩ := ht t List.mem_cons_self
    have hk : t.toNat < cs.length := by omega
    have hk' : t.toNat < xs.length := by rw [← h.len]; exact hk
    simp only [List.map_cons]
    refine .cons ?_ (relLL h r fun u hu => ht u (List.mem_cons_of_mem _ hu))
    rw [List.getD_eq_getElem?_getD, List.getElem?_eq_getElem hk, List.getD_eq_getElem?_getD, List.getElem?_eq_getElem hk']
    exact (h.el _ hk hk').2.2
theorem depthEs_le {D : Nat} : ∀ {l : List E}, (∀ x ∈ l, depthE x ≤ D) → depthEs l ≤ D
  | [], _ => Nat.zero_le _
  | x :: r, h => by
    simp only [depthEs]
    exact Nat.max_le.2 ⟨h x List.mem_cons_self, depthEs_le fun y hy => h y (List.mem_cons_of_mem _ hy)⟩
theorem node_fit {g : List Nd} {n : Nd} {al : List E} {D : Nat} (hn : Fit n.expr ∧ depthE n.expr ≤ D) (hg : ∀ m ∈ g, Fit m.expr ∧ depthE m.expr ≤ D) (hl : al.length ≤ big) (ha : ∀ a ∈ al, Fit a ∧ depthE a ≤ D) (hD : 1 ≤ D) : Fit (nodeM g n al).1 ∧ depthE (nodeM g n al).1 ≤ D + 1 := by
  have hat : ∀ t, Fit (atN g t).expr ∧ depthE (atN g t).expr ≤ D := fun t => by
    unfold atN
    rw [List.getD_eq_getElem?_getD]
    cases e : g[t.toNat]? with
    | none => exact ⟨fit_exp0, by simp only [Option.getD_none]; rw [depthE_mk]; simpa [depthEs] using hD⟩
    | some m => exact hg m (List.mem_of_getElem? e)
  have h1 : ∀ (h : Hd) (hu : h.unit.length ≤ big), Fit (.mk h al) ∧ depthE (.mk h al) ≤ D + 1 := fun h hu => ⟨.mk _ _ hu hl fun x hx => (ha x hx).1, by rw [depthE_mk]; exact Nat.succ_le_succ (depthEs_le fun x hx => (ha x hx).2)⟩
  have hz : ([] : List Fac).length ≤ big := Nat.zero_le _
  unfold nodeM
  repeat' split
  all_goals first | exact h1 _ hz | exact ⟨hn.1, by have := hn.2; simp only; omega⟩ | skip
  refine ⟨fitB _ hz (hat _).1 (hat _).1, ?_⟩
  rw [depthE_mk]
  refine Nat.succ_le_succ (depthEs_le fun x hx => ?_)
  rcases List.mem_cons.1 hx with rfl | hx
  · exact (hat _).2
  · obtain rfl := List.mem_singleton.1 hx
    exact (hat _).2
theorem raise_fit {g : List Nd} {ss : List Int} {xs : List E} (hsz : g.length ≤ 1048576) (hf : ∀ n ∈ g, FitN n) (hdp : ∀ n ∈ g, depthE n.expr ≤ 1048576) (h : raiseF g g = some (ss, xs)) : ∀ x ∈ xs, Fit x ∧ depthE x ≤ 4194304 := by
  have key : ∀ i, i ≤ g.length → ∀ ss xs, raiseF g (g.take i) = some (ss, xs) → ∀ x ∈ xs, Fit x ∧ depthE x ≤ 1048577 + i := by
    intro i
    induction i with
    | zero =>
      intro _ ss xs h x hx
      simp only [List.take_zero, raiseF, List.foldlM_nil] at h
      cases h
      cases hx
    | succ i ih =>
      intro hi ss xs h x hx
      have hil : i < g.length := by omega
      rw [List.take_succ_eq_append_getElem hil, raiseF_snoc, Option.bind_eq_some_iff] at h
      obtain ⟨⟨ss0, xs0⟩, h0, h1⟩ := h
      have ih0 := ih (by omega) ss0 xs0 h0
      have hm := List.getElem_mem hil
      have old : ∀ x ∈ xs0, Fit x ∧ depthE x ≤ 1048577 + (i + 1) := fun x hx => ⟨(ih0 x hx).1, by have := (ih0 x hx).2; omega⟩
      unfold stepM at h1
      split at h1
      · split at h1
        · simp only [Option.some.injEq, Prod.mk.injEq] at h1
          obtain ⟨_, rfl⟩ := h1
          rcases List.mem_append.1 hx with hx | hx
          · exact old x hx
          · obtain rfl := List.mem_singleton.1 hx
            exact ⟨fit_exp0, by rw [depthE_mk]; simp only [depthEs]; omega⟩
        · split at h1
          · simp only [Option.some.injEq, Prod.mk.injEq] at h1
            obtain ⟨_, rfl⟩ := h1
            rcases List.mem_append.1 hx with hx | hx
            · exact old x hx
            · obtain rfl := List.mem_singleton.1 hx
              have hfn := hf _ hm
              refine node_fit (D := 1048577 + i) ⟨hfn.1, by have := hdp _ hm; omega⟩ (fun m hm => ⟨(hf m hm).1, by have := hdp m hm; omega⟩) (by rw [List.length_map]; exact hfn.2) (fun a ha => ?_) (by omega)
              obtain ⟨t, _, rfl⟩ := List.mem_map.1 ha
              rw [List.getD_eq_getElem?_getD]
              cases e : xs0[t.toNat]? with
              | none => exact ⟨fit_exp0, by simp only [Option.getD_none]; rw [depthE_mk]; simp only [depthEs]; omega⟩
              | some m => exact ih0 m (List.mem_of_getElem? e)
          · cases h1
      · cases h1
  intro x hx
  have := key g.length (Nat.le_refl _) ss xs (by rw [List.take_of_length_le (Nat.le_refl _)]; exact h) x hx
  exact ⟨this.1, by omega⟩
set_option linter.defProp false in
def tbN30 := (And.intro (And.intro (And.intro (And.intro (And.intro (And.intro (And.intro Ty.sz3 Ty.by3) (And.intro Ty.ag3 Ty.zr3)) (And.intro (And.intro Ty.un3 Ty.sz4) (And.intro Ty.by4 Ty.ag4))) (And.intro (And.intro (And.intro Ty.zr4 Ty.un4) (And.intro Ty.sz9 Ty.by9)) (And.intro (And.intro Ty.ag9 Ty.zr9) (And.intro Ty.un9 Ty.sz23)))) (And.intro (And.intro (And.intro (And.intro Ty.by23 Ty.ag23) (And.intro Ty.zr23 Ty.fl23_0)) (And.intro (And.intro Ty.pl23_0 Ty.fl23_1) (And.intro Ty.pl23_1 Ty.fl23_2))) (And.intro (And.intro (And.intro Ty.pl23_2 Ty.sz24) (And.intro Ty.by24 Ty.ag24)) (And.intro (And.intro Ty.zr24 Ty.un24) (And.intro Ty.sz26 (And.intro Ty.by26 Ty.ag26)))))) (And.intro (And.intro (And.intro (And.intro (And.intro Ty.zr26 Ty.fl26_0) (And.intro Ty.pl26_0 Ty.fl26_1)) (And.intro (And.intro Ty.pl26_1 Ty.sz27) (And.intro Ty.by27 Ty.ag27))) (And.intro (And.intro (And.intro Ty.zr27 Ty.un27) (And.intro Ty.sz29 Ty.by29)) (And.intro (And.intro Ty.ag29 Ty.zr29) (And.intro Ty.fl29_0 Ty.pl29_0)))) (And.intro (And.intro (And.intro (And.intro Ty.fl29_1 Ty.pl29_1) (And.intro Ty.fl29_2 Ty.pl29_2)) (And.intro (And.intro Ty.fl29_3 Ty.pl29_3) (And.intro Ty.fl29_4 Ty.pl29_4))) (And.intro (And.intro (And.intro Ty.fl29_5 Ty.pl29_5) (And.intro Ty.fl29_6 Ty.pl29_6)) (And.intro (And.intro Ty.fl29_7 Ty.pl29_7) (And.intro Ty.fl29_8 (And.intro Ty.pl29_8 Ty.sz31))))))) (And.intro (And.intro (And.intro (And.intro (And.intro (And.intro Ty.by31 Ty.ag31) (And.intro Ty.zr31 Ty.un31)) (And.intro (And.intro Ty.sz33 Ty.by33) (And.intro Ty.ag33 Ty.zr33))) (And.intro (And.intro (And.intro Ty.fl33_0 Ty.pl33_0) (And.intro Ty.sz34 Ty.by34)) (And.intro (And.intro Ty.ag34 Ty.zr34) (And.intro Ty.un34 Ty.sz35)))) (And.intro (And.intro (And.intro (And.intro Ty.by35 Ty.ag35) (And.intro Ty.sz40 Ty.by40)) (And.intro (And.intro Ty.ag40 Ty.zr40) (And.intro Ty.sz41 Ty.by41))) (And.intro (And.intro (And.intro Ty.ag41 Ty.zr41) (And.intro Ty.un41 Ty.sz43)) (And.intro (And.intro Ty.by43 Ty.ag43) (And.intro Ty.zr43 (And.intro Ty.fl43_0 Ty.pl43_0)))))) (And.intro (And.intro (And.intro (And.intro (And.intro Ty.fl43_1 Ty.pl43_1) (And.intro Ty.fl43_2 Ty.pl43_2)) (And.intro (And.intro Ty.fl43_3 Ty.pl43_3) (And.intro Ty.fl43_4 Ty.pl43_4))) (And.intro (And.intro (And.intro Ty.fl43_5 Ty.pl43_5) (And.intro Ty.fl43_6 Ty.pl43_6)) (And.intro (And.intro Ty.fl43_7 Ty.pl43_7) (And.intro Ty.fl43_8 (And.intro Ty.pl43_8 Ty.sz77))))) (And.intro (And.intro (And.intro (And.intro Ty.by77 Ty.ag77) (And.intro Ty.sz105 Ty.by105)) (And.intro (And.intro Ty.ag105 Ty.zr105) (And.intro Ty.fl105_0 Ty.pl105_0))) (And.intro (And.intro (And.intro Ty.fl105_1 Ty.pl105_1) (And.intro Ty.eq23 Ty.eq26)) (And.intro (And.intro Ty.eq105 Ty.cb7) (And.intro Ty.cb21 (And.intro Ty.cb25 Ty.cb26))))))))
theorem raise_ok (g : List Nd) (hsz : g.length ≤ 1048576) (hf : ∀ n ∈ g, FitN n) (hdp : ∀ n ∈ g, depthE n.expr ≤ 1048576) (hin : ∀ n ∈ g, n.inn.length ≤ 1048576) : OkP Tryd.prog 12 [vG g] (.tup [vE (raiseM g).1, vint (raiseM g).2]) := by
  refine Ok.of_ex Ty.mixed Tryd.func12 rfl (by simp [Tryd.ntmps12]) (by kernel_rfl) fun F w0 I0 => ?_
  simp only [↓rA, rB, Int.reduceEq, Int.reduceLE, Int.reduceLT, Int.reduceToNat, Nat.reduceAdd, Nat.reduceEqDiff, Nat.reduceLT, Nat.reduceLeDiff, Nat.reduceMul, Nat.reduceSub, reduceCtorEq, tbN30, Tryd.results12]
  refine fun b1 h1 => ?_; replace h1 := newb h1; try simp only [Nb] at h1
  simp only [↓rA, rB, Int.reduceEq, Int.reduceLE, Int.reduceLT, Int.reduceToNat, Nat.reduceAdd, Nat.reduceEqDiff, Nat.reduceLT, Nat.reduceLeDiff, Nat.reduceMul, Nat.reduceSub, reduceCtorEq, tbN30, Tryd.results12, h1]
  refine fun b2 h2 => ?_; replace h2 := newb h2; try simp only [Nb] at h2
  simp only [↓rA, rB, Int.reduceEq, Int.reduceLE, Int.reduceLT, Int.reduceToNat, Nat.reduceAdd, Nat.reduceEqDiff, Nat.reduceLT, Nat.reduceLeDiff, Nat.reduceMul, Nat.reduceSub, reduceCtorEq, tbN30, Tryd.results12, h1, h2, List.length_map]
  refine ⟨⟨by omega, by omega⟩, ?_⟩
  refine fun b4 h4 => ?_; replace h4 := newb h4; try simp only [Nb] at h4
  simp only [↓rA, rB, Int.reduceEq, Int.reduceLE, Int.reduceLT, Int.reduceToNat, Nat.reduceAdd, Nat.reduceEqDiff, Nat.reduceLT, Nat.reduceLeDiff, Nat.reduceMul, Nat.reduceSub, reduceCtorEq, tbN30, Tryd.results12, h1, h2, h4, List.length_map]
  refine ⟨⟨by omega, by omega⟩, ?_⟩
  refine fun b5 h5 => ?_; replace h5 := newb h5; try simp only [Nb] at h5
  have r4 : ∀ m : Nat, (List.replicate m [V.lit (.int .i64 0)]).flatten = List.replicate m (vint 0) := fun m => by
    induction m with
    | zero => rfl
    | succ m ih => rw [List.replicate_succ, List.flatten_cons, ih, List.replicate_succ]; rfl
  have hb : (b1 ≠ b2 ∧ b2 ≠ b1) ∧ (b1 ≠ b4 ∧ b4 ≠ b1) ∧ (b2 ≠ b4 ∧ b4 ≠ b2) ∧ (b1 ≠ b5 ∧ b5 ≠ b1) ∧ (b2 ≠ b5 ∧ b5 ≠ b2) ∧ (b4 ≠ b5 ∧ b5 ≠ b4) := ⟨h2.1, h4.2.1, h4.1, h5.2.2.1, h5.2.1, h5.1⟩
  simp only [↓rA, rB, Int.reduceEq, Int.reduceLE, Int.reduceLT, Int.reduceToNat, Nat.reduceAdd, Nat.reduceEqDiff, Nat.reduceLT, Nat.reduceLeDiff, Nat.reduceMul, Nat.reduceSub, reduceCtorEq, tbN30, Tryd.results12, hb, List.length_map]
  refine EX_forS Ty.mixed (by kernel_rfl) g.length (fun i S => (∃ ss xs cs, raiseF g (g.take i) = some (ss, xs) ∧ ss.length = i ∧ xs.length = i ∧ RelC cs xs ∧ (∀ j (h : j < g.length), j < i → ∀ t ∈ g[j].inn, 0 ≤ t ∧ t < j) ∧ S.boxes = [(b5, .c (cs.flatten ++ (List.replicate (g.length - i) zE).flatten)), (b4, .c (ss.map vint ++ List.replicate (g.length - i) (vint 0))), (b2, .c zE), (b1, .c [vNds g])]) ∧ S.rows = [] ∧ S.σ 1 = ptr b1 ∧ S.σ 2 = ptr b2 ∧ S.σ 4 = .lit (.slice (some ⟨b4, 0, none⟩) g.length g.length) ∧ S.σ 5 = .lit (.slice (some ⟨b5, 0, none⟩) g.length g.length) ∧ S.σ 24 = vNds g ∧ S.σ 25 = vint g.length ∧ S.σ 26 = vint i) ⟨_, _, List.Sublist.refl _, List.Sublist.refl _, ?_⟩ (fun i S hi ⟨⟨ss, xs, cs, hF, hss, hxs, hR, hwf, gb⟩, gr, g1, g2, g4, g5, g24, g25, g26⟩ => ?_) (fun S ⟨⟨ss, xs, cs, hF, hss, hxs, hR, hwf, gb⟩, gr, g1, g2, g4, g5, g24, g25, g26⟩ => ?_)
  · simp only [↓rA, rB, Int.reduceEq, Int.reduceLE, Int.reduceLT, Int.reduceToNat, Nat.reduceAdd, Nat.reduceEqDiff, Nat.reduceLT, Nat.reduceLeDiff, Nat.reduceMul, Nat.reduceSub, reduceCtorEq, tbN30, Tryd.results12, hb, List.length_map, r4]
    refine ⟨[], [], [], rfl, rfl, rfl, ⟨rfl, fun k h => absurd h (Nat.not_lt_zero k)⟩, fun j _ h => absurd h (Nat.not_lt_zero j), ?_⟩
    rfl
  · obtain ⟨m, hm⟩ : ∃ m, g.length - i = m + 1 := ⟨g.length - i - 1, by omega⟩
    have hm' : g.length - (i + 1) = m := by omega
    rw [hm, List.replicate_succ, List.replicate_succ, List.flatten_cons] at gb
    generalize hZi : List.replicate m (vint 0) = Zi at gb
    generalize hZe : (List.replicate m zE).flatten = Ze at gb
    obtain ⟨W, hW⟩ : ∃ W, W = zE ++ Ze := ⟨_, rfl⟩
    rw [← hW] at gb
    have hcs : cs.length = i := by rw [hR.len]; exact hxs
    have hsl : (ss.map vint).length = i := by rw [List.length_map]; exact hss
    have s1 : ∀ v w : V, List.take i (ss.map vint ++ v :: Zi) ++ [w] ++ List.drop (i + 1) (ss.map vint ++ v :: Zi) = ss.map vint ++ w :: Zi := fun v w => by
      rw [List.take_left' hsl, show ss.map vint ++ v :: Zi = (ss.map vint ++ [v]) ++ Zi by simp, List.drop_left' (by simp [hss])]
      simp
    have s2 : ∀ v : V, List.drop i (ss.map vint ++ v :: Zi) = v :: Zi := fun v => List.drop_left' hsl
    have s3 : ∀ v : V, i + 1 ≤ (ss.map vint ++ v :: Zi).length := fun v => by rw [List.length_append, hsl, List.length_cons]; omega
    have hmem := List.getElem_mem hi
    have hfn := hf _ hmem
    have hinl := hin _ hmem
    have hpre : g.take (i + 1) <+: g := List.take_prefix _ _
    have hst : raiseF g (g.take (i + 1)) = stepM g (ss, xs) g[i] := by rw [List.take_succ_eq_append_getElem hi, raiseF_snoc, hF]; rfl
    have bad : ∀ (X : List (Nat × B)) (Y : List Row), stepM g (ss, xs) g[i] = none → ∃ v bs' rs', Le (.tup [.agg zE, .lit (.int .i64 3)]) v ∧ bs'.Sublist X ∧ rs'.Sublist Y ∧ v = .tup [vE (raiseM g).1, vint (raiseM g).2] ∧ bs' = [] ∧ rs' = [] := fun X Y h => by
      have hr : raiseM g = (exp0, 3) := by rw [raiseM, raiseF_none (hst.trans h) hpre]
      exact ⟨_, [], [], leTup (.cons (leE (h := hd0 0) (l := []) (Le.nil 2) (Le.nil 12)) (.cons (Le.refl _) .nil)), List.nil_sublist _, List.nil_sublist _, by rw [hr], rfl, rfl⟩
    generalize hgi : g[i] = n at *
    simp only [↓rA, rB, Int.reduceEq, Int.reduceLE, Int.reduceLT, Int.reduceToNat, Nat.reduceAdd, Nat.reduceEqDiff, Nat.reduceLT, Nat.reduceLeDiff, Nat.reduceMul, Nat.reduceSub, reduceCtorEq, tbN30, Tryd.results12, gb, gr, g1, g2, g4, g5, g24, g25, g26, hb, Int.ofNat_lt, hi, List.length_map, getD_map _ _ _ hi, hgi, cNd_eq]
    refine fun b7 h7 => ?_; replace h7 := newb h7; try simp only [Nb] at h7
    simp only [↓rA, rB, Int.reduceEq, Int.reduceLE, Int.reduceLT, Int.reduceToNat, Nat.reduceAdd, Nat.reduceEqDiff, Nat.reduceLT, Nat.reduceLeDiff, Nat.reduceMul, Nat.reduceSub, reduceCtorEq, tbN30, Tryd.results12, gb, gr, g1, g2, g4, g5, g24, g25, g26, hb, h7, Int.ofNat_lt, hi, List.length_map, getD_map _ _ _ hi, hgi, cNd_eq, Nat.mul_one, s1]
    refine ⟨s3 _, ?_⟩
    refine AWP.nilRow 8 12 29 (by simp only [↓rA, rB, Int.reduceEq, Int.reduceLE, Int.reduceLT, Int.reduceToNat, Nat.reduceAdd, Nat.reduceEqDiff, Nat.reduceLT, Nat.reduceLeDiff, Nat.reduceMul, Nat.reduceSub, reduceCtorEq, tbN30, Tryd.results12]) (by decide) ?_
    refine EX_forS Ty.mixed (by kernel_rfl) n.inn.length (fun k S => (∃ y, S.σ 8 = .list (some y) 12 ((n.inn.take k).map fun t => cs.getD t.toNat []) ∧ S.rows = [⟨y, 12, 29⟩]) ∧ okIn i (n.inn.take k) = true ∧ S.boxes = [(b7, .c (cN n n.expr.hd (vEs n.expr.args) (vints n.inn))), (b5, .c (cs.flatten ++ W)), (b4, .c (ss.map vint ++ vint (szI ss (n.inn.take k) 1) :: Zi)), (b2, .c zE), (b1, .c [vNds g])] ∧ S.σ 1 = ptr b1 ∧ S.σ 2 = ptr b2 ∧ S.σ 4 = .lit (.slice (some ⟨b4, 0, none⟩) g.length g.length) ∧ S.σ 5 = .lit (.slice (some ⟨b5, 0, none⟩) g.length g.length) ∧ S.σ 6 = vint i ∧ S.σ 7 = ptr b7 ∧ S.σ 24 = vNds g ∧ S.σ 25 = vint g.length ∧ S.σ 26 = vint i ∧ S.σ 35 = vints n.inn ∧ S.σ 36 = vint n.inn.length ∧ S.σ 37 = vint k) ⟨_, _, List.Sublist.refl _, List.Sublist.refl _, ?_⟩ (fun k S hk ⟨⟨y, g8, gr⟩, hok, gb, g1, g2, g4, g5, g6, g7, g24, g25, g26, g35, g36, g37⟩ => ?_) (fun S ⟨⟨y, g8, gr⟩, hok, gb, g1, g2, g4, g5, g6, g7, g24, g25, g26, g35, g36, g37⟩ => ?_)
    · simp only [↓rA, rB, Int.reduceEq, Int.reduceLE, Int.reduceLT, Int.reduceToNat, Nat.reduceAdd, Nat.reduceEqDiff, Nat.reduceLT, Nat.reduceLeDiff, Nat.reduceMul, Nat.reduceSub, reduceCtorEq, tbN30, Tryd.results12, gb, gr, g1, g2, g4, g5, g24, g25, g26, hb, h7, List.length_map]
      exact ⟨⟨_, rfl, rfl⟩, rfl, rfl⟩
    · have hwk := wrap_succ (i := k) (N := n.inn.length) hk (by omega)
      have hmk := List.getElem_mem hk
      have hnok : ¬ (0 ≤ n.inn[k] ∧ n.inn[k] < i) → stepM g (ss, xs) n = none := fun h => by
        have : okIn i n.inn = false := by
          cases e : okIn i n.inn
          · rfl
          · exact absurd (okIn_iff.1 e _ hmk) h
        rw [stepM, hss, this]; rfl
      by_cases t1 : n.inn[k] < 0
      · simp only [↓rA, rB, Int.reduceEq, Int.reduceLE, Int.reduceLT, Int.reduceToNat, Nat.reduceAdd, Nat.reduceEqDiff, Nat.reduceLT, Nat.reduceLeDiff, Nat.reduceMul, Nat.reduceSub, reduceCtorEq, tbN30, Tryd.results12, gb, gr, g1, g2, g4, g5, g6, g7, g8, g24, g25, g26, g35, g36, g37, hb, h7, Int.ofNat_lt, hk, List.length_map, getD_map _ _ _ hk, t1]
        exact bad _ _ (hnok fun h => by omega)
      by_cases t2 : (i : Int) ≤ n.inn[k]
      · simp only [↓rA, rB, Int.reduceEq, Int.reduceLE, Int.reduceLT, Int.reduceToNat, Nat.reduceAdd, Nat.reduceEqDiff, Nat.reduceLT, Nat.reduceLeDiff, Nat.reduceMul, Nat.reduceSub, reduceCtorEq, tbN30, Tryd.results12, gb, gr, g1, g2, g4, g5, g6, g7, g8, g24, g25, g26, g35, g36, g37, hb, h7, Int.ofNat_lt, hk, List.length_map, getD_map _ _ _ hk, t1, t2]
        exact bad _ _ (hnok fun h => by omega)
      obtain ⟨u, hu⟩ : ∃ u : Nat, n.inn[k] = (u : Int) := ⟨n.inn[k].toNat, by omega⟩
      have hui : u < i := by omega
      have hug : u < g.length := by omega
      have huc : u < cs.length := by omega
      have t1' : ¬ (u : Int) < 0 := by omega
      have t2' : ¬ (i : Int) ≤ (u : Int) := by omega
      obtain ⟨f1, f2⟩ := flat_at hR.all huc W
      have f3 : 12 ≤ (List.drop (u * 12) (cs.flatten ++ W)).length := by rw [List.length_drop]; omega
      obtain ⟨c1, c2, c3⟩ := hR.el u huc (by omega)
      have s4 : ∀ v : V, List.drop u (ss.map vint ++ v :: Zi) = vint (ss.getD u 0) :: List.drop (u + 1) (ss.map vint ++ v :: Zi) := fun v => by
        rw [List.drop_eq_getElem_cons (by rw [List.length_append, hsl]; omega), List.getElem_append_left (by rw [hsl]; exact hui)]
        congr 1
        rw [List.getElem_map, List.getD_eq_getElem?_getD, List.getElem?_eq_getElem (by omega)]
        rfl
      simp only [↓rA, rB, Int.reduceEq, Int.reduceLE, Int.reduceLT, Int.reduceToNat, Nat.reduceAdd, Nat.reduceEqDiff, Nat.reduceLT, Nat.reduceLeDiff, Nat.reduceMul, Nat.reduceSub, reduceCtorEq, tbN30, Tryd.results12, gb, gr, g1, g2, g4, g5, g6, g7, g8, g24, g25, g26, g35, g36, g37, hb, h7, Int.ofNat_lt, hk, hi, hug, List.length_map, getD_map _ _ _ hk, hu, t1', t2', Nat.mul_one, s1, s2, s4, f1, c1, c2]
      refine ⟨s3 _, f3, fun y1 => takeRF_2 ?_⟩
      have hkl : (k + 1) * 160 ≤ 140737488355328 := by omega
      have hkt : (List.take k n.inn).length = k := by rw [List.length_take]; omega
      simp only [↓rA, rB, Int.reduceEq, Int.reduceLE, Int.reduceLT, Int.reduceToNat, Nat.reduceAdd, Nat.reduceEqDiff, Nat.reduceLT, Nat.reduceLeDiff, Nat.reduceMul, Nat.reduceSub, reduceCtorEq, tbN30, Tryd.results12, gb, gr, g1, g2, g4, g5, g6, g7, g8, g24, g25, g26, g35, g36, g37, hb, h7, List.length_map, hkt, hkl, hwk]
      refine fun y2 => ⟨_, [⟨y2, 12, 29⟩], List.Sublist.refl _, List.Sublist.cons_cons _ (List.nil_sublist _), ?_⟩
      simp only [↓rA, rB, Int.reduceEq, Int.reduceLE, Int.reduceLT, Int.reduceToNat, Nat.reduceAdd, Nat.reduceEqDiff, Nat.reduceLT, Nat.reduceLeDiff, Nat.reduceMul, Nat.reduceSub, reduceCtorEq, tbN30, Tryd.results12, gb, gr, g1, g2, g4, g5, g6, g7, g8, g24, g25, g26, g35, g36, g37, hb, h7]
      rw [List.take_succ_eq_append_getElem hk, List.map_append, hu]
      refine ⟨⟨y2, ?_, rfl⟩, ?_, ?_⟩
      · simp only [List.map_cons, List.map_nil, Int.toNat_natCast]
        rw [List.getD_eq_getElem?_getD, List.getElem?_eq_getElem huc]
        rfl
      · refine okIn_iff.2 fun t ht => ?_
        rcases List.mem_append.1 ht with ht | ht
        · exact okIn_iff.1 hok t ht
        · obtain rfl := List.mem_singleton.1 ht
          omega
      · rw [szI_snoc, Int.toNat_natCast]
    · rw [List.take_of_length_le (Nat.le_refl _)] at g8 hok gb
      have hni := okIn_iff.1 hok
      have hwf' : ∀ j (h : j < g.length), j < i + 1 → ∀ t ∈ g[j].inn, 0 ≤ t ∧ t < j := fun j h hj => by
        rcases Nat.lt_or_ge j i with h' | h'
        · exact hwf j h h'
        · have : j = i := by omega
          subst this
          rw [hgi]
          exact hni
      generalize hz : szI ss n.inn 1 = z at gb
      have hbx : ∀ (x : List V), (cs ++ [x]).flatten ++ (List.replicate (g.length - (i + 1)) zE).flatten = cs.flatten ++ (x ++ Ze) := fun x => by rw [hm', hZe]; simp
      have hby : (ss ++ [z]).map vint ++ List.replicate (g.length - (i + 1)) (vint 0) = ss.map vint ++ vint z :: Zi := by rw [hm', hZi]; simp
      have hwi := wrap_succ (i := i) (N := g.length) hi (by omega)
      by_cases hk : n.kind = 1 ∨ n.kind = 2 ∨ n.kind = 3
      · have hst' : raiseF g (g.take (i + 1)) = some (ss ++ [z], xs ++ [exp0]) := by
          rw [hst, stepM, hss, hok, if_pos rfl, if_pos hk, hz]
        rcases hk with e | e | e
        all_goals
          simp only [↓rA, rB, Int.reduceEq, Int.reduceLE, Int.reduceLT, Int.reduceToNat, Nat.reduceAdd, Nat.reduceEqDiff, Nat.reduceLT, Nat.reduceLeDiff, Nat.reduceMul, Nat.reduceSub, reduceCtorEq, tbN30, Tryd.results12, gb, gr, g1, g2, g4, g5, g6, g7, g8, g24, g25, g26, g35, g36, g37, hb, h7, Int.ofNat_lt, Nat.lt_irrefl, List.length_map, e, hwi]
          refine ⟨[(b5, .c (cs.flatten ++ W)), (b4, .c (ss.map vint ++ vint z :: Zi)), (b2, .c zE), (b1, .c [vNds g])], [], by simp only [↓rA, rB, Int.reduceEq, Int.reduceLE, Int.reduceLT, Int.reduceToNat, Nat.reduceAdd, Nat.reduceEqDiff, Nat.reduceLT, Nat.reduceLeDiff, Nat.reduceMul, Nat.reduceSub, reduceCtorEq, tbN30, Tryd.results12, gb]; exact List.Sublist.cons _ (List.Sublist.refl _), List.nil_sublist _, ?_⟩
          simp only [↓rA, rB, Int.reduceEq, Int.reduceLE, Int.reduceLT, Int.reduceToNat, Nat.reduceAdd, Nat.reduceEqDiff, Nat.reduceLT, Nat.reduceLeDiff, Nat.reduceMul, Nat.reduceSub, reduceCtorEq, tbN30, Tryd.results12, gb, gr, g1, g2, g4, g5, g6, g7, g8, g24, g25, g26, hb, h7, hwi]
          refine ⟨ss ++ [z], xs ++ [exp0], cs ++ [zE], hst', by simp [hss], by simp [hxs], hR.snoc rfl rfl ?_, hwf', ?_⟩
          · rw [cE_eq]
            exact .cons (Le.refl _) (.cons (Le.refl _) (.cons (Le.refl _) (.cons (Le.refl _) (.cons (Le.refl _) (.cons (Le.refl _) (.cons (Le.refl _) (.cons (Le.nil 2) (.cons (Le.refl _) (.cons (Le.refl _) (.cons (Le.refl _) (.cons (Le.nil 12) .nil)))))))))))
          · rw [hbx, hby, hW]
      · obtain ⟨hk1, hk2, hk3⟩ : ¬ n.kind = 1 ∧ ¬ n.kind = 2 ∧ ¬ n.kind = 3 := ⟨fun e => hk (.inl e), fun e => hk (.inr (.inl e)), fun e => hk (.inr (.inr e))⟩
        have hal := relLL hR n.inn fun t ht => by have := hni t ht; omega
        have hc := node_ok g n (n.inn.map fun t => xs.getD t.toNat exp0) i (by omega) hwf hni
        have hst2 : stepM g (ss, xs) n = if (nodeM g n (n.inn.map fun t => xs.getD t.toNat exp0)).2 = true ∧ ¬ 256 < z then some (ss ++ [z], xs ++ [(nodeM g n (n.inn.map fun t => xs.getD t.toNat exp0)).1]) else none := by
          rw [stepM, hss, hok, if_pos rfl, if_neg hk, hz]
        generalize nodeM g n (n.inn.map fun t => xs.getD t.toNat exp0) = N at hc hst2
        obtain ⟨x, b⟩ := N
        simp only at hst2
        simp only [cNd_eq n, vE, cE_eq x] at hc
        simp only [↓rA, rB, Int.reduceEq, Int.reduceLE, Int.reduceLT, Int.reduceToNat, Nat.reduceAdd, Nat.reduceEqDiff, Nat.reduceLT, Nat.reduceLeDiff, Nat.reduceMul, Nat.reduceSub, reduceCtorEq, tbN30, Tryd.results12, gb, gr, g1, g2, g4, g5, g6, g7, g8, g24, g25, g26, g35, g36, g37, hb, h7, Int.ofNat_lt, Nat.lt_irrefl, List.length_map, hk1, hk2, hk3]
        refine OkF_le (.cons (Le.refl _) (.cons (Le.refl _) (.cons (Le.lists hal) .nil))) _ hc ?_
        simp only [↓rA, rB, Int.reduceEq, Int.reduceLE, Int.reduceLT, Int.reduceToNat, Nat.reduceAdd, Nat.reduceEqDiff, Nat.reduceLT, Nat.reduceLeDiff, Nat.reduceMul, Nat.reduceSub, reduceCtorEq, tbN30, Tryd.results12, gb, gr, g1, g2, g4, g5, g6, g7, g8, g24, g25, g26, hb, h7]
        refine fun b11 h11 => ?_; replace h11 := newb h11; try simp only [Nb] at h11
        cases b
        · simp only [↓rA, rB, Int.reduceEq, Int.reduceLE, Int.reduceLT, Int.reduceToNat, Nat.reduceAdd, Nat.reduceEqDiff, Nat.reduceLT, Nat.reduceLeDiff, Nat.reduceMul, Nat.reduceSub, reduceCtorEq, tbN30, Tryd.results12, gb, gr, g1, g2, g4, g5, g6, g7, g8, g24, g25, g26, hb, h7, h11]
          exact bad _ _ (by rw [hst2, if_neg (by simp)])
        by_cases hz2 : 256 < z
        · simp only [↓rA, rB, Int.reduceEq, Int.reduceLE, Int.reduceLT, Int.reduceToNat, Nat.reduceAdd, Nat.reduceEqDiff, Nat.reduceLT, Nat.reduceLeDiff, Nat.reduceMul, Nat.reduceSub, reduceCtorEq, tbN30, Tryd.results12, gb, gr, g1, g2, g4, g5, g6, g7, g8, g24, g25, g26, hb, h7, h11, Int.ofNat_lt, hi, Nat.mul_one, s2, hz2]
          exact bad _ _ (by rw [hst2, if_neg (by simp [hz2])])
        have hst' : raiseF g (g.take (i + 1)) = some (ss ++ [z], xs ++ [x]) := by
          rw [hst, hst2, if_pos ⟨rfl, hz2⟩]
        have hfl : cs.flatten.length = i * 12 := by rw [flat_len hR.all, hcs]
        have s5 : ∀ y : List V, List.take (i * 12) (cs.flatten ++ W) ++ y ++ List.drop (i * 12 + 12) (cs.flatten ++ W) = cs.flatten ++ (y ++ Ze) := fun y => by
          rw [List.take_left' hfl, hW, show cs.flatten ++ (zE ++ Ze) = (cs.flatten ++ zE) ++ Ze by simp, List.drop_left' (by rw [List.length_append, hfl]; rfl), List.append_assoc]
        have s6 : i * 12 + 12 ≤ (cs.flatten ++ W).length := by
          rw [List.length_append, hfl, hW, List.length_append]
          simp only [List.length_cons, List.length_nil]
          omega
        simp only [↓rA, rB, Int.reduceEq, Int.reduceLE, Int.reduceLT, Int.reduceToNat, Nat.reduceAdd, Nat.reduceEqDiff, Nat.reduceLT, Nat.reduceLeDiff, Nat.reduceMul, Nat.reduceSub, reduceCtorEq, tbN30, Tryd.results12, gb, gr, g1, g2, g4, g5, g6, g7, g8, g24, g25, g26, hb, h7, h11, Int.ofNat_lt, hi, Nat.mul_one, s2, hz2, hwi]
        refine ⟨s6, ?_⟩
        refine ⟨[(b5, .c (cs.flatten ++ (cE x ++ Ze))), (b4, .c (ss.map vint ++ vint z :: Zi)), (b2, .c zE), (b1, .c [vNds g])], [], by rw [cE_eq x, ← s5]; exact List.Sublist.cons _ (List.Sublist.cons _ (List.Sublist.refl _)), List.nil_sublist _, ?_⟩
        simp only [↓rA, rB, Int.reduceEq, Int.reduceLE, Int.reduceLT, Int.reduceToNat, Nat.reduceAdd, Nat.reduceEqDiff, Nat.reduceLT, Nat.reduceLeDiff, Nat.reduceMul, Nat.reduceSub, reduceCtorEq, tbN30, Tryd.results12, gb, gr, g1, g2, g4, g5, g6, g7, g8, g24, g25, g26, hb, h7, h11]
        refine ⟨ss ++ [z], xs ++ [x], cs ++ [cE x], hst', by simp [hss], by simp [hxs], hR.snoc (cE_len x) (okC_cE x) (LeL.refl _), hwf', ?_⟩
        rw [hbx, hby]
  · rw [List.take_of_length_le (Nat.le_refl _)] at hF
    by_cases h0 : g = []
    · have hr : raiseM g = (exp0, 3) := by rw [raiseM, hF]; simp [h0]
      subst h0
      simp only [↓rA, rB, Int.reduceEq, Int.reduceLE, Int.reduceLT, Int.reduceToNat, Nat.reduceAdd, Nat.reduceEqDiff, Nat.reduceLT, Nat.reduceLeDiff, Nat.reduceMul, Nat.reduceSub, reduceCtorEq, tbN30, Tryd.results12, gb, gr, g1, g2, g4, g5, g24, g25, g26, hb, Int.ofNat_lt, Nat.lt_irrefl, List.length_map]
      exact ⟨_, [], [], leTup (.cons (leE (h := hd0 0) (l := []) (Le.nil 2) (Le.nil 12)) (.cons (Le.refl _) .nil)), List.nil_sublist _, List.nil_sublist _, by rw [hr], rfl, rfl⟩
    have hpos : 0 < g.length := List.length_pos_iff.2 h0
    have h0' : ¬ (g.length : Int) = 0 := by omega
    have hw1 : IntKind.i64.wrap ((g.length : Int) - 1) = ((g.length - 1 : Nat) : Int) := by rw [wrap_id (by omega) (by omega)]; omega
    have hlt : ((g.length - 1 : Nat) : Int) < (g.length : Int) := by omega
    have hcl : g.length - 1 < cs.length := by rw [hR.len, hxs]; omega
    have hxl : g.length - 1 < xs.length := by omega
    obtain ⟨f1, f2⟩ := flat_at hR.all hcl (List.replicate (g.length - g.length) zE).flatten
    obtain ⟨c1, c2, c3⟩ := hR.el _ hcl hxl
    have hxe : xs.getLastD exp0 = xs[g.length - 1] := by
      rw [List.getLastD_eq_getLast?, List.getLast?_eq_getElem?, hxs, List.getElem?_eq_getElem hxl]; rfl
    have hrM : raiseM g = if shapeC xs[g.length - 1] = 0 ∧ g = graphC xs[g.length - 1] then (xs[g.length - 1], 0) else (exp0, 3) := by
      rw [raiseM, hF]
      simp only [if_neg h0, hxe]
    obtain ⟨q1, q2⟩ := raise_fit hsz hf hdp hF _ (List.getElem_mem hxl)
    generalize xs[g.length - 1] = x at c3 hrM q1 q2
    generalize cs[g.length - 1] = c at f1 c1 c2 c3
    have hgr := graph_ok x q1 (by unfold big; omega)
    have f3 : 12 ≤ (List.drop ((g.length - 1) * 12) (cs.flatten ++ (List.replicate (g.length - g.length) zE).flatten)).length := by rw [List.length_drop]; omega
    simp only [↓rA, rB, Int.reduceEq, Int.reduceLE, Int.reduceLT, Int.reduceToNat, Nat.reduceAdd, Nat.reduceEqDiff, Nat.reduceLT, Nat.reduceLeDiff, Nat.reduceMul, Nat.reduceSub, reduceCtorEq, tbN30, Tryd.results12, gb, gr, g1, g2, g4, g5, g24, g25, g26, hb, Int.ofNat_lt, Nat.lt_irrefl, List.length_map, h0', hw1, hlt, f1, c1, c2]
    refine ⟨f3, ?_⟩
    have hct : List.take 12 c = c := List.take_of_length_le (by omega)
    have hdc : List.drop 12 c = [] := List.drop_of_length_le (by omega)
    rw [hct]
    refine OkF_le (.cons (leAgg c3) .nil) _ hgr ?_
    simp only [↓rA, rB, Int.reduceEq, Int.reduceLE, Int.reduceLT, Int.reduceToNat, Nat.reduceAdd, Nat.reduceEqDiff, Nat.reduceLT, Nat.reduceLeDiff, Nat.reduceMul, Nat.reduceSub, reduceCtorEq, tbN30, Tryd.results12, g1, g2, g4, g5, hb]
    refine fun b13 h13 => ?_; replace h13 := newb h13; try simp only [Nb] at h13
    have heq := eqNodes_ok g (graphC x) (by unfold big; omega) hf
    have bad3 : ¬ (shapeC x = 0 ∧ g = graphC x) → ∀ (X : List (Nat × B)) (Y : List Row), ∃ v bs' rs', Le (.tup [.agg zE, .lit (.int .i64 3)]) v ∧ bs'.Sublist X ∧ rs'.Sublist Y ∧ v = .tup [vE (raiseM g).1, vint (raiseM g).2] ∧ bs' = [] ∧ rs' = [] := fun h X Y =>
      ⟨_, [], [], leTup (.cons (leE (h := hd0 0) (l := []) (Le.nil 2) (Le.nil 12)) (.cons (Le.refl _) .nil)), List.nil_sublist _, List.nil_sublist _, by rw [hrM, if_neg h], rfl, rfl⟩
    by_cases e : shapeC x = 0
    case neg =>
      simp only [↓rA, rB, Int.reduceEq, Int.reduceLE, Int.reduceLT, Int.reduceToNat, Nat.reduceAdd, Nat.reduceEqDiff, Nat.reduceLT, Nat.reduceLeDiff, Nat.reduceMul, Nat.reduceSub, reduceCtorEq, tbN30, Tryd.results12, g1, g2, g4, g5, hb, h13, e]
      exact ⟨by omega, bad3 (fun h => e h.1) _ _⟩
    simp only [↓rA, rB, Int.reduceEq, Int.reduceLE, Int.reduceLT, Int.reduceToNat, Nat.reduceAdd, Nat.reduceEqDiff, Nat.reduceLT, Nat.reduceLeDiff, Nat.reduceMul, Nat.reduceSub, reduceCtorEq, tbN30, Tryd.results12, g1, g2, g4, g5, hb, h13, e]
    refine OkF_of _ heq ?_
    by_cases e2 : g = graphC x
    · rw [decide_eq_true e2]
      simp only [↓rA, rB, Int.reduceEq, Int.reduceLE, Int.reduceLT, Int.reduceToNat, Nat.reduceAdd, Nat.reduceEqDiff, Nat.reduceLT, Nat.reduceLeDiff, Nat.reduceMul, Nat.reduceSub, reduceCtorEq, tbN30, Tryd.results12, g1, g2, g4, g5, hb, h13, e, c1, c2, hct, hdc]
      exact ⟨_, [], [], leTup (.cons (leAgg c3) (.cons (Le.refl _) .nil)), List.nil_sublist _, List.nil_sublist _, by rw [hrM, if_pos ⟨e, e2⟩], rfl, rfl⟩
    · rw [decide_eq_false e2]
      simp only [↓rA, rB, Int.reduceEq, Int.reduceLE, Int.reduceLT, Int.reduceToNat, Nat.reduceAdd, Nat.reduceEqDiff, Nat.reduceLT, Nat.reduceLeDiff, Nat.reduceMul, Nat.reduceSub, reduceCtorEq, tbN30, Tryd.results12, g1, g2, g4, g5, hb, h13, e]
      exact ⟨by omega, bad3 (fun h => e2 h.2) _ _⟩
end Go.Proofs.YtphkmlogjgeipaaDoor

/- Lowering: what is lowered is raised again (the plain law). -/
set_option maxRecDepth 100000
namespace Go.Lo
open Go.VL Go.Ar
def valM (g : List Nd) (n : Nd) (xs : List E) : E := if n.kind = 1 ∨ n.kind = 2 ∨ n.kind = 3 then exp0 else (nodeM g n (n.inn.map fun t => xs.getD t.toNat exp0)).1
theorem getDE_pre {a b : List E} (h : a <+: b) {i : Nat} (hi : i < a.length) : b.getD i exp0 = a.getD i exp0 := by
  obtain ⟨m, rfl⟩ := h
  simp only [List.getD_eq_getElem?_getD]
  rw [List.getElem?_append_left hi]
theorem valM_pre {g : List Nd} {n : Nd} {a b : List E} (h : a <+: b) (hn : ∀ t ∈ n.inn, 0 ≤ t ∧ t < a.length) : valM g n b = valM g n a := by
  unfold valM
  rw [map_congr' fun t ht => getDE_pre h (i := t.toNat) (by have := hn t ht; omega)]
theorem stepM_some {g : List Nd} {n : Nd} {ss ss' : List Int} {xs xs' : List E} (h : stepM g (ss, xs) n = some (ss', xs')) : okIn ss.length n.inn = true ∧ ss' = ss ++ [szI ss n.inn 1] ∧ xs' = xs ++ [valM g n xs] := by
  unfold stepM at h
  unfold valM
  split at h
  · rename_i h1
    split at h
    · rename_i h2
      cases h
      exact ⟨h1, rfl, by rw [if_pos h2]⟩
    · rename_i h2
      split at h
      · cases h
        exact ⟨h1, rfl, by rw [if_neg h2]⟩
      · cases h
  · cases h
theorem raise_at {g L : List Nd} {ss : List Int} {xs : List E} (h : raiseF g L = some (ss, xs)) : ss.length = L.length ∧ xs.length = L.length ∧ ∀ i (hi : i < L.length), xs.getD i exp0 = valM g L[i] xs := by
  have key : ∀ k, k ≤ L.length → ∀ ss xs, raiseF g (L.take k) = some (ss, xs) → ss.length = k ∧ xs.length = k ∧ ∀ i (hi : i < L.length), i < k → xs.getD i exp0 = valM g L[i] xs ∧ ∀ t ∈ L[i].inn, 0 ≤ t ∧ t < i := by
    intro k
    induction k with
    | zero =>
      intro _ ss xs h
      simp only [List.take_zero, raiseF, List.foldlM_nil] at h
      cases h
      exact ⟨rfl, rfl, fun i _ h => absurd h (Nat.not_lt_zero i)⟩
    | succ k ih =>
      intro hk ss xs h
      have hkl : k < L.length := by omega
      rw [List.take_succ_eq_append_getElem hkl, raiseF_snoc, Option.bind_eq_some_iff] at h
      obtain ⟨⟨ss0, xs0⟩, h0, h1⟩ := h
      obtain ⟨l1, l2, l3⟩ := ih (by omega) ss0 xs0 h0
      obtain ⟨o, rfl, rfl⟩ := stepM_some h1
      have hp : xs0 <+: xs0 ++ [valM g L[k] xs0] := List.prefix_append _ _
      have ho := okIn_iff.1 o
      refine ⟨by simp [l1], by simp [l2], fun i hi hik => ?_⟩
      rcases Nat.lt_or_ge i k with h' | h'
      · obtain ⟨q1, q2⟩ := l3 i hi h'
        refine ⟨?_, q2⟩
        rw [getDE_pre hp (by omega), q1, valM_pre hp fun t ht => by have := q2 t ht; omega]
      · have e : i = k := by omega
        subst e
        refine ⟨?_, fun t ht => by have := ho t ht; omega⟩
        rw [valM_pre hp fun t ht => by have := ho t ht; omega]
        rw [List.getD_eq_getElem?_getD, List.getElem?_append_right (by omega), l2, Nat.sub_self]
        rfl
  obtain ⟨a, b, c⟩ := key L.length (Nat.le_refl _) ss xs (by rw [List.take_of_length_le (Nat.le_refl _)]; exact h)
  exact ⟨a, b, fun i hi => (c i hi hi).1⟩
theorem szI_nat {ss : List Nat} : ∀ (l : List Int) (s : Nat), s + (l.map fun t => ss.getD t.toNat 0).sum ≤ 256 → szI (ss.map (fun n : Nat => (n : Int))) l s = ((s + (l.map fun t => ss.getD t.toNat 0).sum : Nat) : Int)
  | [], s, _ => by simp [szI]
  | t :: r, s, h => by
    simp only [List.map_cons, List.sum_cons] at h ⊢
    have e : (ss.map (fun n : Nat => (n : Int))).getD t.toNat 0 = ((ss.getD t.toNat 0 : Nat) : Int) := by
      simp only [List.getD_eq_getElem?_getD, List.getElem?_map]
      cases ss[t.toNat]? <;> rfl
    rw [szI, e, wrap_id (by omega) (by omega), show ((s : Int) + ((ss.getD t.toNat 0 : Nat) : Int)) = ((s + ss.getD t.toNat 0 : Nat) : Int) by omega, szI_nat r _ (by omega)]
    congr 1
    omega
abbrev ints (l : List Nat) : List Int := l.map fun n : Nat => (n : Int)
theorem putM_get (L : List Nd) (n : Nd) : ∃ h : (putM L n).2 < (putM L n).1.length, (putM L n).1[(putM L n).2] = n := by
  have hm : n ∈ (putM L n).1 := by
    unfold putM
    split
    · assumption
    · simp
  by_cases h : n ∈ L
  · obtain ⟨a, b⟩ := idxM_get h
    refine ⟨?_, ?_⟩
    · simp only [putM, if_pos h]; exact a
    · simp only [putM, if_pos h]; exact b
  · have e : idxM L n = L.length := idxM_not fun j hj e => h (by rw [e]; exact List.getElem_mem hj)
    refine ⟨?_, ?_⟩
    · simp only [putM, if_neg h, e, List.length_append, List.length_cons, List.length_nil]; omega
    · simp only [putM, if_neg h, e]
      rw [List.getElem_append_right (Nat.le_refl _)]
      simp
theorem putM_pre (L : List Nd) (n : Nd) : L <+: (putM L n).1 := by
  unfold putM
  split
  · exact List.prefix_refl _
  · exact List.prefix_append _ _
end Go.Lo
namespace Go.Proofs.YtphkmlogjgeipaaDoor
open Go.VL Go.Ar Go.Lo Go.Proofs.YtphkmlogjgeipaaDoor
theorem put_raise {g L L1 : List Nd} {rs : List Int} {ns : List Nat} {a c : Nat} {xs : List E} {n : Nd} (h : Low L L1 rs ns a c) (hr : raiseF g L1 = some (ints (szs L1), xs)) (hn : n.inn = rs) (hs : 1 + ns.sum ≤ 256)
    (hk : (n.kind = 1 ∨ n.kind = 2 ∨ n.kind = 3) ∨ (nodeM g n (n.inn.map fun t => xs.getD t.toNat exp0)).2 = true) :
    ∃ xs', raiseF g (putM L1 n).1 = some (ints (szs (putM L1 n).1), xs') ∧ xs <+: xs' ∧ xs'.getD (putM L1 n).2 exp0 = valM g n xs := by
  obtain ⟨l1, l2, l3⟩ := raise_at hr
  by_cases hm : n ∈ L1
  · obtain ⟨hq, hqe⟩ := idxM_get hm
    rw [putM_old hm]
    exact ⟨xs, hr, List.prefix_refl _, by rw [l3 _ hq, hqe]⟩
  · rw [putM_new hm]
    have hz : szI (ints (szs L1)) n.inn 1 = ((1 + ns.sum : Nat) : Int) := by
      have := szI_nat (ss := szs L1) n.inn 1 (by rw [hn, h.nse]; exact hs)
      rw [hn, h.nse] at this
      rw [hn]
      exact this
    have hok : okIn (ints (szs L1)).length n.inn = true := okIn_iff.2 fun t ht => by
      rw [hn] at ht
      have := h.rsb t ht
      rw [l1]
      exact this
    have hst : stepM g (ints (szs L1), xs) n = some (ints (szs (L1 ++ [n])), xs ++ [valM g n xs]) := by
      have hz2 : ¬ 256 < szI (ints (szs L1)) n.inn 1 := by rw [hz]; omega
      have e : ints (szs (L1 ++ [n])) = ints (szs L1) ++ [szI (ints (szs L1)) n.inn 1] := by
        rw [szs_snoc, hz, szF, hn, h.nse]
        simp [ints]
      unfold stepM valM
      rw [e]
      simp only [hok, if_true]
      by_cases h3 : n.kind = 1 ∨ n.kind = 2 ∨ n.kind = 3
      · rw [if_pos h3, if_pos h3]
      · rw [if_neg h3, if_neg h3, if_pos ⟨hk.resolve_left h3, hz2⟩]
    refine ⟨xs ++ [valM g n xs], ?_, List.prefix_append _ _, ?_⟩
    · rw [raiseF_snoc, hr]
      exact hst
    · simp only [List.getD_eq_getElem?_getD]
      rw [List.getElem?_append_right (by omega), l2, Nat.sub_self]
      rfl
end Go.Proofs.YtphkmlogjgeipaaDoor

